/- A part of the framework and of the walks: W187 C68 W33 W34 W35 W32 W36 W37 V5. -/
import Derived.Test.YtphdikcommfnhaaGreatDoorGf42
import Derived.Test.YtphdikcommfnhaaGreatDoorGf38
import Derived.Test.YtphdikcommfnhaaGreatDoorGf39
import Derived.Test.YtphdikcommfnhaaGreatDoorGf20
import Derived.Test.YtphdikcommfnhaaGreatDoorGf36
import Derived.Test.YtphdikcommfnhaaGreatDoorGf27
set_option linter.unusedSimpArgs false
set_option linter.unusedVariables false
set_option linter.unusedSectionVars false
set_option maxRecDepth 100000
set_option maxHeartbeats 0

namespace Go.Gv
open Cod (enc dec)
open Go.Proofs Go.Sort Go.Shelf Go.Lib Go.RowKit
section
variable {P:Program}{ρ:Ren}
theorem qkb{tp I tp' I':Nat->Prop}{w w':World}{v:Value}{l:List Int}(h:R tp I w v (enc l))(hI:∀b,I b->I' b/\w'.heap[b]? =w.heap[b]?):R tp' I' w' v (enc l):=by
 have h:R tp I w v (.list 1 (l.map enc)):=h
 show R tp' I' w' v (.list 1 (l.map enc))
 have hint:∀c∈aW (l.map (enc (X:=Int))),∃x:Int,c= .v (.int .i64 x):=fun c hm=>by
  unfold aW at hm
  obtain⟨d,hd,hc⟩:=qxU.1 hm
  obtain⟨x,_,rfl⟩:=qw3.1 hd
  have:c∈ [D.v (.int .i64 x)]:=hc
  exact⟨x,by simpa using this⟩
 generalize l.map (enc (X:=Int))=es at h hint
 cases h with
 | nolist a cap n=>exact .nolist _ _ _
 | list b off cap n _ f hIb hc hm hz hn hcell h1 hRR=>
   refine .list b off cap 1 _ f (hI b hIb).1 hc hm (fun h=>absurd rfl h) hn (fun k c hk=>by rw[qyz (w:=w) (hI b hIb).2];exact hcell k c hk) h1 fun k c hk=>?_
   have hr:=hRR k c hk
   obtain⟨x,hx⟩:=hint c (qwS hk)
   subst hx
   have:=hr.inv_v
   rw[this]
   exact .int .i64 x
def EU(xs:List Value)(n:Nat)(i:_root_.Fin n):List Value:=(xs.drop (i.val*3)).take 3
def qcZ(l:List Match)(i j:_root_.Fin l.length):Int:=xW l[i] l[j]
theorem qF(l:List Match)(i j:_root_.Fin l.length):ltOf (qcZ l) i j=true↔Rh l[i] l[j]:=by
 unfold ltOf qcZ Rh
 rw[decide_eq_true_iff]
theorem qeF(l:List Match):SWO (ltOf (qcZ l)):=by
 refine⟨fun x=>?_,fun x y z h1 h2=>?_,fun x y z h1 h2=>?_⟩
 ·rw[qx8,ne_eq,qF]
  exact A7 _
 ·rw[qF]at*
  exact sx h1 h2
 ·rw[qx8,ne_eq,qF]at*
  intro h3
  rcases Ek h1 with e|e
  ·exact h2 (e ▸h3)
  ·rcases Ek h2 with e'|e'
   ·exact h1 (e' ▸h3)
   ·exact A7 _ (sx h3 (sx e' e))
theorem O1{xs:List Value}{n:Nat}(hx:xs.length=n*3)(i:_root_.Fin n){j:Nat}(hj:j < 3):(EU xs n i)[j]? =xs[i.val*3+j]?:=by
 unfold EU
 rw[qw8,if_pos hj,qxv]
theorem Ws{xs:List Value}{n:Nat}(hx:xs.length=n*3)(i:_root_.Fin n):(EU xs n i).length=3:=by
 unfold EU
 have:=i.isLt
 simp
 omega
def qki(g:Nat)(x:D×Unit)(l:List Match):Prop:=x.1= .clo g []/\l.length<=1000000000/\l.Nodup
def qkc(_:D×Unit)(l r:List Match):Prop:=uK r/\r.length=l.length/\∀m,m∈r↔m∈l
abbrev TN(g el:Nat):Spc:=qvs (Y:=Match) (aD a0) (qki g) qkc el 3
theorem Pd(m:Match):(enc m).cells=[.v (.int .i64 m.b), .v (.int .i64 m.e),enc m.lbs]:=by simp[D.cells]
theorem Y9{g:Nat}(hg:Tri P g s_cmpM.pt)(hT:sG=[]){tp I:Nat->Prop}{w:World}{gb:Nat}{l:List Match}[Inhabited (_root_.Fin l.length)]{xs:List Value}(hx:xs.length=l.length*3)
 (hI:∀b,I b->b < w.heap.size/\b≠gb) (hR:∀ (i j:Nat) (y:Value) (c:D),i < l.length->j < 3->xs[i*3+j]? =some y->∀m,l[i]? =some m->(enc m).cells[j]? =some c->y.oneCell'=true/\R tp I w y c):
 CmpLays P g #[] (EU xs l.length) 3 (qcZ l) gb 0 l.length w:=by
 intro m os dk _ x y
 have hsame:∀b,I b->(sortWorldK (EU xs l.length) 3 w gb 0 m dk os).heap[b]? =w.heap[b]?:=fun b hb=>MD (w:=Sort.ahead w m) (hI b hb).1 (hI b hb).2
 have hgrow:w.heap.size<=(sortWorldK (EU xs l.length) 3 w gb 0 m dk os).heap.size:=by simp[sortWorldK,grow,putRowK,putRow,mapBlock,Sort.ahead]
 generalize sortWorldK (EU xs l.length) 3 w gb 0 m dk os=W at hsame hgrow ⊢
 have hRw:∀z:_root_.Fin l.length,R (fun _=>False) (aO (fun b=>b < W.heap.size/\ ¬I b) (fun _=>False) bJ W) W (.agg (EU xs l.length z).toArray) (enc l[z]):=fun z=>by
  have he:enc l[z]= .agg [.v (.int .i64 l[z].b), .v (.int .i64 l[z].e),enc l[z].lbs]:=by simp
  have hcell:∀ (j:Nat) (v:Value) (c:D),j < 3->(EU xs l.length z)[j]? =some v->(enc l[z]).cells[j]? =some c->v.oneCell'=true/\R tp I w v c:=fun j v c hj h1 h2=>
   hR z.val j v c z.isLt hj (by rw[<-O1 hx z hj];exact h1) l[z] (by simp) h2
  have h3:=Ws hx z
  rw[he]
  refine .agg _ _ (by simp[h3]) (fun v hv=>?_) fun j v c h1 h2=>?_
  ·obtain⟨j,hj,rfl⟩:=qzm hv
   have hj3:j < 3:=by omega
   have hc:j < (enc l[z]).cells.length:=by rw[Pd];exact hj3
   exact(hcell j _ _ hj3 (qwQ hj) (qwQ hc)).1
  ·have hj3:j < 3:=by have:=(qwP.1 h2).1;simpa using this
   have hr:=(hcell j v c hj3 h1 (by rw[Pd];exact h2)).2
   rcases j with _|_|_|j
   ·cases h2;rw[hr.inv_v];exact .int .i64 _
   ·cases h2;rw[hr.inv_v];exact .int .i64 _
   ·cases h2
    exact qkb hr fun b hb=>⟨⟨qxa (hI b hb).1 hgrow,fun h=>h.2 hb,fun h=>h,fun⟨i,r,h,_⟩=>by simp[bJ]at h⟩,hsame b hb⟩
   ·omega
 obtain⟨_,hc⟩:=hg (fun b=>b < W.heap.size/\ ¬I b) (fun _=>False) W [.agg (EU xs l.length x).toArray, .agg (EU xs l.length y).toArray] [enc l[x],enc l[y]] bJ 0 (fun r H'=>r=enc (qcZ l x y)/\H'=bJ) (fun b h=>h.1) ⟨fun b h=>h.elim,fun p hp=>by rw[hT]at hp;cases hp⟩
  ⟨fun i j r s b h=>by simp[bJ]at h,fun i r b h=>by simp[bJ]at h,fun i r h=>by simp[bJ]at h⟩ rfl
  (fun j v c h1 h2=>by
    rcases j with _|_|j
    ·simp only[qyL,qw2]at h1 h2;subst h1;subst h2;exact hRw x
    ·simp only[qxT,qyL,qw2]at h1 h2;subst h1;subst h2;exact hRw y
    ·simp at h1)
  (by
    rw[sE,qj9,Cod.dec_enc,Cod.dec_enc]
    exact⟨trivial,fun z hz=>by subst hz;exact⟨rfl,rfl⟩⟩)
 refine hc.mono ?_
 rintro e w' ⟨v,r,H',tp',rfl,⟨rfl,rfl⟩,_,_,_,hs,_,_,hv⟩
 have hv':v= .int .i64 (qcZ l x y):=R.inv_v hv
 subst hv'
 refine⟨rfl,w'.drawn -W.drawn,w'.heap.extract W.heap.size w'.heap.size,?_⟩
 have hheap:w'.heap=W.heap++w'.heap.extract W.heap.size w'.heap.size:=by
  apply Array.ext_getElem?
  intro b
  by_cases hb:b < W.heap.size
  ·rw[qxI hb]
   exact hs.same b hb (fun⟨i,r,h,_⟩=>by simp[bJ]at h) (fun h=>h)
  ·rw[Array.getElem?_append_right (by omega),qy9]
   have hsz:W.heap.size<=w'.heap.size:=hs.size
   by_cases hb2:b < w'.heap.size
   ·rw[if_pos (by omega)]
    congr 1
    omega
   ·rw[if_neg (by omega),qyf (by omega)]
 have h1:=hs.os
 have h2:=hs.tape
 have h3:=hs.output
 have h4:=hs.drawn
 have h5:W.drawn+ (w'.drawn -W.drawn)=w'.drawn:=by omega
 cases w'
 cases W
 simp only[grow,World.drewN]at*
 subst h1;subst h2;subst h3
 rw[h5,<-hheap]
theorem qfH(l:List Match):(List.finRange l.length).map (fun i=>l[i])=l:=by
 refine qyR (by simp) fun i h1 h2=>?_
 simp
theorem XM{fsort g el:Nat}(L:SlLaysF0.n6 P ρ)(hf:ρ.f 6=fsort)(aE:∀w,(isAgg (ρ.t 24)).run P w= .ok true w)(zE:∀w,(Go.sizeOf (ρ.t 24)).run P w= .ok 3 w)(hT:sG=[])(hg:Tri P g s_cmpM.pt)(eg:eI P g)(ef:eI P fsort):
 Tri P fsort (TN g el).pt:=by
 subst hf
 intro O tp w vs ds H d K hO' htl hsat hlen hargs hA
 obtain⟨id,v,l,ds',x,rfl,hd,hid,⟨hx1,hl5,hnd⟩,hK⟩:=hA
 have hds:ds'=[.clo g []]:=by
  match ds',hd with
  | [],h=>cases h
  | a::r,h=>
    rw[qj8]at h
    match r,h with
    | [],h=>
      simp at h
      subst h
      simp only at hx1
      rw[hx1]
    | b::r,h=>cases h
 subst hds
 match vs,hlen,hargs with
 | [v0,fv],_,hargs=>
 have e0:v0=v:=by
  have:=hargs 0 v0 _ rfl rfl
  cases this;rfl
 have e1:fv= .func (.func g) #[] #[]:=by
  have:=hargs 1 fv _ rfl rfl
  cases this with
  | clo _ xs _ hl _=>
    have:xs=[]:=by simpa using hl
    subst this;rfl
 subst e0;subst e1
 refine⟨ef,?_⟩
 obtain⟨xs,⟨hxl,hx⟩,hkn,hcells⟩:=hsat.ok id _ hid
 have hll:(l.map (enc (X:=Match))).length=l.length:=by simp
 have hkw:∀d∈l.map (enc (X:=Match)),d.cells.length=3:=fun d hd=>(hkn d hd).2
 rcases hx with⟨rfl,h0⟩|⟨gb,cap,cur,rfl,_,hgb,hcap,hcapm,hsz,htake⟩
 ·have hl0:l=[]:=by simpa using h0
  subst hl0
  refine(AnyF.slices_SortFunc_none L none 0 _ w).mono ?_
  rintro e w' ⟨rfl,rfl⟩
  have hH:ah H id (some (.row (.slice none 0 0) el 3 (([]:List Match).map enc)))=H:=by
   funext i
   simp only[ah]
   by_cases hi:i=id
   ·subst hi;simp[hid]
   ·simp[hi]
  refine⟨_,_,_,tp,rfl,hK [] ⟨List.Pairwise.nil,rfl,fun _=>qxR⟩,fun b h=>h,fun b h=> .inl h,htl.1, .refl _ _ _,fun b h=> .inl (by rwa [hH]at h),by rw[hH];exact hsat, .tup [] [] rfl (fun k x c h=>by simp at h)⟩
 rw[hll]at hcap hxl htake ⊢
 by_cases hl0:l=[]
 ·subst hl0
  refine(AnyF.slices_SortFunc_none L (some ⟨gb,0,none⟩) cap _ w).mono ?_
  rintro e w' ⟨rfl,rfl⟩
  have hH:ah H id (some (.row (.slice (some ⟨gb,0,none⟩) (([]:List Match).map (enc (X:=Match))).length cap) el 3 (([]:List Match).map enc)))=H:=by
   funext i
   simp only[ah]
   by_cases hi:i=id
   ·subst hi;simp[hid]
   ·simp[hi]
  refine⟨_,_,_,tp,rfl,hK [] ⟨List.Pairwise.nil,rfl,fun _=>qxR⟩,fun b h=>h,fun b h=> .inl h,htl.1, .refl _ _ _,fun b h=> .inl (by rwa [hH]at h),by rw[hH];exact hsat, .tup [] [] rfl (fun k x c h=>by simp at h)⟩
 have hlp:0 < l.length:=List.length_pos_iff.2 hl0
 letI inst:Inhabited (_root_.Fin l.length):=⟨⟨0,hlp⟩⟩
 have hbo:(Res.row (.slice (some ⟨gb,0,none⟩) l.length cap) el 3 (l.map enc)).blk=some gb:=rfl
 have hid':H id=some (.row (.slice (some ⟨gb,0,none⟩) l.length cap) el 3 (l.map enc)):=by rw[hid,hll]
 have hown:bI H gb:=⟨id,_,hid',hbo⟩
 have hcellAt:∀ (i j:Nat) (y:Value) (c:D),i < l.length->j < 3->xs[i*3+j]? =some y->∀m,l[i]? =some m->(enc m).cells[j]? =some c->y.oneCell'=true/\R tp (aO O tp H w) w y c:=fun i j y c hi hj hy m hm hc=>by
  refine hcells (i*3+j) y c hy ?_
  rw[dn hkw hj,qw6,hm]
  exact hc
 have hgs:gb < w.heap.size:=(qwW.1 hgb).1
 have hlays:=Y9 (gb:=gb) hg hT (tp:=tp) (I:=aO O tp H w) (w:=w) hxl (fun b hb=>⟨hb.1,fun e=>hb.2.2.2 (e ▸hown)⟩) hcellAt
 have hevl:∀z:_root_.Fin l.length,(EU xs l.length z).length=3:=Ws hxl
 have hone:∀ (z:_root_.Fin l.length),∀y∈EU xs l.length z,y.oneCell'=true:=fun z y hy=>by
  obtain⟨j,hj,rfl⟩:=qzm hy
  have hj3:j < 3:=by have:=hevl z;omega
  have hc:j < (enc l[z]).cells.length:=by rw[Pd];exact hj3
  exact(hcellAt z.val j _ _ z.isLt hj3 (by rw[<-O1 hxl z hj3];exact qwQ hj) l[z] (by simp) (qwQ hc)).1
 have hfm:(List.finRange l.length).flatMap (EU xs l.length)=xs:=by
  refine qxM fun t=>?_
  by_cases ht:t < l.length*3
  ·have hm:t % 3 < 3:=qyd _ (by decide)
   have hdm:t=(t/3) *3+t % 3:=by have:=qx5 t 3;omega
   have hq:t/3 < l.length:=by omega
   have h2:=OY (f:=EU xs l.length) (n:=3) (l:=List.finRange l.length) (fun x _=>hevl x) (i:=t/3) hm
   rw[<-hdm]at h2
   rw[h2]
   have h3:(List.finRange l.length)[t/3]? =some ⟨t/3,hq⟩:=by
    rw[qwQ (by simpa using hq)];simp
   rw[h3,qw7,O1 hxl _ hm]
   congr 1
   exact hdm.symm
  ·have h4:=OX (f:=EU xs l.length) (n:=3) (l:=List.finRange l.length) (fun x _=>hevl x)
   rw[qxm (by rw[h4];simp;omega),qxm (by omega)]
 have hcur:∀j,j < l.length*3->cur[j]? =xs[j]?:=fun j hj=>by
  rw[<-htake,qw8,if_pos hj,qxl]
 have hsz0:(List.finRange l.length).toArray.size=l.length:=by simp
 have hH:HoldsK (EU xs l.length) 3 w gb 0 (List.finRange l.length).toArray:=by
  intro j hj
  have hj':j < l.length*3:=by simpa using hj
  refine⟨?_,OW hgb⟩
  have h6:xs[j]? =(flatK (EU xs l.length) 3 (List.finRange l.length).toArray).toList[j]?:=congrArg (fun z:List Value=>z[j]?) ((J9 (EU xs l.length) 3 hevl (List.finRange l.length)).trans hfm).symm
  rw[UR hgb,qxE,hcur j hj',h6,qxl,qxS hj,getElem!_pos _ j hj]
  rfl
 have hndi:∀x y:_root_.Fin l.length,l[x]=l[y]->x=y:=fun x y e=>by
  have hp:=qy1.1 hnd
  apply Fin.ext
  rcases qzA x.val y.val with h|h|h
  ·exact absurd e (hp x.val y.val x.isLt y.isLt h)
  ·exact h
  ·exact absurd e.symm (hp y.val x.val y.isLt x.isLt h)
 have hcall:=AnyQ.slices_SortFunc_total L 3 aE zE (EU xs l.length) hevl hone (qcZ l) (qeF l) g #[] gb 0 cap (List.finRange l.length).toArray w eg (by rw[hsz0];exact hlays) hH hgs (by rw[hsz0];omega) (fun x y h1 h2=>by
  rw[qx8,ne_eq,qF]at h1 h2
  rcases Ek h1 with e|e
  ·exact hndi _ _ e
  ·exact absurd e h2)
 rw[hsz0]at hcall
 refine hcall.mono ?_
 rintro e w' ⟨rfl,n,os,hw'⟩
 simp only[List.toList_toArray]at hw'
 generalize hl':((List.finRange l.length).mergeSort fun x y=>!(ltOf (qcZ l)) y x)=l' at hw'
 have hlen':l'.length=l.length:=by rw[<-hl'];simp
 have hwo:∀b,b < w.heap.size->b≠gb->w'.heap[b]? =w.heap[b]?:=fun b hb hne=>by
  rw[hw'];exact MD (w:=Sort.ahead w n) hb hne
 have hthis:w'.heap[gb]? =some (.cells (putCells _root_.id 0 (flatK (EU xs l.length) 3 l'.toArray) cur) el (0,0)):=by
  rw[hw'];exact qa3 (w:=Sort.ahead w n) hgb
 have hws:w.heap.size<=w'.heap.size:=by
  rw[hw'];simp[sortWorldK,grow,putRowK,putRow,mapBlock,Sort.ahead]
 have hos:w'.os=w.os/\w'.tape=w.tape/\w'.output=w.output/\w.drawn<=w'.drawn:=by
  rw[hw'];exact⟨rfl,rfl,rfl,Nat.le_add_right _ _⟩
 clear hw' hcall
 have htp:∀b,tp b->b≠gb:=fun b hb e=>(hsat.out id _ gb hid' hbo).2 (e ▸hb)
 have htapes:∀b,tp b->TapeStep w w' b:=fun b hb=> .same (hwo b (htl.1 b hb) (htp b hb))
 have hperm:l'.Perm (List.finRange l.length):=by rw[<-hl'];exact List.mergeSort_perm _ _
 have hsort:uK (l'.map fun i=>l[i]):=by
  have h1:l'.Pairwise fun x y=>(!(ltOf (qcZ l)) y x)=true:=by
   rw[<-hl']
   refine List.pairwise_mergeSort (fun a b c h1 h2=>?_) (fun a b=>?_) _
   ·simp only[qyu,qx8,ne_eq,qF]at h1 h2 ⊢
    intro h3
    rcases Ek h1 with e|e
    ·exact h2 (e ▸h3)
    ·exact h2 (sx h3 e)
   ·by_cases h:Rh l[b] l[a]
    ·have:¬Rh l[a] l[b]:=fun h2=>A7 _ (sx h h2)
     have h3:ltOf (qcZ l) a b=false:=by rw[qx8,ne_eq,qF];exact this
     rw[h3];simp
    ·have h3:ltOf (qcZ l) b a=false:=by rw[qx8,ne_eq,qF];exact h
     rw[h3];simp
  have h2:l'.Nodup:=hperm.nodup_iff.2 (List.nodup_finRange _)
  unfold uK
  rw[qzB]
  refine(h1.and h2).imp fun {x y} h=>?_
  have h3:=h.1
  simp only[qyu,qx8,ne_eq,qF]at h3
  rcases Ek h3 with e|e
  ·exact absurd (hndi _ _ e).symm h.2
  ·exact e
 have hmem:∀m,m∈ (l'.map fun i=>l[i]) ↔m∈l:=fun m=>by
  have:=(hperm.map fun i=>l[i]).mem_iff (a:=m)
  rwa [qfH]at this
 have hK':=hK (l'.map fun i=>l[i]) ⟨hsort,by simp[hlen'],hmem⟩
 rw[hll]at hK'
 generalize hH2:ah H id (some (.row (.slice (some ⟨gb,0,none⟩) l.length cap) el 3 ((l'.map fun i=>l[i]).map enc)))=H2 at hK'
 have hown2:∀b,bI H2 b->bI H b:=fun b ⟨i,r,h1,h2⟩=>by
  rw[<-hH2]at h1
  simp only[ah]at h1
  split at h1
  ·cases h1;cases h2;exact hown
  ·exact⟨i,r,h1,h2⟩
 have hmove:∀y c,R tp (aO O tp H w) w y c->R tp (aO O tp H2 w') w' y c:=fun y c hr=>hr.mono (fun _ h=>h) (fun b hb=>⟨⟨qxa hb.1 hws,hb.2.1,hb.2.2.1,fun h=>hb.2.2.2 (hown2 b h)⟩,hwo b hb.1 (fun e=>hb.2.2.2 (e ▸hown))⟩) htapes
 have hget:∀i r,H2 i=some r->(i=id/\r= .row (.slice (some ⟨gb,0,none⟩) l.length cap) el 3 ((l'.map fun i=>l[i]).map enc))\/(i≠id/\H i=some r):=fun i r h=>by
  rw[<-hH2]at h
  simp only[ah]at h
  split at h
  ·rename_i e;cases h;exact .inl ⟨e,rfl⟩
  ·rename_i e;exact .inr ⟨e,h⟩
 refine⟨_,_,H2,tp,rfl,hK',fun b h=>h,fun b h=> .inl h,fun b hb=>qxa (htl.1 b hb) hws,⟨hos.1,hos.2.1,hos.2.2.1,hws,fun b hb ho ht=>hwo b hb (fun e=>ho (e ▸hown)),htapes,hos.2.2.2⟩,fun b h=> .inl (hown2 b h),⟨?_,?_,?_⟩, .tup [] [] rfl (fun k x c h=>by simp at h)⟩
 ·intro i j r s b h1 h2 h3 h4
  rcases hget i r h1 with⟨rfl,rfl⟩|⟨n1,k1⟩
  ·rcases hget j s h2 with⟨rfl,rfl⟩|⟨n2,k2⟩
   ·rfl
   ·exact hsat.dis _ j _ s b hid' k2 h3 h4
  ·rcases hget j s h2 with⟨rfl,rfl⟩|⟨n2,k2⟩
   ·exact hsat.dis i _ r _ b k1 hid' h3 h4
   ·exact hsat.dis i j r s b k1 k2 h3 h4
 ·intro i r b h1 h2
  rcases hget i r h1 with⟨rfl,rfl⟩|⟨n1,k1⟩
  ·exact hsat.out _ _ b hid' h2
  ·exact hsat.out i r b k1 h2
 ·intro i r h1
  rcases hget i r h1 with⟨rfl,rfl⟩|⟨n1,k1⟩
  ·have hfml':=OX (f:=EU xs l.length) (n:=3) (l:=l') (fun x _=>hevl x)
   have hps:(putCells _root_.id 0 (flatK (EU xs l.length) 3 l'.toArray) cur).size=cur.size:=by simp[putCells]
   refine⟨l'.flatMap (EU xs l.length),⟨by simp;rw[<-List.length_flatMap];exact hfml', .inr ⟨gb,cap,_,by simp[hlen'],qxi _,hthis,by simp;omega,hcapm,by rw[hps,hsz],?_⟩⟩,fun d hd=>?_,fun j y c h1 h2=>?_⟩
   ·simp only[qxC,hlen']
    apply qxM
    intro j
    rw[qw8]
    by_cases hj:j < l.length*3
    ·have hjc:j < cur.size:=by
      have:l.length*3<=cap*3:=qxq 3 hcap
      omega
     have hjf:j < (flatK (EU xs l.length) 3 l'.toArray).size:=by simp[hlen'];exact hj
     rw[if_pos hj,qxl,<-J9 (EU xs l.length) 3 hevl l',qxl]
     simp only[putCells,Array.getElem?_mapIdx,qxS hjc,qyG,qxi,qxE,hjf,and_self,if_true,Nat.sub_zero,id_eq]
     rw[qxS hjf,getElem!_pos _ j hjf]
    ·rw[if_neg hj,qxm (by rw[hfml',hlen'];omega)]
   ·obtain⟨z,_,rfl⟩:=qw3.1 hd
    exact⟨Cod.kn z,Cod.wid z⟩
   ·have ht:j < l'.length*3:=by rw[<-hfml'];exact(qwP.1 h1).1
    have hm:j % 3 < 3:=qyd _ (by decide)
    have hdm:j=(j/3) *3+j % 3:=by have:=qx5 j 3;omega
    have hq:j/3 < l'.length:=by omega
    have h5:=OY (f:=EU xs l.length) (n:=3) (l:=l') (fun x _=>hevl x) (i:=j/3) hm
    rw[<-hdm,h1,qwQ hq,qw7,O1 hxl _ hm]at h5
    rw[hdm,dn (fun d hd=>by obtain⟨z,_,rfl⟩:=qw3.1 hd;exact Cod.wid z) hm,qw6,qw6,qwQ hq]at h2
    obtain⟨a1,a2⟩:=hcellAt (l'[j/3]).val (j % 3) y c (l'[j/3]).isLt hm h5.symm l[l'[j/3]] (by simp) h2
    exact⟨a1,hmove _ _ a2⟩
  ·have hne:∀b,r.blk=some b->b≠gb:=fun b hb e=>n1 (hsat.dis i id r _ gb k1 hid' (e ▸hb) hbo)
   exact(hsat.ok i r k1).conv hmove (fun b hb=>hwo b ((hsat.ok i r k1).lt hb) (hne b hb))
end
end Go.Gv

namespace Go.Gv
open Go.Proofs
def rG:CC:=gq Tryz.f80 [1] { bx:=[7] } _
def ra:List aj:=[.tmp 2]
theorem Hw:ak Tryz.prog tr [1] rG ra 8:=fo
def il:CC:=gq Tryz.f72 [2] { bx:=[1,31],cu:=[1] } _
def gZ:List aj:=[.tmp 4]
theorem yB:ak Tryz.prog bP [2] il gZ 34:=fo
def ij:CC:=gq Tryz.f73 [2] { bx:=[1,24] } _
def gY:List aj:=[.tmp 4]
theorem yz:ak Tryz.prog dV [2] ij gY 27:=fo
def tM:CC:=gq Tryz.f120 [1,2002002] {} _
def sT:List aj:=[.cell 2 true 13]
theorem JC:ak Tryz.prog qs [1,2002002] tM sT 11:=fo
def rF:CC:=gq Tryz.f169 [1,2021003,1020020] {} _
def qZ:List aj:=[.cell 2 true 7]
theorem Hv:ak Tryz.prog jB [1,2021003,1020020] rF qZ 24:=fo
def dr:CC:=gq Tryz.f71 [1] { bx:=[41] } _
def dj:List aj:=[.tmp 2]
theorem oQ:ak Tryz.prog dW [1] dr dj 44:=fo
def ga:CC:=gq Tryz.f116 [1] {} _
def fP:List aj:=[.tmp 2]
theorem wl:ak Tryz.prog cW [1] ga fP 7:=fo
def fB:CC:=gq Tryz.f40 [2] { bx:=[17,20],fz:=[(17,1),(20,13)] } _
def fk:List aj:=[.tmp 4]
theorem uq:ak Tryz.prog fV [2] fB fk 49:=fo
def fA:CC:=gq Tryz.f78 [3] {} _
def fj:List aj:=[.tmp 6]
theorem uo:ak Tryz.prog dC [3] fA fj 33:=fo
def ax:CC:=gq Tryz.f130 [3] {} _
def aw:List aj:=[.tmp 6]
theorem te:ak Tryz.prog ft [3] ax aw 115:=fo
def vH:CC:=gq Tryz.f76 [1] {} _
def uW:List aj:=[.tmp 2]
theorem LN:ak Tryz.prog nI [1] vH uW 11:=fo
def iu:CC:=gq Tryz.f126 [1] {} _
def iq:List aj:=[.tmp 2]
theorem BJ:ak Tryz.prog nH [1] iu iq 58:=fo
def gc:CC:=gq Tryz.f77 [1] {} _
def fQ:List aj:=[.tmp 2]
theorem zS:ak Tryz.prog ld [1] gc fQ 22:=fo
def bq:CC:=gq Tryz.f75 [] {} _
def bj:List aj:=[.tmp 4]
theorem gl:ak Tryz.prog aL [] bq bj 9:=fo
def bT:CC:=gq Tryz.f125 [] {} _
def bL:List aj:=[.tmp 4]
theorem jt:ak Tryz.prog cg [] bT bL 19:=fo
end Go.Gv

namespace Go.Gv
open Cod (enc dec)
variable {S S0:Nat->Spc}
end Go.Gv

namespace Go.Gv
open Cod (enc dec)
variable {S S0:Nat->Spc}
theorem VU{a b A B:Int}(h0:0<=a)(h1:a<=A)(h2:0<=b)(h3:b<=B):0<=a*b/\a*b<=A*B:=⟨qzb h0 h2,Int.mul_le_mul h1 h3 h2 (by omega)⟩
def PPat(n:Nat)(p:Pat):Prop:=eG p<=n/\pq bw p=true
theorem PPat.kid{n:Nat}{p k:Pat}(h:PPat (n+1) p)(hk:k∈p.kids):PPat n k:=by
 have h1:=jq hk
 have h2:=h.1
 exact⟨by omega,QY h.2 hk⟩
abbrev yv:Spc:=aJ (a1 Pat) (fun _=>True) (enc (X:=Bool)) fun x y=>y=pq bw x
abbrev qal(n:Nat):Spc:=aJ (a1 Pat) (PPat n) (enc (X:=Int)) fun x y=>y=km x
end Go.Gv

namespace Go.Gv
open Cod (enc dec)
variable {S S0:Nat->Spc}
abbrev qbs:D:= .v (.slice none 0 0)
def quC(x:Pat)(l:List Pat):Prop:=l.length+ (aM x).length<=100000000
theorem qi6{ks:List Pat}{k:Nat}{x:Pat}{l:List Pat}(hx:ks[k]? =some x)(h:l.length+ (ks.flatMap aM).length<=100000000):quC x (l++ (ks.take k).flatMap aM):=by
 have:ks=ks.take k++x::ks.drop (k+1):=by rw[<-gL hx,qxs]
 rw[this]at h
 simp only[qzn,qxt,qxd]at h
 unfold quC
 rw[qxd]
 omega
abbrev N0:Spc:=aJ (a1 Pat) (fun x=>pq bw x=true) (enc (X:=Int)) fun x y=>y=km x
end Go.Gv

namespace Go.Gv
open Cod (enc dec)
variable {S S0:Nat->Spc}
abbrev qaa:Spc:=aJ (a1 Cond) (fun _=>True) (enc (X:=Bool)) fun x y=>(y=true↔x=Cond0)
theorem Nz:aq vE uT S (a1 Cond) (fun _=>True) (enc (X:=Bool)) fun x y=>(y=true↔x=Cond0):=by
 rintro⟨op,n,a,v,l,f,ks⟩ -
 simp[vE,uT,Cond0]
 repeat' first|apply And.intro|intro _
 all_goals simp_all
abbrev N3:Spc:=aJ (a1 Pat) (fun _=>True) (enc (X:=Bool)) fun x y=>y=Ac x
theorem NC(h1:S xP=qaa):aq vG uV S (a1 Pat) (fun _=>True) (enc (X:=Bool)) fun x y=>y=Ac x:=by
 rintro p -
 simp[vG,uV,h1, -Bool.forall_bool]
 clear h1
 repeat' first|apply And.intro|intro _
 all_goals (rw[qxx,A5];unfold vP;simp_all;try omega)
abbrev A1:Spc:=aJ (a1 Pat) (fun _=>True) (enc (X:=Bool)) fun x y=>y=uu bw x
theorem Lj(h1:S bu=zy):aq tK sR S (a1 Pat) (fun _=>True) (enc (X:=Bool)) fun x y=>y=uu bw x:=by
 rintro p -
 simp[tK,sR,h1,uu, -Bool.forall_bool]
 clear h1
 repeat' first|apply And.intro|intro _
 all_goals (first|omega|simp_all;try omega)
abbrev wb:Spc:=aJ (a1 Pat) (fun _=>True) (enc (X:=Bool)) fun x y=>y=xt x
theorem In:aq rE qY S (a1 Pat) (fun _=>True) (enc (X:=Bool)) fun x y=>y=xt x:=by
 rintro p -
 simp[rE,qY,xt]
 repeat' first|apply And.intro|intro _
 all_goals (first|omega|(rw[qxx];simp;omega))
end Go.Gv

namespace Go.Gv
open Cod (enc dec)
variable {S S0:Nat->Spc}
theorem NA(n:Nat)(h1:S jY=qal n):aq vF uU S (a1 Pat) (PPat (n+1)) (enc (X:=Int)) fun x y=>y=km x:=by
 rintro p hp
 have hk:∀k∈p.kids,PPat n k:=fun k=>hp.kid
 have hs:∀k∈p.kids,0<=km k/\km k<=1000:=fun k h=>XS (v:=bw) k (hk k h).2
 simp[vF,uU]
 intro _
 refine ai (X:=Int) [1,7] [] p.kids.length (fun k n=>n=iy (p.kids.take k) 0) (fun n=>[(3,enc n)]) (fun _=>[]) 0 (by simp) (by simp) (by omega) (by simp) (by simp) (by simp[iy]) (by simp) (by simp) ?_ ?_
 ·rintro k m hkl hP
  obtain⟨x,hx⟩:=cj hkl
  have hx1:=bh hx
  obtain⟨_,hgx⟩:=qwP.1 hx
  have hm:=wP (p.kids.take k) 0 (by omega) (by omega) (fun y hy=>(hs y (qxc hy)).1)
  have h2:=hs x hx1
  rw[<-hP]at hm
  have q1:=hk x hx1
  simp[h1,hkl,hx,hgx,q1]
  refine⟨by simp only[InR];omega,?_⟩
  rw[br hx,TK,<-hP,iy,iy]
 ·rintro m hP
  have hm:=wP (p.kids.take p.kids.length) 0 (by omega) (by omega) (fun y hy=>(hs y (qxc hy)).1)
  rw[<-hP]at hm
  rw[qxn]at hP
  have hn:=(MG hp.2).2.2
  unfold xt at hn
  rw[decide_eq_true_eq]at hn
  rw[vZ,Gy,<-hP]
  simp
  intro _
  refine⟨fun h=>fun h'=>absurd h h',fun h0=>⟨fun h6=>?_,fun h6=>by rw[if_neg h0,if_neg h6]⟩⟩
  rw[if_neg h0,if_pos h6]
  have hn:=hn h6
  refine⟨fun e=>by rw[if_neg (by omega),if_pos e],fun e=>⟨fun e2=>?_,fun e2=>?_⟩⟩
  ·have h2:=VU hm.1 hm.2 (show 0<=p.mn+1 by omega) (show p.mn+1<=17 by omega)
   rw[if_pos (by omega)]
   exact⟨by simp only[InR];omega,by simp only[InR];omega,rfl⟩
  ·have h2:=VU hm.1 hm.2 (show 0<=p.mx by omega) (show p.mx<=16 by omega)
   rw[if_neg (by omega),if_neg e]
   exact⟨by simp only[InR];omega,rfl⟩
end Go.Gv

namespace Go.Gv
open Cod (enc dec)
variable {S S0:Nat->Spc}
def FunOnP{X Y:Type}[Cod X][Cod Y](S:Nat->Spc)(d:D)(l:List X)(p:X->Y):Prop:=
 ∃g caps pc,d= .clo g caps/\S g= .pure pc/\∀x∈l,pc.pre (enc x::caps)/\∀r,pc.post (enc x::caps) r->r=enc (p x)
theorem FunOnP.useB{X:Type}[Cod X]{S:Nat->Spc}{d:D}{l:List X}{p:X->Bool}(h:FunOnP S d l p)(x:X)(hx:x∈l){d':Nat}{H:ab}{K:D->ab->Prop}(hk:∀y:Bool,(∀q,FunOnP S d l q->y=q x)->K (.v (.bool y)) H):AJ S d d' [enc x] H K:=by
 obtain⟨g,caps,pc,rfl,h1,h2⟩:=h
 simp only[AJ,h1,Spc.pt]
 refine⟨(h2 x hx).1,fun r hr=>?_⟩
 have e:=(h2 x hx).2 r hr
 rw[e]
 refine hk (p x) fun q hq=>?_
 obtain⟨g',caps',pc',e',k1,k2⟩:=hq
 cases e'
 rw[h1]at k1
 cases k1
 exact aK (e.symm.trans ((k2 x hx).2 r hr))
theorem FunIs.on{X Y:Type}[Cod X][Cod Y]{S:Nat->Spc}{d:D}{p:X->Y}(h:FunIs S d p)(l:List X):FunOnP S d l p:=by
 obtain⟨g,caps,pc,h1,h2,h3⟩:=h
 exact⟨g,caps,pc,h1,h2,fun x _=>h3 x⟩
theorem FS{X Y:Type}[Cod X][Cod Y]{S:Nat->Spc}{g:Nat}{c:D}{l:List X}{pre:X×D×Unit->Prop}{post:X×D×Unit->Y->Prop}{p:X->Y}(h:S g=aJ (aE X (aD a0)) pre enc post)(hp:∀x∈l,pre (x,c,()))(hq:∀x∈l,∀y,post (x,c,()) y->y=p x):FunOnP S (.clo g [c]) l p:=by
 refine⟨g, [c],_,rfl,h,fun x hx=>⟨⟨(x,c,()),by simp,hp x hx⟩,fun r hr=>?_⟩⟩
 obtain⟨y,rfl,hy⟩:=hr (x,c,()) (by simp) (hp x hx)
 rw[hq x hx y hy]
theorem VO(x:Pat):D.agg [D.v (Value.int IntKind.i64 x.op),D.v (Value.int IntKind.i64 x.cond.op),D.v (Value.string x.cond.name),D.v (Value.string x.cond.arg),D.v (Value.string x.cond.val),D.v (Value.string x.cond.lab),D.v (Value.bool x.cond.fold),D.list 7 (List.map enc x.cond.kids),D.v (Value.string x.lab),D.v (Value.string x.reg),D.v (Value.int IntKind.i64 x.mn),D.v (Value.int IntKind.i64 x.mx),D.list 13 (List.map enc x.kids)]=enc x:=by simp
def Pw(S0:Nat->Spc)(x:List Pat×D×Unit):Prop:=∃p:Pat->Bool,FunOnP S0 x.2.1 x.1 p
def qdC(S0:Nat->Spc)(x:List Pat×D×Unit)(y:Int):Prop:=∀p:Pat->Bool,FunOnP S0 x.2.1 x.1 p->y=gF x.1 p
abbrev qit(S0:Nat->Spc):Spc:=aJ (aE (List Pat) (aD a0)) (Pw S0) enc (qdC S0)
theorem sA:aq eC eA S (aE (List Pat) (aD a0)) (Pw S) enc (qdC S):=by
 rintro⟨l,d,⟨⟩⟩ ⟨p,hp⟩
 simp at hp
 simp[eC,eA]
 intro _
 refine ai (X:=Unit) [0,1] [] l.length (fun k _=>∀p:Pat->Bool,FunOnP S d l p->∀x∈l.take k,p x=false) (fun _=>[]) (fun _=>[]) () (by simp) (by simp) (by omega) (by simp) (by simp) (by simp) (by simp) (by simp) ?_ ?_
 ·intro k _ hk hP
  simp
  refine⟨hk,fun x hx=>?_⟩
  rw[VO x]
  refine hp.useB x (bh hx) fun y hy=>?_
  simp
  refine⟨fun h=>?_,fun h p' hp'=>?_⟩
  ·intro p' hp'
   exact(ux hx (by rw[<-hy p' hp',h]) (hP p' hp')).symm
  ·rw[br hx]
   intro z hz
   rcases qwU.1 hz with hz|hz
   ·exact hP p' hp' z hz
   ·simp at hz;subst hz;rw[<-hy p' hp',h]
 ·intro _ hP
  simp
  intro p' hp'
  exact(mB (by simpa using hP p' hp')).symm
def qdD(S0:Nat->Spc)(x:List Pat×D×Unit)(y:Bool):Prop:=∀p:Pat->Bool,FunOnP S0 x.2.1 x.1 p->y=x.1.any p
abbrev N9(S0:Nat->Spc):Spc:=aJ (aE (List Pat) (aD a0)) (Pw S0) enc (qdD S0)
theorem qw(h1:S jw=qit S0):aq dF dx S (aE (List Pat) (aD a0)) (Pw S0) enc (qdD S0):=by
 rintro⟨l,d,⟨⟩⟩ hp
 simp[dF,dx,h1, -Bool.forall_bool]
 refine⟨hp,fun y hy p' hp'=>?_⟩
 rw[hy p' hp']
 exact uw p' l
abbrev Mo(n:Nat):Spc:=aJ (a2 Pat Int) (fun x=>eG x.1<=n/\0<=x.2/\x.2<=101) (enc (X:=Bool)) fun x y=>y=di x.1 x.2
def qhx(n:Nat)(x:Pat×D×Unit):Prop:=∃d:Int,x.2.1= .cptr [enc d] 0/\eG x.1<=n/\0<=d/\d<=100
def qdv(x:Pat×D×Unit)(y:Bool):Prop:=∀d:Int,x.2.1= .cptr [enc d] 0->y=!di x.1 (d+1)
abbrev qam(n:Nat):Spc:=aJ (aE Pat (aD a0)) (qhx n) enc qdv
theorem Df(n:Nat)(h1:S ia=Mo n):aq lX lG S (aE Pat (aD a0)) (qhx n) enc qdv:=by
 rintro⟨p,d,⟨⟩⟩ ⟨e,hd,h2,h3,h4⟩
 simp at hd h2
 subst hd
 simp[lX,lG,h1,qdv,h2, -Bool.forall_bool]
 exact⟨by simp only[InR];omega,by omega⟩
theorem G5(n:Nat)(h0:S0 fq=qam n)(h1:S aI=N9 S0):aq pP oW S (a2 Pat Int) (fun x=>eG x.1<=n+1/\0<=x.2/\x.2<=101) (enc (X:=Bool)) fun x y=>y=di x.1 x.2:=by
 rintro⟨p,d⟩ ⟨hn,hd0,hd1⟩
 have hk:∀k∈p.kids,eG k<=n:=fun k hk=>by have:=jq hk;have:eG p<=n+1:=hn;omega
 simp only at hd0 hd1
 simp[pP,oW,h1, -Bool.forall_bool]
 rw[mw]
 refine⟨fun h=>?_,fun h=>by rw[decide_eq_false (by omega)];rfl⟩
 have hf:FunOnP S0 (.clo fq [.cptr [.v (.int .i64 d)] 0]) p.kids fun x=>!di x (d+1):=
  FS h0 (fun x hx=>⟨d,rfl,hk x hx,hd0,h⟩) (fun x _ y hy=>hy d rfl)
 refine⟨⟨_,hf⟩,fun y hy=>?_⟩
 rw[hy _ hf,decide_eq_true h,qyC]
 simp[qy6]
def qhy(S0:Nat->Spc)(n:Nat)(x:Pat×D×Unit):Prop:=∃ (d:D) (f:Pat->Bool),x.2.1= .cptr [d] 0/\FunIs S0 d f/\eG x.1<=n
def qdx(S0:Nat->Spc)(x:Pat×D×Unit)(y:Bool):Prop:=∀ (d:D) (f:Pat->Bool),x.2.1= .cptr [d] 0->FunIs S0 d f->y=!eV f x.1
abbrev Vx(S0:Nat->Spc)(n:Nat):Spc:=aJ (aE Pat (aD a0)) (fun x=>∃f:Pat->Bool,FunIs S0 x.2.1 f/\eG x.1<=n) enc fun x y=>∀f:Pat->Bool,FunIs S0 x.2.1 f->y=eV f x.1
abbrev qaF(S0:Nat->Spc)(n:Nat):Spc:=aJ (aE Pat (aD a0)) (qhy S0 n) enc (qdx S0)
theorem G8(n:Nat)(h1:S eE=Vx S0 n):aq pR pa S (aE Pat (aD a0)) (qhy S0 n) enc (qdx S0):=by
 rintro⟨p,d,⟨⟩⟩ ⟨e,f,hd,h2,h3⟩
 simp at hd h3
 subst hd
 simp[pR,pa,h1,qdx,h3, -Bool.forall_bool]
 exact⟨⟨f,h2⟩,fun y hy d g e hg=>by subst e;exact hy g hg⟩
theorem Lk{N:Nat->Spc}(n:Nat)(hN:∀ (d:D) (f:Pat->Bool),FunIs N d f->FunIs S d f)(h0:S0 ic=qaF N n)(h1:S aI=N9 S0):aq tL sS S (aE Pat (aD a0)) (fun x=>∃f:Pat->Bool,FunIs N x.2.1 f/\eG x.1<=n+1) enc fun x y=>∀f:Pat->Bool,FunIs N x.2.1 f->y=eV f x.1:=by
 rintro⟨p,d,⟨⟩⟩ ⟨f,hf,hn⟩
 have hk:∀k∈p.kids,eG k<=n:=fun k hk=>by have:=jq hk;have:eG p<=n+1:=hn;omega
 simp at hf
 have hd1:d.kn=true/\d.cells=[d]:=by obtain⟨g,caps,pc,rfl,_⟩:=hf;exact⟨rfl,rfl⟩
 simp[tL,sS,h1,hd1, -Bool.forall_bool]
 rw[VO p]
 refine((hN d f hf).on [p]).useB p (by simp) fun y hy=>?_
 have hy:∀f,FunIs N d f->y=f p:=fun f hf=>hy f ((hN d f hf).on [p])
 simp[h1, -Bool.forall_bool]
 refine⟨fun ht=>?_,fun hff g hg=>by rw[eH,<-hy g hg,hff];rfl⟩
 have hO:∀g,FunIs N d g->FunOnP S0 (.clo ic [.cptr [d] 0]) p.kids fun x=>!eV g x:=fun g hg=>
  FS h0 (fun x hx=>⟨d,g,rfl,hg,hk x hx⟩) (fun x _ y hy=>hy d g rfl hg)
 refine⟨⟨_,hO f hf⟩,fun z hz g hg=>?_⟩
 rw[hz _ (hO g hg),eH,<-hy g hg,ht,qyC]
 simp[qy6]
abbrev IY:Spc:=aJ (a2 Pat Int) (fun x=>0<=x.2/\x.2<=101) (enc (X:=Bool)) fun x y=>y=di x.1 x.2
abbrev zA(N:Nat->Spc):Spc:=aJ (aE Pat (aD a0)) (fun x=>∃f:Pat->Bool,FunIs N x.2.1 f) enc fun x y=>∀f:Pat->Bool,FunIs N x.2.1 f->y=eV f x.1
abbrev H4:Spc:=aJ (a1 Pat) (fun _=>True) (enc (X:=Bool)) fun x y=>y=(di x 1 && eV Ac x)
theorem th{X:Type}[Cod X]{S:Nat->Spc}{g:Nat}{pre:X->Prop}{p:X->Bool}(h:S g=aJ (a1 X) pre enc fun x y=>y=p x)(hp:∀x,pre x):FunIs S (.clo g []) p:=by
 refine⟨g, [],_,rfl,h,fun x=>⟨⟨x,by simp,hp x⟩,fun r hr=>?_⟩⟩
 obtain⟨y,rfl,hy⟩:=hr x (by simp) (hp x)
 rw[hy]
theorem Lp{N:Nat->Spc}(h0:N jZ=N3)(h1:S ia=IY)(h2:S eE=zA N):aq tO sV S (a1 Pat) (fun _=>True) (enc (X:=Bool)) fun x y=>y=(di x 1 && eV Ac x):=by
 rintro p -
 have f1:FunIs N (.clo jZ []) Ac:=th h0 fun _=>trivial
 simp[tO,sV,h1,h2, -Bool.forall_bool]
 refine⟨fun h=>⟨⟨_,f1⟩,fun y hy=>by rw[hy _ f1,h];rfl⟩,fun h h'=>absurd (h.symm.trans h') (by simp)⟩
theorem Lh{N:Nat->Spc}(h0:N cT=A1)(h0':N cD=wb)(h1:S lg=H4)(h2:S eE=zA N):aq tJ sQ S (a1 Pat) (fun _=>True) (enc (X:=Bool)) fun x y=>y=pq bw x:=by
 rintro p -
 have f1:FunIs N (.clo cT []) (uu bw):=th h0 fun _=>trivial
 have f2:FunIs N (.clo cD []) xt:=th h0' fun _=>trivial
 simp[tJ,sQ,h1,h2, -Bool.forall_bool]
 unfold pq
 refine⟨fun h1 h2=>⟨⟨_,f1⟩,fun y hy=>?_⟩,fun h=>?_⟩
 ·have hy:=hy _ f1
  refine⟨fun ht=>⟨⟨_,f2⟩,fun z hz=>?_⟩,fun hf=>?_⟩
  ·rw[hz _ f2,h1,h2,<-hy,ht];rfl
  ·rw[<-hy,hf];simp
 ·rcases hs:di p 1
  ·rfl
  ·rw[h hs];rfl
end Go.Gv

namespace Go.Gv
theorem A3(a b:List Pat):cA (a++b)=cA a+cA b:=by
 induction a with
 | nil=>simp[cA]
 | cons k a ih=>simp only[qxA,cA];omega
end Go.Gv
