/- A part of the framework and of the walks: W187 C68 W33 W34 W35 W32 W36 W37 V5. -/
import Derived.Test.YtphdikcommfnhaaGreatDoorGg42
import Derived.Test.YtphdikcommfnhaaGreatDoorGg38
import Derived.Test.YtphdikcommfnhaaGreatDoorGg39
import Derived.Test.YtphdikcommfnhaaGreatDoorGg20
import Derived.Test.YtphdikcommfnhaaGreatDoorGg36
import Derived.Test.YtphdikcommfnhaaGreatDoorGg27
set_option linter.unusedSimpArgs false
set_option linter.unusedVariables false
set_option linter.unusedSectionVars false
set_option maxRecDepth 100000
set_option maxHeartbeats 0

namespace Go.Gv
open Cod (enc dec)
open Go.Proofs Go.Sort Go.Shelf Go.Lib Go.RowKit
section
variable {P:Program}{ρ:Ren}
theorem qhd{tp I tp' I':Nat->Prop}{w w':World}{v:Value}{l:List Int}(h:R tp I w v (enc l))(hI:∀b,I b->I' b/\w'.heap[b]? =w.heap[b]?):R tp' I' w' v (enc l):=by
 have h:R tp I w v (.list 1 (l.map enc)):=h
 show R tp' I' w' v (.list 1 (l.map enc))
 have hint:∀c∈aU (l.map (enc (X:=Int))),∃x:Int,c= .v (.int .i64 x):=fun c hm=>by
  unfold aU at hm
  obtain⟨d,hd,hc⟩:=quM.1 hm
  obtain⟨x,_,rfl⟩:=qtU.1 hd
  have:c∈ [D.v (.int .i64 x)]:=hc
  exact⟨x,by simpa using this⟩
 generalize l.map (enc (X:=Int))=es at h hint
 cases h with
 | nolist a cap n=>exact .nolist _ _ _
 | list b off cap n _ f hIb hc hm hz hn hcell h1 hRR=>
   refine .list b off cap 1 _ f (hI b hIb).1 hc hm (fun h=>absurd rfl h) hn (fun k c hk=>by rw[qvq (w:=w) (hI b hIb).2];exact hcell k c hk) h1 fun k c hk=>?_
   have hr:=hRR k c hk
   obtain⟨x,hx⟩:=hint c (qtJ hk)
   subst hx
   have:=hr.inv_v
   rw[this]
   exact .int .i64 x
def Dw(xs:List Value)(n:Nat)(i:_root_.Fin n):List Value:=(xs.drop (i.val*3)).take 3
def qas(l:List Match)(i j:_root_.Fin l.length):Int:=wz l[i] l[j]
theorem pw(l:List Match)(i j:_root_.Fin l.length):ltOf (qas l) i j=true↔OZ l[i] l[j]:=by
 unfold ltOf qas OZ
 rw[decide_eq_true_iff]
theorem qb3(l:List Match):SWO (ltOf (qas l)):=by
 refine⟨fun x=>?_,fun x y z h1 h2=>?_,fun x y z h1 h2=>?_⟩
 ·rw[quZ,ne_eq,pw]
  exact zM _
 ·rw[pw]at*
  exact qV h1 h2
 ·rw[quZ,ne_eq,pw]at*
  intro h3
  rcases C0 h1 with e|e
  ·exact h2 (e ▸h3)
  ·rcases C0 h2 with e'|e'
   ·exact h1 (e' ▸h3)
   ·exact zM _ (qV h3 (qV e' e))
theorem MY{xs:List Value}{n:Nat}(hx:xs.length=n*3)(i:_root_.Fin n){j:Nat}(hj:j < 3):(Dw xs n i)[j]? =xs[i.val*3+j]?:=by
 unfold Dw
 rw[qtZ,if_pos hj,quk]
theorem TM{xs:List Value}{n:Nat}(hx:xs.length=n*3)(i:_root_.Fin n):(Dw xs n i).length=3:=by
 unfold Dw
 have:=i.isLt
 simp
 omega
def qhk(g:Nat)(x:D×Unit)(l:List Match):Prop:=x.1= .clo g []/\l.length<=1000000000/\l.Nodup
def qhe(_:D×Unit)(l r:List Match):Prop:=tv r/\r.length=l.length/\∀m,m∈r↔m∈l
abbrev Rf(g el:Nat):Spc:=qsi (Y:=Match) (aD a0) (qhk g) qhe el 3
theorem M9(m:Match):(enc m).cells=[.v (.int .i64 m.b), .v (.int .i64 m.e),enc m.lbs]:=by simp[D.cells]
theorem WA{g:Nat}(hg:Tri P g s_cmpM.pt)(hT:rc=[]){tp I:Nat->Prop}{w:World}{gb:Nat}{l:List Match}[Inhabited (_root_.Fin l.length)]{xs:List Value}(hx:xs.length=l.length*3)
 (hI:∀b,I b->b < w.heap.size/\b≠gb) (hR:∀ (i j:Nat) (y:Value) (c:D),i < l.length->j < 3->xs[i*3+j]? =some y->∀m,l[i]? =some m->(enc m).cells[j]? =some c->y.oneCell'=true/\R tp I w y c):
 CmpLays P g #[] (Dw xs l.length) 3 (qas l) gb 0 l.length w:=by
 intro m os dk _ x y
 have hsame:∀b,I b->(sortWorldK (Dw xs l.length) 3 w gb 0 m dk os).heap[b]? =w.heap[b]?:=fun b hb=>Kz (w:=Sort.ahead w m) (hI b hb).1 (hI b hb).2
 have hgrow:w.heap.size<=(sortWorldK (Dw xs l.length) 3 w gb 0 m dk os).heap.size:=by simp[sortWorldK,grow,putRowK,putRow,mapBlock,Sort.ahead]
 generalize sortWorldK (Dw xs l.length) 3 w gb 0 m dk os=W at hsame hgrow ⊢
 have hRw:∀z:_root_.Fin l.length,R (fun _=>False) (aM (fun b=>b < W.heap.size/\ ¬I b) (fun _=>False) bB W) W (.agg (Dw xs l.length z).toArray) (enc l[z]):=fun z=>by
  have he:enc l[z]= .agg [.v (.int .i64 l[z].b), .v (.int .i64 l[z].e),enc l[z].lbs]:=by simp
  have hcell:∀ (j:Nat) (v:Value) (c:D),j < 3->(Dw xs l.length z)[j]? =some v->(enc l[z]).cells[j]? =some c->v.oneCell'=true/\R tp I w v c:=fun j v c hj h1 h2=>
   hR z.val j v c z.isLt hj (by rw[<-MY hx z hj];exact h1) l[z] (by simp) h2
  have h3:=TM hx z
  rw[he]
  refine .agg _ _ (by simp[h3]) (fun v hv=>?_) fun j v c h1 h2=>?_
  ·obtain⟨j,hj,rfl⟩:=qwd hv
   have hj3:j < 3:=by omega
   have hc:j < (enc l[z]).cells.length:=by rw[M9];exact hj3
   exact(hcell j _ _ hj3 (qtH hj) (qtH hc)).1
  ·have hj3:j < 3:=by have:=(qtG.1 h2).1;simpa using this
   have hr:=(hcell j v c hj3 h1 (by rw[M9];exact h2)).2
   rcases j with _|_|_|j
   ·cases h2;rw[hr.inv_v];exact .int .i64 _
   ·cases h2;rw[hr.inv_v];exact .int .i64 _
   ·cases h2
    exact qhd hr fun b hb=>⟨⟨qt1 (hI b hb).1 hgrow,fun h=>h.2 hb,fun h=>h,fun⟨i,r,h,_⟩=>by simp[bB]at h⟩,hsame b hb⟩
   ·omega
 obtain⟨_,hc⟩:=hg (fun b=>b < W.heap.size/\ ¬I b) (fun _=>False) W [.agg (Dw xs l.length x).toArray, .agg (Dw xs l.length y).toArray] [enc l[x],enc l[y]] bB 0 (fun r H'=>r=enc (qas l x y)/\H'=bB) (fun b h=>h.1) ⟨fun b h=>h.elim,fun p hp=>by rw[hT]at hp;cases hp⟩
  ⟨fun i j r s b h=>by simp[bB]at h,fun i r b h=>by simp[bB]at h,fun i r h=>by simp[bB]at h⟩ rfl
  (fun j v c h1 h2=>by
    rcases j with _|_|j
    ·simp only[qvD,qtT]at h1 h2;subst h1;subst h2;exact hRw x
    ·simp only[quL,qvD,qtT]at h1 h2;subst h1;subst h2;exact hRw y
    ·simp at h1)
  (by
    rw[ra,qhb,Cod.dec_enc,Cod.dec_enc]
    exact⟨trivial,fun z hz=>by subst hz;exact⟨rfl,rfl⟩⟩)
 refine hc.mono ?_
 rintro e w' ⟨v,r,H',tp',rfl,⟨rfl,rfl⟩,_,_,_,hs,_,_,hv⟩
 have hv':v= .int .i64 (qas l x y):=R.inv_v hv
 subst hv'
 refine⟨rfl,w'.drawn -W.drawn,w'.heap.extract W.heap.size w'.heap.size,?_⟩
 have hheap:w'.heap=W.heap++w'.heap.extract W.heap.size w'.heap.size:=by
  apply Array.ext_getElem?
  intro b
  by_cases hb:b < W.heap.size
  ·rw[quz hb]
   exact hs.same b hb (fun⟨i,r,h,_⟩=>by simp[bB]at h) (fun h=>h)
  ·rw[Array.getElem?_append_right (by omega),qv0]
   have hsz:W.heap.size<=w'.heap.size:=hs.size
   by_cases hb2:b < w'.heap.size
   ·rw[if_pos (by omega)]
    congr 1
    omega
   ·rw[if_neg (by omega),qu6 (by omega)]
 have h1:=hs.os
 have h2:=hs.tape
 have h3:=hs.output
 have h4:=hs.drawn
 have h5:W.drawn+ (w'.drawn -W.drawn)=w'.drawn:=by omega
 cases w'
 cases W
 simp only[grow,World.drewN]at*
 subst h1;subst h2;subst h3
 rw[h5,<-hheap]
theorem qc2(l:List Match):(List.finRange l.length).map (fun i=>l[i])=l:=by
 refine qvJ (by simp) fun i h1 h2=>?_
 simp
theorem U0{fsort g el:Nat}(L:SlLaysF0.n6 P ρ)(hf:ρ.f 6=fsort)(aE:∀w,(isAgg (ρ.t 24)).run P w= .ok true w)(zE:∀w,(Go.sizeOf (ρ.t 24)).run P w= .ok 3 w)(hT:rc=[])(hg:Tri P g s_cmpM.pt)(eg:ee P g)(ef:ee P fsort):
 Tri P fsort (Rf g el).pt:=by
 subst hf
 intro O tp w vs ds H d K hO' htl hsat hlen hargs hA
 obtain⟨id,v,l,ds',x,rfl,hd,hid,⟨hx1,hl5,hnd⟩,hK⟩:=hA
 have hds:ds'=[.clo g []]:=by
  match ds',hd with
  | [],h=>cases h
  | a::r,h=>
    rw[qha]at h
    match r,h with
    | [],h=>
      simp at h
      subst h
      simp only at hx1
      rw[hx1]
    | b::r,h=>cases h
 subst hds
 match vs,hlen,hargs with
 | [v0,fv],_,hargs=>
 have e0:v0=v:=by
  have:=hargs 0 v0 _ rfl rfl
  cases this;rfl
 have e1:fv= .func (.func g) #[] #[]:=by
  have:=hargs 1 fv _ rfl rfl
  cases this with
  | clo _ xs _ hl _=>
    have:xs=[]:=by simpa using hl
    subst this;rfl
 subst e0;subst e1
 refine⟨ef,?_⟩
 obtain⟨xs,⟨hxl,hx⟩,hkn,hcells⟩:=hsat.ok id _ hid
 have hll:(l.map (enc (X:=Match))).length=l.length:=by simp
 have hkw:∀d∈l.map (enc (X:=Match)),d.cells.length=3:=fun d hd=>(hkn d hd).2
 rcases hx with⟨rfl,h0⟩|⟨gb,cap,cur,rfl,_,hgb,hcap,hcapm,hsz,htake⟩
 ·have hl0:l=[]:=by simpa using h0
  subst hl0
  refine(AnyF.slices_SortFunc_none L none 0 _ w).mono ?_
  rintro e w' ⟨rfl,rfl⟩
  have hH:ah H id (some (.row (.slice none 0 0) el 3 (([]:List Match).map enc)))=H:=by
   funext i
   simp only[ah]
   by_cases hi:i=id
   ·subst hi;simp[hid]
   ·simp[hi]
  refine⟨_,_,_,tp,rfl,hK [] ⟨List.Pairwise.nil,rfl,fun _=>quJ⟩,fun b h=>h,fun b h=> .inl h,htl.1, .refl _ _ _,fun b h=> .inl (by rwa [hH]at h),by rw[hH];exact hsat, .tup [] [] rfl (fun k x c h=>by simp at h)⟩
 rw[hll]at hcap hxl htake ⊢
 by_cases hl0:l=[]
 ·subst hl0
  refine(AnyF.slices_SortFunc_none L (some ⟨gb,0,none⟩) cap _ w).mono ?_
  rintro e w' ⟨rfl,rfl⟩
  have hH:ah H id (some (.row (.slice (some ⟨gb,0,none⟩) (([]:List Match).map (enc (X:=Match))).length cap) el 3 (([]:List Match).map enc)))=H:=by
   funext i
   simp only[ah]
   by_cases hi:i=id
   ·subst hi;simp[hid]
   ·simp[hi]
  refine⟨_,_,_,tp,rfl,hK [] ⟨List.Pairwise.nil,rfl,fun _=>quJ⟩,fun b h=>h,fun b h=> .inl h,htl.1, .refl _ _ _,fun b h=> .inl (by rwa [hH]at h),by rw[hH];exact hsat, .tup [] [] rfl (fun k x c h=>by simp at h)⟩
 have hlp:0 < l.length:=List.length_pos_iff.2 hl0
 letI inst:Inhabited (_root_.Fin l.length):=⟨⟨0,hlp⟩⟩
 have hbo:(Res.row (.slice (some ⟨gb,0,none⟩) l.length cap) el 3 (l.map enc)).blk=some gb:=rfl
 have hid':H id=some (.row (.slice (some ⟨gb,0,none⟩) l.length cap) el 3 (l.map enc)):=by rw[hid,hll]
 have hown:bA H gb:=⟨id,_,hid',hbo⟩
 have hcellAt:∀ (i j:Nat) (y:Value) (c:D),i < l.length->j < 3->xs[i*3+j]? =some y->∀m,l[i]? =some m->(enc m).cells[j]? =some c->y.oneCell'=true/\R tp (aM O tp H w) w y c:=fun i j y c hi hj hy m hm hc=>by
  refine hcells (i*3+j) y c hy ?_
  rw[cS hkw hj,qtX,hm]
  exact hc
 have hgs:gb < w.heap.size:=(qtO.1 hgb).1
 have hlays:=WA (gb:=gb) hg hT (tp:=tp) (I:=aM O tp H w) (w:=w) hxl (fun b hb=>⟨hb.1,fun e=>hb.2.2.2 (e ▸hown)⟩) hcellAt
 have hevl:∀z:_root_.Fin l.length,(Dw xs l.length z).length=3:=TM hxl
 have hone:∀ (z:_root_.Fin l.length),∀y∈Dw xs l.length z,y.oneCell'=true:=fun z y hy=>by
  obtain⟨j,hj,rfl⟩:=qwd hy
  have hj3:j < 3:=by have:=hevl z;omega
  have hc:j < (enc l[z]).cells.length:=by rw[M9];exact hj3
  exact(hcellAt z.val j _ _ z.isLt hj3 (by rw[<-MY hxl z hj3];exact qtH hj) l[z] (by simp) (qtH hc)).1
 have hfm:(List.finRange l.length).flatMap (Dw xs l.length)=xs:=by
  refine quC fun t=>?_
  by_cases ht:t < l.length*3
  ·have hm:t % 3 < 3:=qu4 _ (by decide)
   have hdm:t=(t/3) *3+t % 3:=by have:=quX t 3;omega
   have hq:t/3 < l.length:=by omega
   have h2:=MV (f:=Dw xs l.length) (n:=3) (l:=List.finRange l.length) (fun x _=>hevl x) (i:=t/3) hm
   rw[<-hdm]at h2
   rw[h2]
   have h3:(List.finRange l.length)[t/3]? =some ⟨t/3,hq⟩:=by
    rw[qtH (by simpa using hq)];simp
   rw[h3,qtY,MY hxl _ hm]
   congr 1
   exact hdm.symm
  ·have h4:=MU (f:=Dw xs l.length) (n:=3) (l:=List.finRange l.length) (fun x _=>hevl x)
   rw[qua (by rw[h4];simp;omega),qua (by omega)]
 have hcur:∀j,j < l.length*3->cur[j]? =xs[j]?:=fun j hj=>by
  rw[<-htake,qtZ,if_pos hj,qt9]
 have hsz0:(List.finRange l.length).toArray.size=l.length:=by simp
 have hH:HoldsK (Dw xs l.length) 3 w gb 0 (List.finRange l.length).toArray:=by
  intro j hj
  have hj':j < l.length*3:=by simpa using hj
  refine⟨?_,MT hgb⟩
  have h6:xs[j]? =(flatK (Dw xs l.length) 3 (List.finRange l.length).toArray).toList[j]?:=congrArg (fun z:List Value=>z[j]?) ((Ig (Dw xs l.length) 3 hevl (List.finRange l.length)).trans hfm).symm
  rw[Sh hgb,quu,hcur j hj',h6,qt9,quK hj,getElem!_pos _ j hj]
  rfl
 have hndi:∀x y:_root_.Fin l.length,l[x]=l[y]->x=y:=fun x y e=>by
  have hp:=qvR.1 hnd
  apply Fin.ext
  rcases qwr x.val y.val with h|h|h
  ·exact absurd e (hp x.val y.val x.isLt y.isLt h)
  ·exact h
  ·exact absurd e.symm (hp y.val x.val y.isLt x.isLt h)
 have hcall:=AnyQ.slices_SortFunc_total L 3 aE zE (Dw xs l.length) hevl hone (qas l) (qb3 l) g #[] gb 0 cap (List.finRange l.length).toArray w eg (by rw[hsz0];exact hlays) hH hgs (by rw[hsz0];omega) (fun x y h1 h2=>by
  rw[quZ,ne_eq,pw]at h1 h2
  rcases C0 h1 with e|e
  ·exact hndi _ _ e
  ·exact absurd e h2)
 rw[hsz0]at hcall
 refine hcall.mono ?_
 rintro e w' ⟨rfl,n,os,hw'⟩
 simp only[List.toList_toArray]at hw'
 generalize hl':((List.finRange l.length).mergeSort fun x y=>!(ltOf (qas l)) y x)=l' at hw'
 have hlen':l'.length=l.length:=by rw[<-hl'];simp
 have hwo:∀b,b < w.heap.size->b≠gb->w'.heap[b]? =w.heap[b]?:=fun b hb hne=>by
  rw[hw'];exact Kz (w:=Sort.ahead w n) hb hne
 have hthis:w'.heap[gb]? =some (.cells (putCells _root_.id 0 (flatK (Dw xs l.length) 3 l'.toArray) cur) el (0,0)):=by
  rw[hw'];exact Yz (w:=Sort.ahead w n) hgb
 have hws:w.heap.size<=w'.heap.size:=by
  rw[hw'];simp[sortWorldK,grow,putRowK,putRow,mapBlock,Sort.ahead]
 have hos:w'.os=w.os/\w'.tape=w.tape/\w'.output=w.output/\w.drawn<=w'.drawn:=by
  rw[hw'];exact⟨rfl,rfl,rfl,Nat.le_add_right _ _⟩
 clear hw' hcall
 have htp:∀b,tp b->b≠gb:=fun b hb e=>(hsat.out id _ gb hid' hbo).2 (e ▸hb)
 have htapes:∀b,tp b->TapeStep w w' b:=fun b hb=> .same (hwo b (htl.1 b hb) (htp b hb))
 have hperm:l'.Perm (List.finRange l.length):=by rw[<-hl'];exact List.mergeSort_perm _ _
 have hsort:tv (l'.map fun i=>l[i]):=by
  have h1:l'.Pairwise fun x y=>(!(ltOf (qas l)) y x)=true:=by
   rw[<-hl']
   refine List.pairwise_mergeSort (fun a b c h1 h2=>?_) (fun a b=>?_) _
   ·simp only[qvl,quZ,ne_eq,pw]at h1 h2 ⊢
    intro h3
    rcases C0 h1 with e|e
    ·exact h2 (e ▸h3)
    ·exact h2 (qV h3 e)
   ·by_cases h:OZ l[b] l[a]
    ·have:¬OZ l[a] l[b]:=fun h2=>zM _ (qV h h2)
     have h3:ltOf (qas l) a b=false:=by rw[quZ,ne_eq,pw];exact this
     rw[h3];simp
    ·have h3:ltOf (qas l) b a=false:=by rw[quZ,ne_eq,pw];exact h
     rw[h3];simp
  have h2:l'.Nodup:=hperm.nodup_iff.2 (List.nodup_finRange _)
  unfold tv
  rw[qws]
  refine(h1.and h2).imp fun {x y} h=>?_
  have h3:=h.1
  simp only[qvl,quZ,ne_eq,pw]at h3
  rcases C0 h3 with e|e
  ·exact absurd (hndi _ _ e).symm h.2
  ·exact e
 have hmem:∀m,m∈ (l'.map fun i=>l[i]) ↔m∈l:=fun m=>by
  have:=(hperm.map fun i=>l[i]).mem_iff (a:=m)
  rwa [qc2]at this
 have hK':=hK (l'.map fun i=>l[i]) ⟨hsort,by simp[hlen'],hmem⟩
 rw[hll]at hK'
 generalize hH2:ah H id (some (.row (.slice (some ⟨gb,0,none⟩) l.length cap) el 3 ((l'.map fun i=>l[i]).map enc)))=H2 at hK'
 have hown2:∀b,bA H2 b->bA H b:=fun b ⟨i,r,h1,h2⟩=>by
  rw[<-hH2]at h1
  simp only[ah]at h1
  split at h1
  ·cases h1;cases h2;exact hown
  ·exact⟨i,r,h1,h2⟩
 have hmove:∀y c,R tp (aM O tp H w) w y c->R tp (aM O tp H2 w') w' y c:=fun y c hr=>hr.mono (fun _ h=>h) (fun b hb=>⟨⟨qt1 hb.1 hws,hb.2.1,hb.2.2.1,fun h=>hb.2.2.2 (hown2 b h)⟩,hwo b hb.1 (fun e=>hb.2.2.2 (e ▸hown))⟩) htapes
 have hget:∀i r,H2 i=some r->(i=id/\r= .row (.slice (some ⟨gb,0,none⟩) l.length cap) el 3 ((l'.map fun i=>l[i]).map enc))\/(i≠id/\H i=some r):=fun i r h=>by
  rw[<-hH2]at h
  simp only[ah]at h
  split at h
  ·rename_i e;cases h;exact .inl ⟨e,rfl⟩
  ·rename_i e;exact .inr ⟨e,h⟩
 refine⟨_,_,H2,tp,rfl,hK',fun b h=>h,fun b h=> .inl h,fun b hb=>qt1 (htl.1 b hb) hws,⟨hos.1,hos.2.1,hos.2.2.1,hws,fun b hb ho ht=>hwo b hb (fun e=>ho (e ▸hown)),htapes,hos.2.2.2⟩,fun b h=> .inl (hown2 b h),⟨?_,?_,?_⟩, .tup [] [] rfl (fun k x c h=>by simp at h)⟩
 ·intro i j r s b h1 h2 h3 h4
  rcases hget i r h1 with⟨rfl,rfl⟩|⟨n1,k1⟩
  ·rcases hget j s h2 with⟨rfl,rfl⟩|⟨n2,k2⟩
   ·rfl
   ·exact hsat.dis _ j _ s b hid' k2 h3 h4
  ·rcases hget j s h2 with⟨rfl,rfl⟩|⟨n2,k2⟩
   ·exact hsat.dis i _ r _ b k1 hid' h3 h4
   ·exact hsat.dis i j r s b k1 k2 h3 h4
 ·intro i r b h1 h2
  rcases hget i r h1 with⟨rfl,rfl⟩|⟨n1,k1⟩
  ·exact hsat.out _ _ b hid' h2
  ·exact hsat.out i r b k1 h2
 ·intro i r h1
  rcases hget i r h1 with⟨rfl,rfl⟩|⟨n1,k1⟩
  ·have hfml':=MU (f:=Dw xs l.length) (n:=3) (l:=l') (fun x _=>hevl x)
   have hps:(putCells _root_.id 0 (flatK (Dw xs l.length) 3 l'.toArray) cur).size=cur.size:=by simp[putCells]
   refine⟨l'.flatMap (Dw xs l.length),⟨by simp;rw[<-List.length_flatMap];exact hfml', .inr ⟨gb,cap,_,by simp[hlen'],qub _,hthis,by simp;omega,hcapm,by rw[hps,hsz],?_⟩⟩,fun d hd=>?_,fun j y c h1 h2=>?_⟩
   ·simp only[qux,hlen']
    apply quC
    intro j
    rw[qtZ]
    by_cases hj:j < l.length*3
    ·have hjc:j < cur.size:=by
      have:l.length*3<=cap*3:=quf 3 hcap
      omega
     have hjf:j < (flatK (Dw xs l.length) 3 l'.toArray).size:=by simp[hlen'];exact hj
     rw[if_pos hj,qt9,<-Ig (Dw xs l.length) 3 hevl l',qt9]
     simp only[putCells,Array.getElem?_mapIdx,quK hjc,qvy,qub,quu,hjf,and_self,if_true,Nat.sub_zero,id_eq]
     rw[quK hjf,getElem!_pos _ j hjf]
    ·rw[if_neg hj,qua (by rw[hfml',hlen'];omega)]
   ·obtain⟨z,_,rfl⟩:=qtU.1 hd
    exact⟨Cod.kn z,Cod.wid z⟩
   ·have ht:j < l'.length*3:=by rw[<-hfml'];exact(qtG.1 h1).1
    have hm:j % 3 < 3:=qu4 _ (by decide)
    have hdm:j=(j/3) *3+j % 3:=by have:=quX j 3;omega
    have hq:j/3 < l'.length:=by omega
    have h5:=MV (f:=Dw xs l.length) (n:=3) (l:=l') (fun x _=>hevl x) (i:=j/3) hm
    rw[<-hdm,h1,qtH hq,qtY,MY hxl _ hm]at h5
    rw[hdm,cS (fun d hd=>by obtain⟨z,_,rfl⟩:=qtU.1 hd;exact Cod.wid z) hm,qtX,qtX,qtH hq]at h2
    obtain⟨a1,a2⟩:=hcellAt (l'[j/3]).val (j % 3) y c (l'[j/3]).isLt hm h5.symm l[l'[j/3]] (by simp) h2
    exact⟨a1,hmove _ _ a2⟩
  ·have hne:∀b,r.blk=some b->b≠gb:=fun b hb e=>n1 (hsat.dis i id r _ gb k1 hid' (e ▸hb) hbo)
   exact(hsat.ok i r k1).conv hmove (fun b hb=>hwo b ((hsat.ok i r k1).lt hb) (hne b hb))
end
end Go.Gv

namespace Go.Gv
open Go.Proofs
def qq:CC:=gq Tryz.f80 [1] { bx:=[7] } _
def pR:List aj:=[.tmp 2]
theorem FL:am Tryz.prog rQ [1] qq pR 8:=fo
def gB:CC:=gq Tryz.f72 [2] { bx:=[1,31],cu:=[1] } _
def gr:List aj:=[.tmp 4]
theorem xa:am Tryz.prog cj [2] gB gr 34:=fo
def gA:CC:=gq Tryz.f73 [2] { bx:=[1,24] } _
def gp:List aj:=[.tmp 4]
theorem wZ:am Tryz.prog dA [2] gA gp 27:=fo
def sr:CC:=gq Tryz.f120 [1,2002002] {} _
def rv:List aj:=[.cell 2 true 13]
theorem HH:am Tryz.prog oY [1,2002002] sr rv 11:=fo
def qp:CC:=gq Tryz.f169 [1,2021003,1020020] {} _
def pQ:List aj:=[.cell 2 true 7]
theorem FK:am Tryz.prog iQ [1,2021003,1020020] qp pQ 24:=fo
def gZ:CC:=gq Tryz.f71 [1] { bx:=[41] } _
def gM:List aj:=[.tmp 2]
theorem xy:am Tryz.prog eS [1] gZ gM 44:=fo
def eW:CC:=gq Tryz.f40 [2] { bx:=[17,20],fz:=[(17,1),(20,13)] } _
def eN:List aj:=[.tmp 4]
theorem sX:am Tryz.prog fy [2] eW eN 49:=fo
def nf:CC:=gq Tryz.f78 [3] {} _
def mc:List aj:=[.tmp 6]
theorem CM:am Tryz.prog jq [3] nf mc 33:=fo
def lj:CC:=gq Tryz.f130 [3] {} _
def kL:List aj:=[.tmp 6]
theorem A3:am Tryz.prog mL [3] lj kL 115:=fo
def uq:CC:=gq Tryz.f126 [1] {} _
def tJ:List aj:=[.tmp 2]
theorem JK:am Tryz.prog wt [1] uq tJ 58:=fo
def ss:CC:=gq Tryz.f77 [1] {} _
def rz:List aj:=[.tmp 2]
theorem HI:am Tryz.prog pa [1] ss rz 22:=fo
def dE:CC:=gq Tryz.f75 [] {} _
def dv:List aj:=[.tmp 4]
theorem pv:am Tryz.prog bp [] dE dv 9:=fo
def eq:CC:=gq Tryz.f125 [] {} _
def ej:List aj:=[.tmp 4]
theorem rH:am Tryz.prog eB [] eq ej 19:=fo
end Go.Gv

namespace Go.Gv
open Cod (enc dec)
variable {S S0:Nat->Spc}
end Go.Gv

namespace Go.Gv
open Cod (enc dec)
variable {S S0:Nat->Spc}
theorem To{a b A B:Int}(h0:0<=a)(h1:a<=A)(h2:0<=b)(h3:b<=B):0<=a*b/\a*b<=A*B:=⟨qv2 h0 h2,Int.mul_le_mul h1 h3 h2 (by omega)⟩
def PPat(n:Nat)(p:Pat):Prop:=fe p<=n/\pW bT p=true
theorem PPat.kid{n:Nat}{p k:Pat}(h:PPat (n+1) p)(hk:k∈p.kids):PPat n k:=by
 have h1:=jZ hk
 have h2:=h.1
 exact⟨by omega,OF h.2 hk⟩
abbrev wW:Spc:=aS (a1 Pat) (fun _=>True) (enc (X:=Bool)) fun x y=>y=pW bT x
abbrev XX(n:Nat):Spc:=aS (a1 Pat) (PPat n) (enc (X:=Int)) fun x y=>y=jX x
end Go.Gv

namespace Go.Gv
open Cod (enc dec)
variable {S S0:Nat->Spc}
abbrev YY:D:= .v (.slice none 0 0)
def qrt(x:Pat)(l:List Pat):Prop:=l.length+ (aC x).length<=100000000
theorem qgb{ks:List Pat}{k:Nat}{x:Pat}{l:List Pat}(hx:ks[k]? =some x)(h:l.length+ (ks.flatMap aC).length<=100000000):qrt x (l++ (ks.take k).flatMap aC):=by
 have:ks=ks.take k++x::ks.drop (k+1):=by rw[<-mQ hx,qus]
 rw[this]at h
 simp only[qwe,quq,qt4]at h
 unfold qrt
 rw[qt4]
 omega
abbrev SO:Spc:=aS (a1 Pat) (fun x=>pW bT x=true) (enc (X:=Int)) fun x y=>y=jX x
end Go.Gv

namespace Go.Gv
open Cod (enc dec)
variable {S S0:Nat->Spc}
abbrev XM:Spc:=aS (a1 Cond) (fun _=>True) (enc (X:=Bool)) fun x y=>(y=true↔x=jh)
theorem LA:aq un tH S (a1 Cond) (fun _=>True) (enc (X:=Bool)) fun x y=>(y=true↔x=jh):=by
 rintro⟨op,n,a,v,l,f,ks⟩ -
 simp[un,tH,jh]
 repeat' first|apply And.intro|intro _
 all_goals simp_all
abbrev L3:Spc:=aS (a1 Pat) (fun _=>True) (enc (X:=Bool)) fun x y=>y=yC x
theorem LD(h1:S ws=XM):aq ur tK S (a1 Pat) (fun _=>True) (enc (X:=Bool)) fun x y=>y=yC x:=by
 rintro p -
 simp[ur,tK,h1, -Bool.forall_bool]
 clear h1
 repeat' first|apply And.intro|intro _
 all_goals (rw[qum,zK];unfold uA;simp_all;try omega)
abbrev Co:Spc:=aS (a1 Pat) (fun _=>True) (enc (X:=Bool)) fun x y=>y=uS bT x
theorem Ji(h1:S de=Om):aq so rr S (a1 Pat) (fun _=>True) (enc (X:=Bool)) fun x y=>y=uS bT x:=by
 rintro p -
 simp[so,rr,h1,uS, -Bool.forall_bool]
 clear h1
 repeat' first|apply And.intro|intro _
 all_goals (first|omega|simp_all;try omega)
abbrev ya:Spc:=aS (a1 Pat) (fun _=>True) (enc (X:=Bool)) fun x y=>y=xG x
theorem Gu:aq qn pP S (a1 Pat) (fun _=>True) (enc (X:=Bool)) fun x y=>y=xG x:=by
 rintro p -
 simp[qn,pP,xG]
 repeat' first|apply And.intro|intro _
 all_goals (first|omega|(rw[qum];simp;omega))
end Go.Gv

namespace Go.Gv
open Cod (enc dec)
variable {S S0:Nat->Spc}
theorem LB(n:Nat)(h1:S mK=XX n):aq uo tI S (a1 Pat) (PPat (n+1)) (enc (X:=Int)) fun x y=>y=jX x:=by
 rintro p hp
 have hk:∀k∈p.kids,PPat n k:=fun k=>hp.kid
 have hs:∀k∈p.kids,0<=jX k/\jX k<=1000:=fun k h=>U6 (v:=bT) k (hk k h).2
 simp[uo,tI]
 intro _
 refine ai (X:=Int) [1,7] [] p.kids.length (fun k n=>n=gG (p.kids.take k) 0) (fun n=>[(3,enc n)]) (fun _=>[]) 0 (by simp) (by simp) (by omega) (by simp) (by simp) (by simp[gG]) (by simp) (by simp) ?_ ?_
 ·rintro k m hkl hP
  obtain⟨x,hx⟩:=dM hkl
  have hx1:=dO hx
  obtain⟨_,hgx⟩:=qtG.1 hx
  have hm:=vv (p.kids.take k) 0 (by omega) (by omega) (fun y hy=>(hs y (qt3 hy)).1)
  have h2:=hs x hx1
  rw[<-hP]at hm
  have q1:=hk x hx1
  simp[h1,hkl,hx,hgx,q1]
  refine⟨by simp only[InR];omega,?_⟩
  rw[bM hx,Rc,<-hP,gG,gG]
 ·rintro m hP
  have hm:=vv (p.kids.take p.kids.length) 0 (by omega) (by omega) (fun y hy=>(hs y (qt3 hy)).1)
  rw[<-hP]at hm
  rw[quj]at hP
  have hn:=(KC hp.2).2.2
  unfold xG at hn
  rw[decide_eq_true_eq]at hn
  rw[uL,EY,<-hP]
  simp
  intro _
  refine⟨fun h=>fun h'=>absurd h h',fun h0=>⟨fun h6=>?_,fun h6=>by rw[if_neg h0,if_neg h6]⟩⟩
  rw[if_neg h0,if_pos h6]
  have hn:=hn h6
  refine⟨fun e=>by rw[if_neg (by omega),if_pos e],fun e=>⟨fun e2=>?_,fun e2=>?_⟩⟩
  ·have h2:=To hm.1 hm.2 (show 0<=p.mn+1 by omega) (show p.mn+1<=17 by omega)
   rw[if_pos (by omega)]
   exact⟨by simp only[InR];omega,by simp only[InR];omega,rfl⟩
  ·have h2:=To hm.1 hm.2 (show 0<=p.mx by omega) (show p.mx<=16 by omega)
   rw[if_neg (by omega),if_neg e]
   exact⟨by simp only[InR];omega,rfl⟩
end Go.Gv

namespace Go.Gv
open Cod (enc dec)
variable {S S0:Nat->Spc}
def FunOnP{X Y:Type}[Cod X][Cod Y](S:Nat->Spc)(d:D)(l:List X)(p:X->Y):Prop:=
 ∃g caps pc,d= .clo g caps/\S g= .pure pc/\∀x∈l,pc.pre (enc x::caps)/\∀r,pc.post (enc x::caps) r->r=enc (p x)
theorem FunOnP.useB{X:Type}[Cod X]{S:Nat->Spc}{d:D}{l:List X}{p:X->Bool}(h:FunOnP S d l p)(x:X)(hx:x∈l){d':Nat}{H:ab}{K:D->ab->Prop}(hk:∀y:Bool,(∀q,FunOnP S d l q->y=q x)->K (.v (.bool y)) H):zn S d d' [enc x] H K:=by
 obtain⟨g,caps,pc,rfl,h1,h2⟩:=h
 simp only[zn,h1,Spc.pt]
 refine⟨(h2 x hx).1,fun r hr=>?_⟩
 have e:=(h2 x hx).2 r hr
 rw[e]
 refine hk (p x) fun q hq=>?_
 obtain⟨g',caps',pc',e',k1,k2⟩:=hq
 cases e'
 rw[h1]at k1
 cases k1
 exact aL (e.symm.trans ((k2 x hx).2 r hr))
theorem FunIs.on{X Y:Type}[Cod X][Cod Y]{S:Nat->Spc}{d:D}{p:X->Y}(h:FunIs S d p)(l:List X):FunOnP S d l p:=by
 obtain⟨g,caps,pc,h1,h2,h3⟩:=h
 exact⟨g,caps,pc,h1,h2,fun x _=>h3 x⟩
theorem K0{X Y:Type}[Cod X][Cod Y]{S:Nat->Spc}{g:Nat}{c:D}{l:List X}{pre:X×D×Unit->Prop}{post:X×D×Unit->Y->Prop}{p:X->Y}(h:S g=aS (aE X (aD a0)) pre enc post)(hp:∀x∈l,pre (x,c,()))(hq:∀x∈l,∀y,post (x,c,()) y->y=p x):FunOnP S (.clo g [c]) l p:=by
 refine⟨g, [c],_,rfl,h,fun x hx=>⟨⟨(x,c,()),by simp,hp x hx⟩,fun r hr=>?_⟩⟩
 obtain⟨y,rfl,hy⟩:=hr (x,c,()) (by simp) (hp x hx)
 rw[hq x hx y hy]
theorem Tk(x:Pat):D.agg [D.v (Value.int IntKind.i64 x.op),D.v (Value.int IntKind.i64 x.cond.op),D.v (Value.string x.cond.name),D.v (Value.string x.cond.arg),D.v (Value.string x.cond.val),D.v (Value.string x.cond.lab),D.v (Value.bool x.cond.fold),D.list 7 (List.map enc x.cond.kids),D.v (Value.string x.lab),D.v (Value.string x.reg),D.v (Value.int IntKind.i64 x.mn),D.v (Value.int IntKind.i64 x.mx),D.list 13 (List.map enc x.kids)]=enc x:=by simp
def Nv(S0:Nat->Spc)(x:List Pat×D×Unit):Prop:=∃p:Pat->Bool,FunOnP S0 x.2.1 x.1 p
def qa6(S0:Nat->Spc)(x:List Pat×D×Unit)(y:Int):Prop:=∀p:Pat->Bool,FunOnP S0 x.2.1 x.1 p->y=fS x.1 p
abbrev qfI(S0:Nat->Spc):Spc:=aS (aE (List Pat) (aD a0)) (Nv S0) enc (qa6 S0)
theorem qY:aq dV dT S (aE (List Pat) (aD a0)) (Nv S) enc (qa6 S):=by
 rintro⟨l,d,⟨⟩⟩ ⟨p,hp⟩
 simp at hp
 simp[dV,dT]
 intro _
 refine ai (X:=Unit) [0,1] [] l.length (fun k _=>∀p:Pat->Bool,FunOnP S d l p->∀x∈l.take k,p x=false) (fun _=>[]) (fun _=>[]) () (by simp) (by simp) (by omega) (by simp) (by simp) (by simp) (by simp) (by simp) ?_ ?_
 ·intro k _ hk hP
  simp
  refine⟨hk,fun x hx=>?_⟩
  rw[Tk x]
  refine hp.useB x (dO hx) fun y hy=>?_
  simp
  refine⟨fun h=>?_,fun h p' hp'=>?_⟩
  ·intro p' hp'
   exact(tc hx (by rw[<-hy p' hp',h]) (hP p' hp')).symm
  ·rw[bM hx]
   intro z hz
   rcases qtK.1 hz with hz|hz
   ·exact hP p' hp' z hz
   ·simp at hz;subst hz;rw[<-hy p' hp',h]
 ·intro _ hP
  simp
  intro p' hp'
  exact(lG (by simpa using hP p' hp')).symm
def qa7(S0:Nat->Spc)(x:List Pat×D×Unit)(y:Bool):Prop:=∀p:Pat->Bool,FunOnP S0 x.2.1 x.1 p->y=x.1.any p
abbrev L9(S0:Nat->Spc):Spc:=aS (aE (List Pat) (aD a0)) (Nv S0) enc (qa7 S0)
theorem pg(h1:S iL=qfI S0):aq dg cY S (aE (List Pat) (aD a0)) (Nv S0) enc (qa7 S0):=by
 rintro⟨l,d,⟨⟩⟩ hp
 simp[dg,cY,h1, -Bool.forall_bool]
 refine⟨hp,fun y hy p' hp'=>?_⟩
 rw[hy p' hp']
 exact tb p' l
abbrev Kk(n:Nat):Spc:=aS (a2 Pat Int) (fun x=>fe x.1<=n/\0<=x.2/\x.2<=101) (enc (X:=Bool)) fun x y=>y=cP x.1 x.2
def qeN(n:Nat)(x:Pat×D×Unit):Prop:=∃d:Int,x.2.1= .cptr [enc d] 0/\fe x.1<=n/\0<=d/\d<=100
def qaZ(x:Pat×D×Unit)(y:Bool):Prop:=∀d:Int,x.2.1= .cptr [enc d] 0->y=!cP x.1 (d+1)
abbrev XY(n:Nat):Spc:=aS (aE Pat (aD a0)) (qeN n) enc qaZ
theorem BR(n:Nat)(h1:S gx=Kk n):aq li kK S (aE Pat (aD a0)) (qeN n) enc qaZ:=by
 rintro⟨p,d,⟨⟩⟩ ⟨e,hd,h2,h3,h4⟩
 simp at hd h2
 subst hd
 simp[li,kK,h1,qaZ,h2, -Bool.forall_bool]
 exact⟨by simp only[InR];omega,by omega⟩
theorem Fo(n:Nat)(h0:S0 eR=XY n)(h1:S aK=L9 S0):aq oh nE S (a2 Pat Int) (fun x=>fe x.1<=n+1/\0<=x.2/\x.2<=101) (enc (X:=Bool)) fun x y=>y=cP x.1 x.2:=by
 rintro⟨p,d⟩ ⟨hn,hd0,hd1⟩
 have hk:∀k∈p.kids,fe k<=n:=fun k hk=>by have:=jZ hk;have:fe p<=n+1:=hn;omega
 simp only at hd0 hd1
 simp[oh,nE,h1, -Bool.forall_bool]
 rw[lC]
 refine⟨fun h=>?_,fun h=>by rw[decide_eq_false (by omega)];rfl⟩
 have hf:FunOnP S0 (.clo eR [.cptr [.v (.int .i64 d)] 0]) p.kids fun x=>!cP x (d+1):=
  K0 h0 (fun x hx=>⟨d,rfl,hk x hx,hd0,h⟩) (fun x _ y hy=>hy d rfl)
 refine⟨⟨_,hf⟩,fun y hy=>?_⟩
 rw[hy _ hf,decide_eq_true h,qvu]
 simp[qvW]
def qeO(S0:Nat->Spc)(n:Nat)(x:Pat×D×Unit):Prop:=∃ (d:D) (f:Pat->Bool),x.2.1= .cptr [d] 0/\FunIs S0 d f/\fe x.1<=n
def qa1(S0:Nat->Spc)(x:Pat×D×Unit)(y:Bool):Prop:=∀ (d:D) (f:Pat->Bool),x.2.1= .cptr [d] 0->FunIs S0 d f->y=!eC f x.1
abbrev SY(S0:Nat->Spc)(n:Nat):Spc:=aS (aE Pat (aD a0)) (fun x=>∃f:Pat->Bool,FunIs S0 x.2.1 f/\fe x.1<=n) enc fun x y=>∀f:Pat->Bool,FunIs S0 x.2.1 f->y=eC f x.1
abbrev Yh(S0:Nat->Spc)(n:Nat):Spc:=aS (aE Pat (aD a0)) (qeO S0 n) enc (qa1 S0)
theorem Fs(n:Nat)(h1:S ff=SY S0 n):aq oj nF S (aE Pat (aD a0)) (qeO S0 n) enc (qa1 S0):=by
 rintro⟨p,d,⟨⟩⟩ ⟨e,f,hd,h2,h3⟩
 simp at hd h3
 subst hd
 simp[oj,nF,h1,qa1,h3, -Bool.forall_bool]
 exact⟨⟨f,h2⟩,fun y hy d g e hg=>by subst e;exact hy g hg⟩
theorem Jj{N:Nat->Spc}(n:Nat)(hN:∀ (d:D) (f:Pat->Bool),FunIs N d f->FunIs S d f)(h0:S0 gy=Yh N n)(h1:S aK=L9 S0):aq sq ru S (aE Pat (aD a0)) (fun x=>∃f:Pat->Bool,FunIs N x.2.1 f/\fe x.1<=n+1) enc fun x y=>∀f:Pat->Bool,FunIs N x.2.1 f->y=eC f x.1:=by
 rintro⟨p,d,⟨⟩⟩ ⟨f,hf,hn⟩
 have hk:∀k∈p.kids,fe k<=n:=fun k hk=>by have:=jZ hk;have:fe p<=n+1:=hn;omega
 simp at hf
 have hd1:d.kn=true/\d.cells=[d]:=by obtain⟨g,caps,pc,rfl,_⟩:=hf;exact⟨rfl,rfl⟩
 simp[sq,ru,h1,hd1, -Bool.forall_bool]
 rw[Tk p]
 refine((hN d f hf).on [p]).useB p (by simp) fun y hy=>?_
 have hy:∀f,FunIs N d f->y=f p:=fun f hf=>hy f ((hN d f hf).on [p])
 simp[h1, -Bool.forall_bool]
 refine⟨fun ht=>?_,fun hff g hg=>by rw[eb,<-hy g hg,hff];rfl⟩
 have hO:∀g,FunIs N d g->FunOnP S0 (.clo gy [.cptr [d] 0]) p.kids fun x=>!eC g x:=fun g hg=>
  K0 h0 (fun x hx=>⟨d,g,rfl,hg,hk x hx⟩) (fun x _ y hy=>hy d g rfl hg)
 refine⟨⟨_,hO f hf⟩,fun z hz g hg=>?_⟩
 rw[hz _ (hO g hg),eb,<-hy g hg,ht,qvu]
 simp[qvW]
abbrev G6:Spc:=aS (a2 Pat Int) (fun x=>0<=x.2/\x.2<=101) (enc (X:=Bool)) fun x y=>y=cP x.1 x.2
abbrev Cq(N:Nat->Spc):Spc:=aS (aE Pat (aD a0)) (fun x=>∃f:Pat->Bool,FunIs N x.2.1 f) enc fun x y=>∀f:Pat->Bool,FunIs N x.2.1 f->y=eC f x.1
abbrev L8:Spc:=aS (a1 Pat) (fun _=>True) (enc (X:=Bool)) fun x y=>y=(cP x 1 && eC yC x)
theorem yK{X:Type}[Cod X]{S:Nat->Spc}{g:Nat}{pre:X->Prop}{p:X->Bool}(h:S g=aS (a1 X) pre enc fun x y=>y=p x)(hp:∀x,pre x):FunIs S (.clo g []) p:=by
 refine⟨g, [],_,rfl,h,fun x=>⟨⟨x,by simp,hp x⟩,fun r hr=>?_⟩⟩
 obtain⟨y,rfl,hy⟩:=hr x (by simp) (hp x)
 rw[hy]
theorem Jm{N:Nat->Spc}(h0:N jp=L3)(h1:S gx=G6)(h2:S ff=Cq N):aq su rA S (a1 Pat) (fun _=>True) (enc (X:=Bool)) fun x y=>y=(cP x 1 && eC yC x):=by
 rintro p -
 have f1:FunIs N (.clo jp []) yC:=yK h0 fun _=>trivial
 simp[su,rA,h1,h2, -Bool.forall_bool]
 refine⟨fun h=>⟨⟨_,f1⟩,fun y hy=>by rw[hy _ f1,h];rfl⟩,fun h h'=>absurd (h.symm.trans h') (by simp)⟩
theorem Jh{N:Nat->Spc}(h0:N dX=Co)(h0':N dz=ya)(h1:S pb=L8)(h2:S ff=Cq N):aq sk rq S (a1 Pat) (fun _=>True) (enc (X:=Bool)) fun x y=>y=pW bT x:=by
 rintro p -
 have f1:FunIs N (.clo dX []) (uS bT):=yK h0 fun _=>trivial
 have f2:FunIs N (.clo dz []) xG:=yK h0' fun _=>trivial
 simp[sk,rq,h1,h2, -Bool.forall_bool]
 unfold pW
 refine⟨fun h1 h2=>⟨⟨_,f1⟩,fun y hy=>?_⟩,fun h=>?_⟩
 ·have hy:=hy _ f1
  refine⟨fun ht=>⟨⟨_,f2⟩,fun z hz=>?_⟩,fun hf=>?_⟩
  ·rw[hz _ f2,h1,h2,<-hy,ht];rfl
  ·rw[<-hy,hf];simp
 ·rcases hs:cP p 1
  ·rfl
  ·rw[h hs];rfl
end Go.Gv

namespace Go.Gv
theorem KD(a b:List Pat):eP (a++b)=eP a+eP b:=by
 induction a with
 | nil=>simp[eP]
 | cons k a ih=>simp only[quv,eP];omega
end Go.Gv
