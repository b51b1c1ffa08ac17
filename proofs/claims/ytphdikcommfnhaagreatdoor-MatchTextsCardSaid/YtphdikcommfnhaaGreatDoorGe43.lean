/- A part of the framework and of the walks: W187 C68 W33 W34 W35 W32 W36. -/
import Derived.Test.YtphdikcommfnhaaGreatDoorGe42
import Derived.Test.YtphdikcommfnhaaGreatDoorGe38
import Derived.Test.YtphdikcommfnhaaGreatDoorGe39
import Derived.Test.YtphdikcommfnhaaGreatDoorGe20
import Derived.Test.YtphdikcommfnhaaGreatDoorGe36
import Derived.Test.YtphdikcommfnhaaGreatDoorGe27
set_option linter.unusedSimpArgs false
set_option linter.unusedVariables false
set_option linter.unusedSectionVars false
set_option maxRecDepth 100000
set_option maxHeartbeats 0

namespace Go.Gv
open Cod (enc dec)
open Go.Proofs Go.Sort Go.Shelf Go.Lib Go.RowKit
section
variable {P:Program}{ρ:Ren}
theorem qkS{tp I tp' I':Nat->Prop}{w w':World}{v:Value}{l:List Int}(h:R tp I w v (enc l))(hI:∀b,I b->I' b/\w'.heap[b]? =w.heap[b]?):R tp' I' w' v (enc l):=by
 have h:R tp I w v (.list 1 (l.map enc)):=h
 show R tp' I' w' v (.list 1 (l.map enc))
 have hint:∀c∈aW (l.map (enc (X:=Int))),∃x:Int,c= .v (.int .i64 x):=fun c hm=>by
  unfold aW at hm
  obtain⟨d,hd,hc⟩:=qyE.1 hm
  obtain⟨x,_,rfl⟩:=qxL.1 hd
  have:c∈ [D.v (.int .i64 x)]:=hc
  exact⟨x,by simpa using this⟩
 generalize l.map (enc (X:=Int))=es at h hint
 cases h with
 | nolist a cap n=>exact .nolist _ _ _
 | list b off cap n _ f hIb hc hm hz hn hcell h1 hRR=>
   refine .list b off cap 1 _ f (hI b hIb).1 hc hm (fun h=>absurd rfl h) hn (fun k c hk=>by rw[qzl (w:=w) (hI b hIb).2];exact hcell k c hk) h1 fun k c hk=>?_
   have hr:=hRR k c hk
   obtain⟨x,hx⟩:=hint c (qxC hk)
   subst hx
   have:=hr.inv_v
   rw[this]
   exact .int .i64 x
def Fg(xs:List Value)(n:Nat)(i:_root_.Fin n):List Value:=(xs.drop (i.val*3)).take 3
def qdC(l:List Match)(i j:_root_.Fin l.length):Int:=vT l[i] l[j]
theorem qP(l:List Match)(i j:_root_.Fin l.length):ltOf (qdC l) i j=true↔RC l[i] l[j]:=by
 unfold ltOf qdC RC
 rw[decide_eq_true_iff]
theorem qfl(l:List Match):SWO (ltOf (qdC l)):=by
 refine⟨fun x=>?_,fun x y z h1 h2=>?_,fun x y z h1 h2=>?_⟩
 ·rw[qyR,ne_eq,qP]
  exact Bl _
 ·rw[qP]at*
  exact sM h1 h2
 ·rw[qyR,ne_eq,qP]at*
  intro h3
  rcases EC h1 with e|e
  ·exact h2 (e ▸h3)
  ·rcases EC h2 with e'|e'
   ·exact h1 (e' ▸h3)
   ·exact Bl _ (sM h3 (sM e' e))
theorem Pl{xs:List Value}{n:Nat}(hx:xs.length=n*3)(i:_root_.Fin n){j:Nat}(hj:j < 3):(Fg xs n i)[j]? =xs[i.val*3+j]?:=by
 unfold Fg
 rw[qxS,if_pos hj,qyg]
theorem WW{xs:List Value}{n:Nat}(hx:xs.length=n*3)(i:_root_.Fin n):(Fg xs n i).length=3:=by
 unfold Fg
 have:=i.isLt
 simp
 omega
def qkZ(g:Nat)(x:D×Unit)(l:List Match):Prop:=x.1= .clo g []/\l.length<=1000000000/\l.Nodup
def qkT(_:D×Unit)(l r:List Match):Prop:=vi r/\r.length=l.length/\∀m,m∈r↔m∈l
abbrev Ud(g el:Nat):Spc:=qwb (Y:=Match) (aD a0) (qkZ g) qkT el 3
theorem Pv(m:Match):(enc m).cells=[.v (.int .i64 m.b), .v (.int .i64 m.e),enc m.lbs]:=by simp[D.cells]
theorem ZE{g:Nat}(hg:Tri P g s_cmpM.pt)(hT:sV=[]){tp I:Nat->Prop}{w:World}{gb:Nat}{l:List Match}[Inhabited (_root_.Fin l.length)]{xs:List Value}(hx:xs.length=l.length*3)
 (hI:∀b,I b->b < w.heap.size/\b≠gb) (hR:∀ (i j:Nat) (y:Value) (c:D),i < l.length->j < 3->xs[i*3+j]? =some y->∀m,l[i]? =some m->(enc m).cells[j]? =some c->y.oneCell'=true/\R tp I w y c):
 CmpLays P g #[] (Fg xs l.length) 3 (qdC l) gb 0 l.length w:=by
 intro m os dk _ x y
 have hsame:∀b,I b->(sortWorldK (Fg xs l.length) 3 w gb 0 m dk os).heap[b]? =w.heap[b]?:=fun b hb=>MX (w:=Sort.ahead w m) (hI b hb).1 (hI b hb).2
 have hgrow:w.heap.size<=(sortWorldK (Fg xs l.length) 3 w gb 0 m dk os).heap.size:=by simp[sortWorldK,grow,putRowK,putRow,mapBlock,Sort.ahead]
 generalize sortWorldK (Fg xs l.length) 3 w gb 0 m dk os=W at hsame hgrow ⊢
 have hRw:∀z:_root_.Fin l.length,R (fun _=>False) (aN (fun b=>b < W.heap.size/\ ¬I b) (fun _=>False) bM W) W (.agg (Fg xs l.length z).toArray) (enc l[z]):=fun z=>by
  have he:enc l[z]= .agg [.v (.int .i64 l[z].b), .v (.int .i64 l[z].e),enc l[z].lbs]:=by simp
  have hcell:∀ (j:Nat) (v:Value) (c:D),j < 3->(Fg xs l.length z)[j]? =some v->(enc l[z]).cells[j]? =some c->v.oneCell'=true/\R tp I w v c:=fun j v c hj h1 h2=>
   hR z.val j v c z.isLt hj (by rw[<-Pl hx z hj];exact h1) l[z] (by simp) h2
  have h3:=WW hx z
  rw[he]
  refine .agg _ _ (by simp[h3]) (fun v hv=>?_) fun j v c h1 h2=>?_
  ·obtain⟨j,hj,rfl⟩:=qz7 hv
   have hj3:j < 3:=by omega
   have hc:j < (enc l[z]).cells.length:=by rw[Pv];exact hj3
   exact(hcell j _ _ hj3 (qxA hj) (qxA hc)).1
  ·have hj3:j < 3:=by have:=(qxz.1 h2).1;simpa using this
   have hr:=(hcell j v c hj3 h1 (by rw[Pv];exact h2)).2
   rcases j with _|_|_|j
   ·cases h2;rw[hr.inv_v];exact .int .i64 _
   ·cases h2;rw[hr.inv_v];exact .int .i64 _
   ·cases h2
    exact qkS hr fun b hb=>⟨⟨qxU (hI b hb).1 hgrow,fun h=>h.2 hb,fun h=>h,fun⟨i,r,h,_⟩=>by simp[bM]at h⟩,hsame b hb⟩
   ·omega
 obtain⟨_,hc⟩:=hg (fun b=>b < W.heap.size/\ ¬I b) (fun _=>False) W [.agg (Fg xs l.length x).toArray, .agg (Fg xs l.length y).toArray] [enc l[x],enc l[y]] bM 0 (fun r H'=>r=enc (qdC l x y)/\H'=bM) (fun b h=>h.1) ⟨fun b h=>h.elim,fun p hp=>by rw[hT]at hp;cases hp⟩
  ⟨fun i j r s b h=>by simp[bM]at h,fun i r b h=>by simp[bM]at h,fun i r h=>by simp[bM]at h⟩ rfl
  (fun j v c h1 h2=>by
    rcases j with _|_|j
    ·simp only[qzy,qxN]at h1 h2;subst h1;subst h2;exact hRw x
    ·simp only[qyD,qzy,qxN]at h1 h2;subst h1;subst h2;exact hRw y
    ·simp at h1)
  (by
    rw[sT,qkQ,Cod.dec_enc,Cod.dec_enc]
    exact⟨trivial,fun z hz=>by subst hz;exact⟨rfl,rfl⟩⟩)
 refine hc.mono ?_
 rintro e w' ⟨v,r,H',tp',rfl,⟨rfl,rfl⟩,_,_,_,hs,_,_,hv⟩
 have hv':v= .int .i64 (qdC l x y):=R.inv_v hv
 subst hv'
 refine⟨rfl,w'.drawn -W.drawn,w'.heap.extract W.heap.size w'.heap.size,?_⟩
 have hheap:w'.heap=W.heap++w'.heap.extract W.heap.size w'.heap.size:=by
  apply Array.ext_getElem?
  intro b
  by_cases hb:b < W.heap.size
  ·rw[qys hb]
   exact hs.same b hb (fun⟨i,r,h,_⟩=>by simp[bM]at h) (fun h=>h)
  ·rw[Array.getElem?_append_right (by omega),qzV]
   have hsz:W.heap.size<=w'.heap.size:=hs.size
   by_cases hb2:b < w'.heap.size
   ·rw[if_pos (by omega)]
    congr 1
    omega
   ·rw[if_neg (by omega),qyZ (by omega)]
 have h1:=hs.os
 have h2:=hs.tape
 have h3:=hs.output
 have h4:=hs.drawn
 have h5:W.drawn+ (w'.drawn -W.drawn)=w'.drawn:=by omega
 cases w'
 cases W
 simp only[grow,World.drewN]at*
 subst h1;subst h2;subst h3
 rw[h5,<-hheap]
theorem qgo(l:List Match):(List.finRange l.length).map (fun i=>l[i])=l:=by
 refine qzE (by simp) fun i h1 h2=>?_
 simp
theorem Yf{fsort g el:Nat}(L:SlLaysF0.n6 P ρ)(hf:ρ.f 6=fsort)(aE:∀w,(isAgg (ρ.t 24)).run P w= .ok true w)(zE:∀w,(Go.sizeOf (ρ.t 24)).run P w= .ok 3 w)(hT:sV=[])(hg:Tri P g s_cmpM.pt)(eg:eJ P g)(ef:eJ P fsort):
 Tri P fsort (Ud g el).pt:=by
 subst hf
 intro O tp w vs ds H d K hO' htl hsat hlen hargs hA
 obtain⟨id,v,l,ds',x,rfl,hd,hid,⟨hx1,hl5,hnd⟩,hK⟩:=hA
 have hds:ds'=[.clo g []]:=by
  match ds',hd with
  | [],h=>cases h
  | a::r,h=>
    rw[qkP]at h
    match r,h with
    | [],h=>
      simp at h
      subst h
      simp only at hx1
      rw[hx1]
    | b::r,h=>cases h
 subst hds
 match vs,hlen,hargs with
 | [v0,fv],_,hargs=>
 have e0:v0=v:=by
  have:=hargs 0 v0 _ rfl rfl
  cases this;rfl
 have e1:fv= .func (.func g) #[] #[]:=by
  have:=hargs 1 fv _ rfl rfl
  cases this with
  | clo _ xs _ hl _=>
    have:xs=[]:=by simpa using hl
    subst this;rfl
 subst e0;subst e1
 refine⟨ef,?_⟩
 obtain⟨xs,⟨hxl,hx⟩,hkn,hcells⟩:=hsat.ok id _ hid
 have hll:(l.map (enc (X:=Match))).length=l.length:=by simp
 have hkw:∀d∈l.map (enc (X:=Match)),d.cells.length=3:=fun d hd=>(hkn d hd).2
 rcases hx with⟨rfl,h0⟩|⟨gb,cap,cur,rfl,_,hgb,hcap,hcapm,hsz,htake⟩
 ·have hl0:l=[]:=by simpa using h0
  subst hl0
  refine(AnyF.slices_SortFunc_none L none 0 _ w).mono ?_
  rintro e w' ⟨rfl,rfl⟩
  have hH:ah H id (some (.row (.slice none 0 0) el 3 (([]:List Match).map enc)))=H:=by
   funext i
   simp only[ah]
   by_cases hi:i=id
   ·subst hi;simp[hid]
   ·simp[hi]
  refine⟨_,_,_,tp,rfl,hK [] ⟨List.Pairwise.nil,rfl,fun _=>qyB⟩,fun b h=>h,fun b h=> .inl h,htl.1, .refl _ _ _,fun b h=> .inl (by rwa [hH]at h),by rw[hH];exact hsat, .tup [] [] rfl (fun k x c h=>by simp at h)⟩
 rw[hll]at hcap hxl htake ⊢
 by_cases hl0:l=[]
 ·subst hl0
  refine(AnyF.slices_SortFunc_none L (some ⟨gb,0,none⟩) cap _ w).mono ?_
  rintro e w' ⟨rfl,rfl⟩
  have hH:ah H id (some (.row (.slice (some ⟨gb,0,none⟩) (([]:List Match).map (enc (X:=Match))).length cap) el 3 (([]:List Match).map enc)))=H:=by
   funext i
   simp only[ah]
   by_cases hi:i=id
   ·subst hi;simp[hid]
   ·simp[hi]
  refine⟨_,_,_,tp,rfl,hK [] ⟨List.Pairwise.nil,rfl,fun _=>qyB⟩,fun b h=>h,fun b h=> .inl h,htl.1, .refl _ _ _,fun b h=> .inl (by rwa [hH]at h),by rw[hH];exact hsat, .tup [] [] rfl (fun k x c h=>by simp at h)⟩
 have hlp:0 < l.length:=List.length_pos_iff.2 hl0
 letI inst:Inhabited (_root_.Fin l.length):=⟨⟨0,hlp⟩⟩
 have hbo:(Res.row (.slice (some ⟨gb,0,none⟩) l.length cap) el 3 (l.map enc)).blk=some gb:=rfl
 have hid':H id=some (.row (.slice (some ⟨gb,0,none⟩) l.length cap) el 3 (l.map enc)):=by rw[hid,hll]
 have hown:bL H gb:=⟨id,_,hid',hbo⟩
 have hcellAt:∀ (i j:Nat) (y:Value) (c:D),i < l.length->j < 3->xs[i*3+j]? =some y->∀m,l[i]? =some m->(enc m).cells[j]? =some c->y.oneCell'=true/\R tp (aN O tp H w) w y c:=fun i j y c hi hj hy m hm hc=>by
  refine hcells (i*3+j) y c hy ?_
  rw[dr hkw hj,qxQ,hm]
  exact hc
 have hgs:gb < w.heap.size:=(qxG.1 hgb).1
 have hlays:=ZE (gb:=gb) hg hT (tp:=tp) (I:=aN O tp H w) (w:=w) hxl (fun b hb=>⟨hb.1,fun e=>hb.2.2.2 (e ▸hown)⟩) hcellAt
 have hevl:∀z:_root_.Fin l.length,(Fg xs l.length z).length=3:=WW hxl
 have hone:∀ (z:_root_.Fin l.length),∀y∈Fg xs l.length z,y.oneCell'=true:=fun z y hy=>by
  obtain⟨j,hj,rfl⟩:=qz7 hy
  have hj3:j < 3:=by have:=hevl z;omega
  have hc:j < (enc l[z]).cells.length:=by rw[Pv];exact hj3
  exact(hcellAt z.val j _ _ z.isLt hj3 (by rw[<-Pl hxl z hj3];exact qxA hj) l[z] (by simp) (qxA hc)).1
 have hfm:(List.finRange l.length).flatMap (Fg xs l.length)=xs:=by
  refine qyw fun t=>?_
  by_cases ht:t < l.length*3
  ·have hm:t % 3 < 3:=qyX _ (by decide)
   have hdm:t=(t/3) *3+t % 3:=by have:=qyP t 3;omega
   have hq:t/3 < l.length:=by omega
   have h2:=Pi (f:=Fg xs l.length) (n:=3) (l:=List.finRange l.length) (fun x _=>hevl x) (i:=t/3) hm
   rw[<-hdm]at h2
   rw[h2]
   have h3:(List.finRange l.length)[t/3]? =some ⟨t/3,hq⟩:=by
    rw[qxA (by simpa using hq)];simp
   rw[h3,qxR,Pl hxl _ hm]
   congr 1
   exact hdm.symm
  ·have h4:=Ph (f:=Fg xs l.length) (n:=3) (l:=List.finRange l.length) (fun x _=>hevl x)
   rw[qx7 (by rw[h4];simp;omega),qx7 (by omega)]
 have hcur:∀j,j < l.length*3->cur[j]? =xs[j]?:=fun j hj=>by
  rw[<-htake,qxS,if_pos hj,qx6]
 have hsz0:(List.finRange l.length).toArray.size=l.length:=by simp
 have hH:HoldsK (Fg xs l.length) 3 w gb 0 (List.finRange l.length).toArray:=by
  intro j hj
  have hj':j < l.length*3:=by simpa using hj
  refine⟨?_,Pg hgb⟩
  have h6:xs[j]? =(flatK (Fg xs l.length) 3 (List.finRange l.length).toArray).toList[j]?:=congrArg (fun z:List Value=>z[j]?) ((Kv (Fg xs l.length) 3 hevl (List.finRange l.length)).trans hfm).symm
  rw[Va hgb,qyo,hcur j hj',h6,qx6,qyC hj,getElem!_pos _ j hj]
  rfl
 have hndi:∀x y:_root_.Fin l.length,l[x]=l[y]->x=y:=fun x y e=>by
  have hp:=qzu.1 hnd
  apply Fin.ext
  rcases qAk x.val y.val with h|h|h
  ·exact absurd e (hp x.val y.val x.isLt y.isLt h)
  ·exact h
  ·exact absurd e.symm (hp y.val x.val y.isLt x.isLt h)
 have hcall:=AnyQ.slices_SortFunc_total L 3 aE zE (Fg xs l.length) hevl hone (qdC l) (qfl l) g #[] gb 0 cap (List.finRange l.length).toArray w eg (by rw[hsz0];exact hlays) hH hgs (by rw[hsz0];omega) (fun x y h1 h2=>by
  rw[qyR,ne_eq,qP]at h1 h2
  rcases EC h1 with e|e
  ·exact hndi _ _ e
  ·exact absurd e h2)
 rw[hsz0]at hcall
 refine hcall.mono ?_
 rintro e w' ⟨rfl,n,os,hw'⟩
 simp only[List.toList_toArray]at hw'
 generalize hl':((List.finRange l.length).mergeSort fun x y=>!(ltOf (qdC l)) y x)=l' at hw'
 have hlen':l'.length=l.length:=by rw[<-hl'];simp
 have hwo:∀b,b < w.heap.size->b≠gb->w'.heap[b]? =w.heap[b]?:=fun b hb hne=>by
  rw[hw'];exact MX (w:=Sort.ahead w n) hb hne
 have hthis:w'.heap[gb]? =some (.cells (putCells _root_.id 0 (flatK (Fg xs l.length) 3 l'.toArray) cur) el (0,0)):=by
  rw[hw'];exact qbC (w:=Sort.ahead w n) hgb
 have hws:w.heap.size<=w'.heap.size:=by
  rw[hw'];simp[sortWorldK,grow,putRowK,putRow,mapBlock,Sort.ahead]
 have hos:w'.os=w.os/\w'.tape=w.tape/\w'.output=w.output/\w.drawn<=w'.drawn:=by
  rw[hw'];exact⟨rfl,rfl,rfl,Nat.le_add_right _ _⟩
 clear hw' hcall
 have htp:∀b,tp b->b≠gb:=fun b hb e=>(hsat.out id _ gb hid' hbo).2 (e ▸hb)
 have htapes:∀b,tp b->TapeStep w w' b:=fun b hb=> .same (hwo b (htl.1 b hb) (htp b hb))
 have hperm:l'.Perm (List.finRange l.length):=by rw[<-hl'];exact List.mergeSort_perm _ _
 have hsort:vi (l'.map fun i=>l[i]):=by
  have h1:l'.Pairwise fun x y=>(!(ltOf (qdC l)) y x)=true:=by
   rw[<-hl']
   refine List.pairwise_mergeSort (fun a b c h1 h2=>?_) (fun a b=>?_) _
   ·simp only[qzf,qyR,ne_eq,qP]at h1 h2 ⊢
    intro h3
    rcases EC h1 with e|e
    ·exact h2 (e ▸h3)
    ·exact h2 (sM h3 e)
   ·by_cases h:RC l[b] l[a]
    ·have:¬RC l[a] l[b]:=fun h2=>Bl _ (sM h h2)
     have h3:ltOf (qdC l) a b=false:=by rw[qyR,ne_eq,qP];exact this
     rw[h3];simp
    ·have h3:ltOf (qdC l) b a=false:=by rw[qyR,ne_eq,qP];exact h
     rw[h3];simp
  have h2:l'.Nodup:=hperm.nodup_iff.2 (List.nodup_finRange _)
  unfold vi
  rw[qAl]
  refine(h1.and h2).imp fun {x y} h=>?_
  have h3:=h.1
  simp only[qzf,qyR,ne_eq,qP]at h3
  rcases EC h3 with e|e
  ·exact absurd (hndi _ _ e).symm h.2
  ·exact e
 have hmem:∀m,m∈ (l'.map fun i=>l[i]) ↔m∈l:=fun m=>by
  have:=(hperm.map fun i=>l[i]).mem_iff (a:=m)
  rwa [qgo]at this
 have hK':=hK (l'.map fun i=>l[i]) ⟨hsort,by simp[hlen'],hmem⟩
 rw[hll]at hK'
 generalize hH2:ah H id (some (.row (.slice (some ⟨gb,0,none⟩) l.length cap) el 3 ((l'.map fun i=>l[i]).map enc)))=H2 at hK'
 have hown2:∀b,bL H2 b->bL H b:=fun b ⟨i,r,h1,h2⟩=>by
  rw[<-hH2]at h1
  simp only[ah]at h1
  split at h1
  ·cases h1;cases h2;exact hown
  ·exact⟨i,r,h1,h2⟩
 have hmove:∀y c,R tp (aN O tp H w) w y c->R tp (aN O tp H2 w') w' y c:=fun y c hr=>hr.mono (fun _ h=>h) (fun b hb=>⟨⟨qxU hb.1 hws,hb.2.1,hb.2.2.1,fun h=>hb.2.2.2 (hown2 b h)⟩,hwo b hb.1 (fun e=>hb.2.2.2 (e ▸hown))⟩) htapes
 have hget:∀i r,H2 i=some r->(i=id/\r= .row (.slice (some ⟨gb,0,none⟩) l.length cap) el 3 ((l'.map fun i=>l[i]).map enc))\/(i≠id/\H i=some r):=fun i r h=>by
  rw[<-hH2]at h
  simp only[ah]at h
  split at h
  ·rename_i e;cases h;exact .inl ⟨e,rfl⟩
  ·rename_i e;exact .inr ⟨e,h⟩
 refine⟨_,_,H2,tp,rfl,hK',fun b h=>h,fun b h=> .inl h,fun b hb=>qxU (htl.1 b hb) hws,⟨hos.1,hos.2.1,hos.2.2.1,hws,fun b hb ho ht=>hwo b hb (fun e=>ho (e ▸hown)),htapes,hos.2.2.2⟩,fun b h=> .inl (hown2 b h),⟨?_,?_,?_⟩, .tup [] [] rfl (fun k x c h=>by simp at h)⟩
 ·intro i j r s b h1 h2 h3 h4
  rcases hget i r h1 with⟨rfl,rfl⟩|⟨n1,k1⟩
  ·rcases hget j s h2 with⟨rfl,rfl⟩|⟨n2,k2⟩
   ·rfl
   ·exact hsat.dis _ j _ s b hid' k2 h3 h4
  ·rcases hget j s h2 with⟨rfl,rfl⟩|⟨n2,k2⟩
   ·exact hsat.dis i _ r _ b k1 hid' h3 h4
   ·exact hsat.dis i j r s b k1 k2 h3 h4
 ·intro i r b h1 h2
  rcases hget i r h1 with⟨rfl,rfl⟩|⟨n1,k1⟩
  ·exact hsat.out _ _ b hid' h2
  ·exact hsat.out i r b k1 h2
 ·intro i r h1
  rcases hget i r h1 with⟨rfl,rfl⟩|⟨n1,k1⟩
  ·have hfml':=Ph (f:=Fg xs l.length) (n:=3) (l:=l') (fun x _=>hevl x)
   have hps:(putCells _root_.id 0 (flatK (Fg xs l.length) 3 l'.toArray) cur).size=cur.size:=by simp[putCells]
   refine⟨l'.flatMap (Fg xs l.length),⟨by simp;rw[<-List.length_flatMap];exact hfml', .inr ⟨gb,cap,_,by simp[hlen'],qx3 _,hthis,by simp;omega,hcapm,by rw[hps,hsz],?_⟩⟩,fun d hd=>?_,fun j y c h1 h2=>?_⟩
   ·simp only[qym,hlen']
    apply qyw
    intro j
    rw[qxS]
    by_cases hj:j < l.length*3
    ·have hjc:j < cur.size:=by
      have:l.length*3<=cap*3:=qya 3 hcap
      omega
     have hjf:j < (flatK (Fg xs l.length) 3 l'.toArray).size:=by simp[hlen'];exact hj
     rw[if_pos hj,qx6,<-Kv (Fg xs l.length) 3 hevl l',qx6]
     simp only[putCells,Array.getElem?_mapIdx,qyC hjc,qzs,qx3,qyo,hjf,and_self,if_true,Nat.sub_zero,id_eq]
     rw[qyC hjf,getElem!_pos _ j hjf]
    ·rw[if_neg hj,qx7 (by rw[hfml',hlen'];omega)]
   ·obtain⟨z,_,rfl⟩:=qxL.1 hd
    exact⟨Cod.kn z,Cod.wid z⟩
   ·have ht:j < l'.length*3:=by rw[<-hfml'];exact(qxz.1 h1).1
    have hm:j % 3 < 3:=qyX _ (by decide)
    have hdm:j=(j/3) *3+j % 3:=by have:=qyP j 3;omega
    have hq:j/3 < l'.length:=by omega
    have h5:=Pi (f:=Fg xs l.length) (n:=3) (l:=l') (fun x _=>hevl x) (i:=j/3) hm
    rw[<-hdm,h1,qxA hq,qxR,Pl hxl _ hm]at h5
    rw[hdm,dr (fun d hd=>by obtain⟨z,_,rfl⟩:=qxL.1 hd;exact Cod.wid z) hm,qxQ,qxQ,qxA hq]at h2
    obtain⟨a1,a2⟩:=hcellAt (l'[j/3]).val (j % 3) y c (l'[j/3]).isLt hm h5.symm l[l'[j/3]] (by simp) h2
    exact⟨a1,hmove _ _ a2⟩
  ·have hne:∀b,r.blk=some b->b≠gb:=fun b hb e=>n1 (hsat.dis i id r _ gb k1 hid' (e ▸hb) hbo)
   exact(hsat.ok i r k1).conv hmove (fun b hb=>hwo b ((hsat.ok i r k1).lt hb) (hne b hb))
end
end Go.Gv

namespace Go.Gv
open Go.Proofs
def rU:CC:=gq Tryz.f80 [1] { bx:=[7] } _
def ru:List aj:=[.tmp 2]
theorem HP:ak Tryz.prog tH [1] rU ru 8:=fo
def iu:CC:=gq Tryz.f72 [2] { bx:=[1,31],cu:=[1] } _
def ib:List aj:=[.tmp 4]
theorem yP:ak Tryz.prog bT [2] iu ib 34:=fo
def ir:CC:=gq Tryz.f73 [2] { bx:=[1,24] } _
def ia:List aj:=[.tmp 4]
theorem yO:ak Tryz.prog dW [2] ir ia 27:=fo
def uc:CC:=gq Tryz.f120 [1,2002002] {} _
def th:List aj:=[.cell 2 true 13]
theorem JV:ak Tryz.prog qD [1,2002002] uc th 11:=fo
def rT:CC:=gq Tryz.f169 [1,2021003,1020020] {} _
def rr:List aj:=[.cell 2 true 7]
theorem HO:ak Tryz.prog jG [1,2021003,1020020] rT rr 24:=fo
def du:CC:=gq Tryz.f71 [1] { bx:=[41] } _
def dn:List aj:=[.tmp 2]
theorem pd:ak Tryz.prog dX [1] du dn 44:=fo
def gg:CC:=gq Tryz.f116 [1] {} _
def fS:List aj:=[.tmp 2]
theorem wI:ak Tryz.prog cY [1] gg fS 7:=fo
def fC:CC:=gq Tryz.f40 [2] { bx:=[17,20],fz:=[(17,1),(20,13)] } _
def fl:List aj:=[.tmp 4]
theorem uM:ak Tryz.prog kq [2] fC fl 49:=fo
def fB:CC:=gq Tryz.f78 [3] {} _
def fk:List aj:=[.tmp 6]
theorem uL:ak Tryz.prog dE [3] fB fk 33:=fo
def ay:CC:=gq Tryz.f130 [3] {} _
def ax:List aj:=[.tmp 6]
theorem tw:ak Tryz.prog fu [3] ay ax 115:=fo
def wg:CC:=gq Tryz.f76 [1] {} _
def vx:List aj:=[.tmp 2]
theorem Mb:ak Tryz.prog nQ [1] wg vx 11:=fo
def iz:CC:=gq Tryz.f126 [1] {} _
def ix:List aj:=[.tmp 2]
theorem BY:ak Tryz.prog nP [1] iz ix 58:=fo
def gh:CC:=gq Tryz.f77 [1] {} _
def fT:List aj:=[.tmp 2]
theorem Ai:ak Tryz.prog lw [1] gh fT 22:=fo
def bv:CC:=gq Tryz.f75 [] {} _
def br:List aj:=[.tmp 4]
theorem gu:ak Tryz.prog aL [] bv br 9:=fo
def bW:CC:=gq Tryz.f125 [] {} _
def bO:List aj:=[.tmp 4]
theorem jy:ak Tryz.prog ck [] bW bO 19:=fo
end Go.Gv

namespace Go.Gv
open Cod (enc dec)
variable {S S0:Nat->Spc}
end Go.Gv

namespace Go.Gv
open Cod (enc dec)
variable {S S0:Nat->Spc}
theorem Io{a b A B:Int}(h0:0<=a)(h1:a<=A)(h2:0<=b)(h3:b<=B):0<=a*b/\a*b<=A*B:=⟨qzj h0 h2,Int.mul_le_mul h1 h3 h2 (by omega)⟩
def PPat(n:Nat)(p:Pat):Prop:=eD p<=n/\kP aZ p=true
theorem PPat.kid{n:Nat}{p k:Pat}(h:PPat (n+1) p)(hk:k∈p.kids):PPat n k:=by
 have h1:=jv hk
 have h2:=h.1
 exact⟨by omega,qL h.2 hk⟩
abbrev rh:Spc:=aI (a1 Pat) (fun _=>True) (enc (X:=Bool)) fun x y=>y=kP aZ x
abbrev qaU(n:Nat):Spc:=aI (a1 Pat) (PPat n) (enc (X:=Int)) fun x y=>y=kB x
abbrev VM(n:Nat):Spc:=aI (a1 Pat) (PPat n) (qW (Y:=Int) (Z:=Int)) fun x y=>y=gx x
end Go.Gv

namespace Go.Gv
open Cod (enc dec)
variable {S S0:Nat->Spc}
abbrev qb2:D:= .v (.slice none 0 0)
def qvk(x:Pat)(l:List Pat):Prop:=l.length+ (aM x).length<=100000000
theorem qjN{ks:List Pat}{k:Nat}{x:Pat}{l:List Pat}(hx:ks[k]? =some x)(h:l.length+ (ks.flatMap aM).length<=100000000):qvk x (l++ (ks.take k).flatMap aM):=by
 have:ks=ks.take k++x::ks.drop (k+1):=by rw[<-gP hx,qyc]
 rw[this]at h
 simp only[qz8,qyd,qxX]at h
 unfold qvk
 rw[qxX]
 omega
abbrev Ol:Spc:=aI (a1 Pat) (fun x=>kP aZ x=true) (enc (X:=Int)) fun x y=>y=kB x
abbrev QQ:Spc:=aI (a1 Pat) (fun x=>kP aZ x=true) (qW (Y:=Int) (Z:=Int)) fun x y=>y=gx x
abbrev Wi:Spc:=aI (a1 Pat) (fun _=>True) (qW (Y:=Int) (Z:=Int)) fun x y=>y=if kP aZ x then gx x else(0,0)
end Go.Gv

namespace Go.Gv
open Cod (enc dec)
variable {S S0:Nat->Spc}
abbrev qaJ:Spc:=aI (a1 Cond) (fun _=>True) (enc (X:=Bool)) fun x y=>(y=true↔x=Cond0)
theorem NT:aq wa vu S (a1 Cond) (fun _=>True) (enc (X:=Bool)) fun x y=>(y=true↔x=Cond0):=by
 rintro⟨op,n,a,v,l,f,ks⟩ -
 simp[wa,vu,Cond0]
 repeat' first|apply And.intro|intro _
 all_goals simp_all
abbrev On:Spc:=aI (a1 Pat) (fun _=>True) (enc (X:=Bool)) fun x y=>y=yQ x
theorem NW(h1:S yf=qaJ):aq we vw S (a1 Pat) (fun _=>True) (enc (X:=Bool)) fun x y=>y=yQ x:=by
 rintro p -
 simp[we,vw,h1, -Bool.forall_bool]
 clear h1
 repeat' first|apply And.intro|intro _
 all_goals (rw[qyi,wM];unfold uv;simp_all;try omega)
abbrev Bf:Spc:=aI (a1 Pat) (fun _=>True) (enc (X:=Bool)) fun x y=>y=uO aZ x
theorem LD(h1:S bw=zP):aq ua tf S (a1 Pat) (fun _=>True) (enc (X:=Bool)) fun x y=>y=uO aZ x:=by
 rintro p -
 simp[ua,tf,h1,uO, -Bool.forall_bool]
 clear h1
 repeat' first|apply And.intro|intro _
 all_goals (first|omega|simp_all;try omega)
abbrev wB:Spc:=aI (a1 Pat) (fun _=>True) (enc (X:=Bool)) fun x y=>y=uB x
theorem IG:aq rS rq S (a1 Pat) (fun _=>True) (enc (X:=Bool)) fun x y=>y=uB x:=by
 rintro p -
 simp[rS,rq,uB]
 repeat' first|apply And.intro|intro _
 all_goals (first|omega|(rw[qyi];simp;omega))
end Go.Gv

namespace Go.Gv
open Cod (enc dec)
variable {S S0:Nat->Spc}
theorem NU(n:Nat)(h1:S km=qaU n):aq wb vv S (a1 Pat) (PPat (n+1)) (enc (X:=Int)) fun x y=>y=kB x:=by
 rintro p hp
 have hk:∀k∈p.kids,PPat n k:=fun k=>hp.kid
 have hs:∀k∈p.kids,0<=kB k/\kB k<=1000:=fun k h=>Yl (v:=aZ) k (hk k h).2
 simp[wb,vv]
 intro _
 refine ai (X:=Int) [1,7] [] p.kids.length (fun k n=>n=iE (p.kids.take k) 0) (fun n=>[(3,enc n)]) (fun _=>[]) 0 (by simp) (by simp) (by omega) (by simp) (by simp) (by simp[iE]) (by simp) (by simp) ?_ ?_
 ·rintro k m hkl hP
  obtain⟨x,hx⟩:=bJ hkl
  have hx1:=bj hx
  obtain⟨_,hgx⟩:=qxz.1 hx
  have hm:=xh (p.kids.take k) 0 (by omega) (by omega) (fun y hy=>(hs y (qxW hy)).1)
  have h2:=hs x hx1
  rw[<-hP]at hm
  have q1:=hk x hx1
  simp[h1,hkl,hx,hgx,q1]
  refine⟨by simp only[InR];omega,?_⟩
  rw[bc hx,Ua,<-hP,iE,iE]
 ·rintro m hP
  have hm:=xh (p.kids.take p.kids.length) 0 (by omega) (by omega) (fun y hy=>(hs y (qxW hy)).1)
  rw[<-hP]at hm
  rw[qx1]at hP
  have hn:=(sJ hp.2).2.2
  unfold uB at hn
  rw[decide_eq_true_eq]at hn
  rw[wz,GY,<-hP]
  simp
  intro _
  refine⟨fun h=>fun h'=>absurd h h',fun h0=>⟨fun h6=>?_,fun h6=>by rw[if_neg h0,if_neg h6]⟩⟩
  rw[if_neg h0,if_pos h6]
  have hn:=hn h6
  refine⟨fun e=>by rw[if_neg (by omega),if_pos e],fun e=>⟨fun e2=>?_,fun e2=>?_⟩⟩
  ·have h2:=Io hm.1 hm.2 (show 0<=p.mn+1 by omega) (show p.mn+1<=17 by omega)
   rw[if_pos (by omega)]
   exact⟨by simp only[InR];omega,by simp only[InR];omega,rfl⟩
  ·have h2:=Io hm.1 hm.2 (show 0<=p.mx by omega) (show p.mx<=16 by omega)
   rw[if_neg (by omega),if_neg e]
   exact⟨by simp only[InR];omega,rfl⟩
theorem LI(h1:S qC=rh)(h2:S lr=QQ):aq ue tj S (a1 Pat) (fun _=>True) (qW (Y:=Int) (Z:=Int)) fun x y=>y=if kP aZ x then gx x else(0,0):=by
 rintro p -
 simp[ue,tj,h1,h2,qW, -Bool.forall_bool]
 exact⟨fun h1 h2=>absurd (h1.symm.trans h2) (by simp),fun h1=>⟨h1,fun h2=>absurd (h2.symm.trans h1) (by simp)⟩⟩
theorem LA(n:Nat)(h1:S lr=VM n):aq ge fR S (a1 Pat) (PPat (n+1)) (qW (Y:=Int) (Z:=Int)) fun x y=>y=gx x:=by
 rintro p hp
 have hk:∀k∈p.kids,PPat n k:=fun k=>hp.kid
 have hs:∀k∈p.kids,rb (gx k):=fun k h=>NJ (v:=aZ) k (hk k h).2
 have hn:=(sJ hp.2).2.2
 unfold uB at hn
 rw[decide_eq_true_eq]at hn
 rcases F4 (sJ hp.2).1 with⟨ho,_⟩|⟨ho,_⟩|⟨ho,k0,ks,hkk⟩|⟨ho,k0,hkk⟩
 ·simp[ge,fR,h1,ho,Z7 ho]
 ·have:=Z6 ho
  rcases ho with ho|ho <;> simp[ge,fR,h1,ho,this]
 ·have hc:p.op≠1/\p.op≠2/\p.op≠3/\p.op≠6:=by omega
  have q1:=hk k0 (by rw[hkk];simp)
  have q2:=hs k0 (by rw[hkk];simp)
  simp[ge,fR,h1,hc,qW,hkk,q1]
  refine⟨by omega,fun _=>?_⟩
  refine ai (X:=Int×Int) [1,69] [] ks.length (fun k w=>w=jh (decide (p.op=4)) (ks.take k) (gx k0)/\rb w) (fun w=>[(6,enc w.1),(7,enc w.2)]) (fun _=>[]) (gx k0) (by simp) (by simp) (by omega) (by simp) (by simp) (by simp[jh,q2]) (by simp) (by simp) ?_ ?_
  ·rintro k w hkl ⟨hP1,hP2⟩
   obtain⟨x,hx⟩:=bJ hkl
   have hx1:x∈p.kids:=by rw[hkk];exact qzn _ (bj hx)
   obtain⟨_,hgx⟩:=qxz.1 hx
   have q3:=hk x hx1
   have q4:=hs x hx1
   have key:∀r:Int×Int,r=Iy (decide (p.op=4)) w (gx x)->r=jh (decide (p.op=4)) (ks.take (k+1)) (gx k0)/\rb r:=by
    intro r hr
    rw[bc hx,XU,jh,jh,<-hP1]
    exact⟨hr,by rw[hr];exact Vz hP2 q4⟩
   simp[h1,hkl,hx,hgx,q3,qW]
   clear h1
   generalize gx x=u at q4 key
   obtain⟨u1,u2⟩:=u
   obtain⟨w1,w2⟩:=w
   unfold rb at q4 hP2
   simp only at q4 hP2
   clear hP1
   refine⟨fun e1=>⟨fun h4=>⟨by simp only[InR];omega,by simp only[InR];omega,fun e2=>key _ ?_,fun e2=>key _ ?_⟩,fun h4=>⟨fun e2=>key _ ?_,fun e2=>key _ ?_⟩⟩,fun e1=>⟨fun h4=>⟨by simp only[InR];omega,by simp only[InR];omega,key _ ?_⟩,fun h4=>key _ ?_⟩⟩
   all_goals clear key
   all_goals (try simp only at e1)
   all_goals (try simp only at e2)
   all_goals (unfold Iy;simp[h4];try omega)
  ·rintro w ⟨hP,_⟩
   simp[qW]
   rw[Z5 ho hkk]
   rw[qx1]at hP
   rw[<-hP]
 ·have q1:=hk k0 (by rw[hkk];simp)
  have q2:=hs k0 (by rw[hkk];simp)
  have hn:=hn ho
  simp[ge,fR,h1,ho,hkk,q1,qW]
  rw[Z4 ho hkk]
  generalize gx k0=w at q2
  unfold rb at q2
  have h2:=Io q2.1 q2.2.1 hn.1 hn.2.1
  refine⟨by simp only[InR];omega,fun e1=>⟨fun e2=>by rw[if_pos (.inr e2)],fun e2=>⟨fun e3=>⟨fun e4=>?_,fun e4=>?_⟩,fun e3=>?_⟩⟩,fun e1=>by rw[if_pos (.inl e1)]⟩
  ·rw[if_neg (by omega),if_pos (by omega)]
  ·have h3:=Io e4 q2.2.2.2 (show 0<=p.mx by omega) (show p.mx<=16 by omega)
   refine⟨by simp only[InR];omega,?_⟩
   rw[if_neg (by omega),if_neg (by omega)]
  ·rw[if_neg (by omega),if_pos (by omega)]
end Go.Gv
