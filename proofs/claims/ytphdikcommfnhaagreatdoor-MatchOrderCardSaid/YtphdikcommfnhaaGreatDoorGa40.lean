/- A part of the framework and of the walks: W187 C68 W33 W34 W35 W32. -/
import Derived.Test.YtphdikcommfnhaaGreatDoorGa39
import Derived.Test.YtphdikcommfnhaaGreatDoorGa35
import Derived.Test.YtphdikcommfnhaaGreatDoorGa36
import Derived.Test.YtphdikcommfnhaaGreatDoorGa22
import Derived.Test.YtphdikcommfnhaaGreatDoorGa34
set_option linter.unusedSimpArgs false
set_option linter.unusedVariables false
set_option maxRecDepth 100000

namespace Go.Gv
open Cod (enc dec)
open Go.Proofs Go.Sort Go.Shelf Go.Lib Go.RowKit
section
variable {P:Program} {ρ:Ren}
theorem ZB {tp I tp' I':Nat->Prop} {w w':World} {v:Value} {l:List Int} (h:R tp I w v (enc l)) (hI: ∀b,I b->I' b/\w'.heap[b]?=w.heap[b]?):R tp' I' w' v (enc l):=by
 have h:R tp I w v (.list 1 (l.map enc)):=h
 show R tp' I' w' v (.list 1 (l.map enc))
 have hint: ∀c∈bF (l.map (enc (X:=Int))),∃x:Int,c= .v (.int .i64 x):=fun c hm=> by
  unfold bF at hm
  obtain⟨d,hd,hc⟩:=List.mem_flatMap.1 hm
  obtain⟨x,_,rfl⟩:=List.mem_map.1 hd
  have:c∈ [D.v (.int .i64 x)]:=hc
  exact⟨x,by simpa using this⟩
 generalize l.map (enc (X:=Int))=es at h hint
 cases h with
 | nolist a cap n=> exact .nolist _ _ _
 | list b off cap n _ f hIb hc hm hz hn hcell h1 hRR=>
   refine .list b off cap 1 _ f (hI b hIb).1 hc hm (fun h=> absurd rfl h) hn (fun k c hk=> by rw[World.cell?_of_block (w:=w) (hI b hIb).2];exact hcell k c hk) h1 fun k c hk=> ?_
   have hr:=hRR k c hk
   obtain⟨x,hx⟩:=hint c (List.mem_of_getElem? hk)
   subst hx
   have:=hr.inv_v
   rw[this]
   exact .int .i64 x
def Am (xs:List Value) (n:Nat) (i:_root_.Fin n):List Value:=(xs.drop (i.val*3)).take 3
def Uh (l:List Match) (i j:_root_.Fin l.length):Int:=qr l[i] l[j]
theorem nl (l:List Match) (i j:_root_.Fin l.length):ltOf (Uh l) i j=true↔KR l[i] l[j]:=by
 unfold ltOf Uh KR
 rw[decide_eq_true_iff]
theorem Vw (l:List Match):SWO (ltOf (Uh l)):=by
 refine⟨fun x=> ?_,fun x y z h1 h2=> ?_,fun x y z h1 h2=> ?_⟩
 ·rw[Bool.eq_false_iff,ne_eq,nl]
  exact vq _
 ·rw[nl] at*
  exact oV h1 h2
 ·rw[Bool.eq_false_iff,ne_eq,nl] at*
  intro h3
  rcases zo h1 with e | e
  ·exact h2 (e ▸h3)
  ·rcases zo h2 with e' | e'
   ·exact h1 (e' ▸h3)
   ·exact vq _ (oV h3 (oV e' e))
theorem JA {xs:List Value} {n:Nat} (hx:xs.length=n*3) (i:_root_.Fin n) {j:Nat} (hj:j < 3): (Am xs n i)[j]?=xs[i.val*3+j]?:=by
 unfold Am
 rw[List.getElem?_take,if_pos hj,List.getElem?_drop]
theorem OR {xs:List Value} {n:Nat} (hx:xs.length=n*3) (i:_root_.Fin n): (Am xs n i).length=3:=by
 unfold Am
 have:=i.isLt
 simp
 omega
def ZI (g:Nat) (x:D×Unit) (l:List Match):Prop:=x.1= .clo g []/\l.length<=1000000000/\l.Nodup
def ZC (_:D×Unit) (l r:List Match):Prop:=qM r/\r.length=l.length/\ ∀m,m∈r↔m∈l
abbrev Iy (g el:Nat):Spc:=ql7 (Y:=Match) (aD a0) (ZI g) ZC el 3
theorem JJ (m:Match): (enc m).cells= [.v (.int .i64 m.b), .v (.int .i64 m.e),enc m.lbs]:=by simp[D.cells]
theorem Q2 {g:Nat} (hg:Tri P g s_cmpM.pt) (hT:pa= []) {tp I:Nat->Prop} {w:World} {gb:Nat} {l:List Match} [Inhabited (_root_.Fin l.length)] {xs:List Value} (hx:xs.length=l.length*3)
 (hI: ∀b,I b->b < w.heap.size/\b≠gb) (hR: ∀ (i j:Nat) (y:Value) (c:D),i < l.length->j < 3->xs[i*3+j]?=some y-> ∀m,l[i]?=some m->(enc m).cells[j]?=some c->y.oneCell'=true/\R tp I w y c):
 CmpLays P g #[] (Am xs l.length) 3 (Uh l) gb 0 l.length w:=by
 intro m os dk _ x y
 have hsame: ∀b,I b->(sortWorldK (Am xs l.length) 3 w gb 0 m dk os).heap[b]?=w.heap[b]?:=fun b hb=> Hn (w:=Sort.ahead w m) (hI b hb).1 (hI b hb).2
 have hgrow:w.heap.size<=(sortWorldK (Am xs l.length) 3 w gb 0 m dk os).heap.size:=by simp[sortWorldK,grow,putRowK,putRow,mapBlock,Sort.ahead]
 generalize sortWorldK (Am xs l.length) 3 w gb 0 m dk os=W at hsame hgrow ⊢
 have hRw: ∀z:_root_.Fin l.length,R (fun _=> False) (bG (fun b=> b < W.heap.size/\ ¬I b) (fun _=> False) ed W) W (.agg (Am xs l.length z).toArray) (enc l[z]):=fun z=> by
  have he:enc l[z]= .agg [.v (.int .i64 l[z].b), .v (.int .i64 l[z].e),enc l[z].lbs]:=by simp
  have hcell: ∀ (j:Nat) (v:Value) (c:D),j < 3->(Am xs l.length z)[j]?=some v->(enc l[z]).cells[j]?=some c->v.oneCell'=true/\R tp I w v c:=fun j v c hj h1 h2=>
   hR z.val j v c z.isLt hj (by rw[<-JA hx z hj];exact h1) l[z] (by simp) h2
  have h3:=OR hx z
  rw[he]
  refine .agg _ _ (by simp[h3]) (fun v hv=> ?_) fun j v c h1 h2=> ?_
  ·obtain⟨j,hj,rfl⟩:=List.getElem_of_mem hv
   have hj3:j < 3:=by omega
   have hc:j < (enc l[z]).cells.length:=by rw[JJ];exact hj3
   exact(hcell j _ _ hj3 (List.getElem?_eq_getElem hj) (List.getElem?_eq_getElem hc)).1
  ·have hj3:j < 3:=by have:=(List.getElem?_eq_some_iff.1 h2).1;simpa using this
   have hr:=(hcell j v c hj3 h1 (by rw[JJ];exact h2)).2
   rcases j with _ | _ | _ | j
   ·cases h2;rw[hr.inv_v];exact .int .i64 _
   ·cases h2;rw[hr.inv_v];exact .int .i64 _
   ·cases h2
    exact ZB hr fun b hb=> ⟨⟨Nat.lt_of_lt_of_le (hI b hb).1 hgrow,fun h=> h.2 hb,fun h=> h,fun⟨i,r,h,_⟩=> by simp[ed] at h⟩,hsame b hb⟩
   ·omega
 obtain⟨_,hc⟩:=hg (fun b=> b < W.heap.size/\ ¬I b) (fun _=> False) W [.agg (Am xs l.length x).toArray, .agg (Am xs l.length y).toArray] [enc l[x],enc l[y]] ed 0 (fun r H'=> r=enc (Uh l x y)/\H'=ed) (fun b h=> h.1) ⟨fun b h=> h.elim,fun p hp=> by rw[hT] at hp;cases hp⟩
  ⟨fun i j r s b h=> by simp[ed] at h,fun i r b h=> by simp[ed] at h,fun i r h=> by simp[ed] at h⟩ rfl
  (fun j v c h1 h2=> by
    rcases j with _ | _ | j
    ·simp only[List.getElem?_cons_zero,Option.some.injEq] at h1 h2;subst h1;subst h2;exact hRw x
    ·simp only[List.getElem?_cons_succ,List.getElem?_cons_zero,Option.some.injEq] at h1 h2;subst h1;subst h2;exact hRw y
    ·simp at h1)
  (by
    rw[sk,Zz,Cod.dec_enc,Cod.dec_enc]
    exact⟨trivial,fun z hz=> by subst hz;exact⟨rfl,rfl⟩⟩)
 refine hc.mono ?_
 rintro e w' ⟨v,r,H',tp',rfl,⟨rfl,rfl⟩,_,_,_,hs,_,_,hv⟩
 have hv':v= .int .i64 (Uh l x y):=R.inv_v hv
 subst hv'
 refine⟨rfl,w'.drawn -W.drawn,w'.heap.extract W.heap.size w'.heap.size,?_⟩
 have hheap:w'.heap=W.heap++w'.heap.extract W.heap.size w'.heap.size:=by
  apply Array.ext_getElem?
  intro b
  by_cases hb:b < W.heap.size
  ·rw[Array.getElem?_append_left hb]
   exact hs.same b hb (fun⟨i,r,h,_⟩=> by simp[ed] at h) (fun h=> h)
  ·rw[Array.getElem?_append_right (by omega),Array.getElem?_extract]
   have hsz:W.heap.size<=w'.heap.size:=hs.size
   by_cases hb2:b < w'.heap.size
   ·rw[if_pos (by omega)]
    congr 1
    omega
   ·rw[if_neg (by omega),Array.getElem?_eq_none (by omega)]
 have h1:=hs.os
 have h2:=hs.tape
 have h3:=hs.output
 have h4:=hs.drawn
 have h5:W.drawn+ (w'.drawn -W.drawn)=w'.drawn:=by omega
 cases w'
 cases W
 simp only[grow,World.drewN] at*
 subst h1;subst h2;subst h3
 rw[h5,<-hheap]
theorem Wp (l:List Match): (List.finRange l.length).map (fun i=> l[i])=l:=by
 refine List.ext_getElem (by simp) fun i h1 h2=> ?_
 simp
theorem PN {fsort g el:Nat} (L:SlLaysF0.n6 P ρ) (hf:ρ.f 6=fsort) (aE: ∀w,(isAgg (ρ.t 24)).run P w= .ok true w) (zE: ∀w,(Go.sizeOf (ρ.t 24)).run P w= .ok 3 w) (hT:pa= []) (hg:Tri P g s_cmpM.pt) (eg:fg P g) (ef:fg P fsort):
 Tri P fsort (Iy g el).pt:=by
 subst hf
 intro O tp w vs ds H d K hO' htl hsat hlen hargs hA
 obtain⟨id,v,l,ds',x,rfl,hd,hid,⟨hx1,hl5,hnd⟩,hK⟩:=hA
 have hds:ds'= [.clo g []]:=by
  match ds',hd with
  | [],h=> cases h
  | a::r,h=>
    rw[Zy] at h
    match r,h with
    | [],h=>
      simp at h
      subst h
      simp only at hx1
      rw[hx1]
    | b::r,h=> cases h
 subst hds
 match vs,hlen,hargs with
 | [v0,fv],_,hargs=>
 have e0:v0=v:=by
  have:=hargs 0 v0 _ rfl rfl
  cases this;rfl
 have e1:fv= .func (.func g) #[] #[]:=by
  have:=hargs 1 fv _ rfl rfl
  cases this with
  | clo _ xs _ hl _=>
    have:xs= []:=by simpa using hl
    subst this;rfl
 subst e0;subst e1
 refine⟨ef,?_⟩
 obtain⟨xs,⟨hxl,hx⟩,hkn,hcells⟩:=hsat.ok id _ hid
 have hll: (l.map (enc (X:=Match))).length=l.length:=by simp
 have hkw: ∀d∈l.map (enc (X:=Match)),d.cells.length=3:=fun d hd=> (hkn d hd).2
 rcases hx with⟨rfl,h0⟩ | ⟨gb,cap,cur,rfl,_,hgb,hcap,hcapm,hsz,htake⟩
 ·have hl0:l= []:=by simpa using h0
  subst hl0
  refine(AnyF.slices_SortFunc_none L none 0 _ w).mono ?_
  rintro e w' ⟨rfl,rfl⟩
  have hH:ah H id (some (.row (.slice none 0 0) el 3 (([]:List Match).map enc)))=H:=by
   funext i
   simp only[ah]
   by_cases hi:i=id
   ·subst hi;simp[hid]
   ·simp[hi]
  refine⟨_,_,_,tp,rfl,hK [] ⟨List.Pairwise.nil,rfl,fun _=> Iff.rfl⟩,fun b h=> h,fun b h=> .inl h,htl.1, .refl _ _ _,fun b h=> .inl (by rwa [hH] at h),by rw[hH];exact hsat, .tup [] [] rfl (fun k x c h=> by simp at h)⟩
 rw[hll] at hcap hxl htake ⊢
 by_cases hl0:l= []
 ·subst hl0
  refine(AnyF.slices_SortFunc_none L (some ⟨gb,0,none⟩) cap _ w).mono ?_
  rintro e w' ⟨rfl,rfl⟩
  have hH:ah H id (some (.row (.slice (some ⟨gb,0,none⟩) (([]:List Match).map (enc (X:=Match))).length cap) el 3 (([]:List Match).map enc)))=H:=by
   funext i
   simp only[ah]
   by_cases hi:i=id
   ·subst hi;simp[hid]
   ·simp[hi]
  refine⟨_,_,_,tp,rfl,hK [] ⟨List.Pairwise.nil,rfl,fun _=> Iff.rfl⟩,fun b h=> h,fun b h=> .inl h,htl.1, .refl _ _ _,fun b h=> .inl (by rwa [hH] at h),by rw[hH];exact hsat, .tup [] [] rfl (fun k x c h=> by simp at h)⟩
 have hlp:0 < l.length:=List.length_pos_iff.2 hl0
 letI inst:Inhabited (_root_.Fin l.length):=⟨⟨0,hlp⟩⟩
 have hbo: (Res.row (.slice (some ⟨gb,0,none⟩) l.length cap) el 3 (l.map enc)).blk=some gb:=rfl
 have hid':H id=some (.row (.slice (some ⟨gb,0,none⟩) l.length cap) el 3 (l.map enc)):=by rw[hid,hll]
 have hown:dO H gb:=⟨id,_,hid',hbo⟩
 have hcellAt: ∀ (i j:Nat) (y:Value) (c:D),i < l.length->j < 3->xs[i*3+j]?=some y-> ∀m,l[i]?=some m->(enc m).cells[j]?=some c->y.oneCell'=true/\R tp (bG O tp H w) w y c:=fun i j y c hi hj hy m hm hc=> by
  refine hcells (i*3+j) y c hy ?_
  rw[dm hkw hj,List.getElem?_map,hm]
  exact hc
 have hgs:gb < w.heap.size:=(Array.getElem?_eq_some_iff.1 hgb).1
 have hlays:=Q2 (gb:=gb) hg hT (tp:=tp) (I:=bG O tp H w) (w:=w) hxl (fun b hb=> ⟨hb.1,fun e=> hb.2.2.2 (e ▸hown)⟩) hcellAt
 have hevl: ∀z:_root_.Fin l.length,(Am xs l.length z).length=3:=OR hxl
 have hone: ∀ (z:_root_.Fin l.length),∀y∈Am xs l.length z,y.oneCell'=true:=fun z y hy=> by
  obtain⟨j,hj,rfl⟩:=List.getElem_of_mem hy
  have hj3:j < 3:=by have:=hevl z;omega
  have hc:j < (enc l[z]).cells.length:=by rw[JJ];exact hj3
  exact(hcellAt z.val j _ _ z.isLt hj3 (by rw[<-JA hxl z hj3];exact List.getElem?_eq_getElem hj) l[z] (by simp) (List.getElem?_eq_getElem hc)).1
 have hfm: (List.finRange l.length).flatMap (Am xs l.length)=xs:=by
  refine List.ext_getElem? fun t=> ?_
  by_cases ht:t < l.length*3
  ·have hm:t % 3 < 3:=Nat.mod_lt _ (by decide)
   have hdm:t=(t/3) *3+t % 3:=by have:=Nat.div_add_mod t 3;omega
   have hq:t/3 < l.length:=by omega
   have h2:=Jw (f:=Am xs l.length) (n:=3) (l:=List.finRange l.length) (fun x _=> hevl x) (i:=t/3) hm
   rw[<-hdm] at h2
   rw[h2]
   have h3: (List.finRange l.length)[t/3]?=some ⟨t/3,hq⟩:=by
    rw[List.getElem?_eq_getElem (by simpa using hq)];simp
   rw[h3,Option.bind_some,JA hxl _ hm]
   congr 1
   exact hdm.symm
  ·have h4:=Jv (f:=Am xs l.length) (n:=3) (l:=List.finRange l.length) (fun x _=> hevl x)
   rw[List.getElem?_eq_none (by rw[h4];simp;omega),List.getElem?_eq_none (by omega)]
 have hcur: ∀j,j < l.length*3->cur[j]?=xs[j]?:=fun j hj=> by
  rw[<-htake,List.getElem?_take,if_pos hj,Array.getElem?_toList]
 have hsz0: (List.finRange l.length).toArray.size=l.length:=by simp
 have hH:HoldsK (Am xs l.length) 3 w gb 0 (List.finRange l.length).toArray:=by
  intro j hj
  have hj':j < l.length*3:=by simpa using hj
  refine⟨?_,Ju hgb⟩
  have h6:xs[j]?=(flatK (Am xs l.length) 3 (List.finRange l.length).toArray).toList[j]?:=congrArg (fun z:List Value=> z[j]?) ((Fm (Am xs l.length) 3 hevl (List.finRange l.length)).trans hfm).symm
  rw[NX hgb,Nat.zero_add,hcur j hj',h6,Array.getElem?_toList,Array.getElem?_eq_getElem hj,getElem!_pos _ j hj]
  rfl
 have hndi: ∀x y:_root_.Fin l.length,l[x]=l[y]->x=y:=fun x y e=> by
  have hp:=List.pairwise_iff_getElem.1 hnd
  apply Fin.ext
  rcases Nat.lt_trichotomy x.val y.val with h | h | h
  ·exact absurd e (hp x.val y.val x.isLt y.isLt h)
  ·exact h
  ·exact absurd e.symm (hp y.val x.val y.isLt x.isLt h)
 have hcall:=AnyQ.slices_SortFunc_total L 3 aE zE (Am xs l.length) hevl hone (Uh l) (Vw l) g #[] gb 0 cap (List.finRange l.length).toArray w eg (by rw[hsz0];exact hlays) hH hgs (by rw[hsz0];omega) (fun x y h1 h2=> by
  rw[Bool.eq_false_iff,ne_eq,nl] at h1 h2
  rcases zo h1 with e | e
  ·exact hndi _ _ e
  ·exact absurd e h2)
 rw[hsz0] at hcall
 refine hcall.mono ?_
 rintro e w' ⟨rfl,n,os,hw'⟩
 simp only[List.toList_toArray] at hw'
 generalize hl': ((List.finRange l.length).mergeSort fun x y=> !(ltOf (Uh l)) y x)=l' at hw'
 have hlen':l'.length=l.length:=by rw[<-hl'];simp
 have hwo: ∀b,b < w.heap.size->b≠gb->w'.heap[b]?=w.heap[b]?:=fun b hb hne=> by
  rw[hw'];exact Hn (w:=Sort.ahead w n) hb hne
 have hthis:w'.heap[gb]?=some (.cells (putCells _root_.id 0 (flatK (Am xs l.length) 3 l'.toArray) cur) el (0,0)):=by
  rw[hw'];exact Sh (w:=Sort.ahead w n) hgb
 have hws:w.heap.size<=w'.heap.size:=by
  rw[hw'];simp[sortWorldK,grow,putRowK,putRow,mapBlock,Sort.ahead]
 have hos:w'.os=w.os/\w'.tape=w.tape/\w'.output=w.output/\w.drawn<=w'.drawn:=by
  rw[hw'];exact⟨rfl,rfl,rfl,Nat.le_add_right _ _⟩
 clear hw' hcall
 have htp: ∀b,tp b->b≠gb:=fun b hb e=> (hsat.out id _ gb hid' hbo).2 (e ▸hb)
 have htapes: ∀b,tp b->TapeStep w w' b:=fun b hb=> .same (hwo b (htl.1 b hb) (htp b hb))
 have hperm:l'.Perm (List.finRange l.length):=by rw[<-hl'];exact List.mergeSort_perm _ _
 have hsort:qM (l'.map fun i=> l[i]):=by
  have h1:l'.Pairwise fun x y=> (!(ltOf (Uh l)) y x)=true:=by
   rw[<-hl']
   refine List.pairwise_mergeSort (fun a b c h1 h2=> ?_) (fun a b=> ?_) _
   ·simp only[Bool.not_eq_true',Bool.eq_false_iff,ne_eq,nl] at h1 h2 ⊢
    intro h3
    rcases zo h1 with e | e
    ·exact h2 (e ▸h3)
    ·exact h2 (oV h3 e)
   ·by_cases h:KR l[b] l[a]
    ·have: ¬KR l[a] l[b]:=fun h2=> vq _ (oV h h2)
     have h3:ltOf (Uh l) a b=false:=by rw[Bool.eq_false_iff,ne_eq,nl];exact this
     rw[h3];simp
    ·have h3:ltOf (Uh l) b a=false:=by rw[Bool.eq_false_iff,ne_eq,nl];exact h
     rw[h3];simp
  have h2:l'.Nodup:=hperm.nodup_iff.2 (List.nodup_finRange _)
  unfold qM
  rw[List.pairwise_map]
  refine(h1.and h2).imp fun {x y} h=> ?_
  have h3:=h.1
  simp only[Bool.not_eq_true',Bool.eq_false_iff,ne_eq,nl] at h3
  rcases zo h3 with e | e
  ·exact absurd (hndi _ _ e).symm h.2
  ·exact e
 have hmem: ∀m,m∈ (l'.map fun i=> l[i]) ↔m∈l:=fun m=> by
  have:=(hperm.map fun i=> l[i]).mem_iff (a:=m)
  rwa [Wp] at this
 have hK':=hK (l'.map fun i=> l[i]) ⟨hsort,by simp[hlen'],hmem⟩
 rw[hll] at hK'
 generalize hH2:ah H id (some (.row (.slice (some ⟨gb,0,none⟩) l.length cap) el 3 ((l'.map fun i=> l[i]).map enc)))=H2 at hK'
 have hown2: ∀b,dO H2 b->dO H b:=fun b ⟨i,r,h1,h2⟩=> by
  rw[<-hH2] at h1
  simp only[ah] at h1
  split at h1
  ·cases h1;cases h2;exact hown
  ·exact⟨i,r,h1,h2⟩
 have hmove: ∀y c,R tp (bG O tp H w) w y c->R tp (bG O tp H2 w') w' y c:=fun y c hr=> hr.mono (fun _ h=> h) (fun b hb=> ⟨⟨Nat.lt_of_lt_of_le hb.1 hws,hb.2.1,hb.2.2.1,fun h=> hb.2.2.2 (hown2 b h)⟩,hwo b hb.1 (fun e=> hb.2.2.2 (e ▸hown))⟩) htapes
 have hget: ∀i r,H2 i=some r->(i=id/\r= .row (.slice (some ⟨gb,0,none⟩) l.length cap) el 3 ((l'.map fun i=> l[i]).map enc))\/(i≠id/\H i=some r):=fun i r h=> by
  rw[<-hH2] at h
  simp only[ah] at h
  split at h
  ·rename_i e;cases h;exact .inl ⟨e,rfl⟩
  ·rename_i e;exact .inr ⟨e,h⟩
 refine⟨_,_,H2,tp,rfl,hK',fun b h=> h,fun b h=> .inl h,fun b hb=> Nat.lt_of_lt_of_le (htl.1 b hb) hws,⟨hos.1,hos.2.1,hos.2.2.1,hws,fun b hb ho ht=> hwo b hb (fun e=> ho (e ▸hown)),htapes,hos.2.2.2⟩,fun b h=> .inl (hown2 b h),⟨?_,?_,?_⟩, .tup [] [] rfl (fun k x c h=> by simp at h)⟩
 ·intro i j r s b h1 h2 h3 h4
  rcases hget i r h1 with⟨rfl,rfl⟩ | ⟨n1,k1⟩
  ·rcases hget j s h2 with⟨rfl,rfl⟩ | ⟨n2,k2⟩
   ·rfl
   ·exact hsat.dis _ j _ s b hid' k2 h3 h4
  ·rcases hget j s h2 with⟨rfl,rfl⟩ | ⟨n2,k2⟩
   ·exact hsat.dis i _ r _ b k1 hid' h3 h4
   ·exact hsat.dis i j r s b k1 k2 h3 h4
 ·intro i r b h1 h2
  rcases hget i r h1 with⟨rfl,rfl⟩ | ⟨n1,k1⟩
  ·exact hsat.out _ _ b hid' h2
  ·exact hsat.out i r b k1 h2
 ·intro i r h1
  rcases hget i r h1 with⟨rfl,rfl⟩ | ⟨n1,k1⟩
  ·have hfml':=Jv (f:=Am xs l.length) (n:=3) (l:=l') (fun x _=> hevl x)
   have hps: (putCells _root_.id 0 (flatK (Am xs l.length) 3 l'.toArray) cur).size=cur.size:=by simp[putCells]
   refine⟨l'.flatMap (Am xs l.length),⟨by simp;rw[<-List.length_flatMap];exact hfml', .inr ⟨gb,cap,_,by simp[hlen'],Nat.zero_le _,hthis,by simp;omega,hcapm,by rw[hps,hsz],?_⟩⟩,fun d hd=> ?_,fun j y c h1 h2=> ?_⟩
   ·simp only[List.length_map,hlen']
    apply List.ext_getElem?
    intro j
    rw[List.getElem?_take]
    by_cases hj:j < l.length*3
    ·have hjc:j < cur.size:=by
      have:l.length*3<=cap*3:=Nat.mul_le_mul_right 3 hcap
      omega
     have hjf:j < (flatK (Am xs l.length) 3 l'.toArray).size:=by simp[hlen'];exact hj
     rw[if_pos hj,Array.getElem?_toList,<-Fm (Am xs l.length) 3 hevl l',Array.getElem?_toList]
     simp only[putCells,Array.getElem?_mapIdx,Array.getElem?_eq_getElem hjc,Option.map_some,Nat.zero_le,Nat.zero_add,hjf,and_self,if_true,Nat.sub_zero,id_eq]
     rw[Array.getElem?_eq_getElem hjf,getElem!_pos _ j hjf]
    ·rw[if_neg hj,List.getElem?_eq_none (by rw[hfml',hlen'];omega)]
   ·obtain⟨z,_,rfl⟩:=List.mem_map.1 hd
    exact⟨Cod.kn z,Cod.wid z⟩
   ·have ht:j < l'.length*3:=by rw[<-hfml'];exact(List.getElem?_eq_some_iff.1 h1).1
    have hm:j % 3 < 3:=Nat.mod_lt _ (by decide)
    have hdm:j=(j/3) *3+j % 3:=by have:=Nat.div_add_mod j 3;omega
    have hq:j/3 < l'.length:=by omega
    have h5:=Jw (f:=Am xs l.length) (n:=3) (l:=l') (fun x _=> hevl x) (i:=j/3) hm
    rw[<-hdm,h1,List.getElem?_eq_getElem hq,Option.bind_some,JA hxl _ hm] at h5
    rw[hdm,dm (fun d hd=> by obtain⟨z,_,rfl⟩:=List.mem_map.1 hd;exact Cod.wid z) hm,List.getElem?_map,List.getElem?_map,List.getElem?_eq_getElem hq] at h2
    obtain⟨a1,a2⟩:=hcellAt (l'[j/3]).val (j % 3) y c (l'[j/3]).isLt hm h5.symm l[l'[j/3]] (by simp) h2
    exact⟨a1,hmove _ _ a2⟩
  ·have hne: ∀b,r.blk=some b->b≠gb:=fun b hb e=> n1 (hsat.dis i id r _ gb k1 hid' (e ▸hb) hbo)
   exact(hsat.ok i r k1).conv hmove (fun b hb=> hwo b ((hsat.ok i r k1).lt hb) (hne b hb))
end
end Go.Gv

namespace Go.Gv
open Go.Proofs
def nX:CC:=oX [oB 1 (.box aq true (oT 0)),oB 2 (.mv (.const on))] [1] [] (.seq (oX [oD 3 13 1,oZ 4 jT [oT 3],oB 5 (.not (oT 4))] [1,5] [] (.ite (oT 5) (oX [oB 2 (.mv (.const on))] [2] [7] (.ret)) (.skip))) (.keep [1] [] (oX [oD 6 13 1,oZ 7 aU [oT 6,.const on],oA 2 7] [2] [7] (.ret))))
def nO:List ar:= [.tmp 2]
def CX:List Nat:= [1]
theorem CN:ay Tryz.prog iP CX nX nO 8:=ak mixed (by kernel_rfl)
def gZ:CC:=oX [oB 2 (.box aq true (oT 0)),oB 4 (.mv (.const on))] [1,2] [1,21,31] (qQ 1 (oX [oE 7 8 2,oC 8 1 7,oB 9 (.eql true false [.str] (oT 8) (oS ⟨#[]⟩)),oA 10 9,oH 11 10 (.mv (oT 1)),oH 12 10 (.faddr 8 (oT 2)),oH 13 10 (.load false 1 (oT 12)),oH 14 10 (.call aw [oT 11,oT 13]),oH 15 10 (.not (oT 14)),
 oB 16 (.pick (oT 10) (oT 15) (.const ob))] [1,2,16] [1,21,31] (.ite (oT 16) (.reg [oA 17 1,oE 18 8 2,oC 19 1 18,oB 20 (.bslice aL 1 [oT 19]),oB 21 (.append none aL 1 16 (oT 17) (oT 20)),oA 1 21]) (.skip))) (.keep [1,2] [1,21,31] (.seq (oX [oE 22 12 2,oC 23 1 22,oB 24 (.len (oT 23)),oB 25 (.mv (oN 0))] [1,23,24,25] [1,21,31] (aP 0 25 24 26 1 (oX [
 oB 27 (.iaddr 13 (oT 23) (oT 25)),oD 28 13 27,oB 6 (.alloc aq [oi,oi,oe,oe,oe,oe,ob,on,oe,oe,oi,oi,on]),oF 13 6 28] [1,6,23,24,25] [1,6,21,31] (.reg [oD 29 13 6,oA 30 1,oZ 31 aU [oT 29,oT 30],oA 1 31])) 32)) (.keep [1] [1,21,31] (oX [oA 33 1,oA 4 33] [4] [1,21,31] (.ret))))))
def gR:List ar:= [.tmp 4]
def CV:List Nat:= [2]
theorem tn:ay Tryz.prog aU CV gZ gR 34:=ak mixed (by kernel_rfl)
def gY:CC:=oX [oB 2 (.box aq true (oT 0)),oB 4 (.mv (.const on))] [1,2] [1,24] (.seq (oX [oE 7 0 2,oC 8 1 7,oB 9 (.eql false false [.int] (oT 8) (oN 1))] [1,2,9] [1,24] (.ite (oT 9) (oX [oA 10 1,oD 11 13 2,oZ 12 fP [oT 11],oB 13 (.bslice aq 13 [oT 12]),oB 14 (.append none aq 13 184 (oT 10) (oT 13)),oA 4 14] [4] [1,14,24] (.ret))
 (.skip))) (.keep [1,2] [1,24] (.seq (oX [oE 15 12 2,oC 16 1 15,oB 17 (.len (oT 16)),oB 18 (.mv (oN 0))] [1,16,17,18] [1,24] (aP 0 18 17 19 1 (oX [oB 20 (.iaddr 13 (oT 16) (oT 18)),oD 21 13 20,oB 6 (.alloc aq [oi,oi,oe,oe,oe,oe,ob,on,oe,oe,oi,oi,on]),oF 13 6 21] [1,6,16,17,18] [1,6,24] (.reg [oD 22 13 6,oA 23 1,oZ 24 bW [oT 22,oT 23],oA 1 24])) 25))
 (.keep [1] [1,24] (oX [oA 26 1,oA 4 26] [4] [1,14,24] (.ret))))))
def gQ:List ar:= [.tmp 4]
def CU:List Nat:= [2]
theorem tm:ay Tryz.prog bW CU gY gQ 27:=ak mixed (by kernel_rfl)
def pX:CC:=oX [oB 1 (.box aq true (oT 0)),oB 2 (.alloc aq [oi,oi,oe,oe,oe,oe,ob,on,oe,oe,oi,oi,on])] [1,2] [2] (.seq (.regd [oE 3 0 1,oC 4 1 3,oE 5 1 1,oD 6 7 5,oZ 7 de [oT 6],oE 8 8 1,oC 9 1 8] [oB 10 (.build [oi,oi,oe,oe,oe,oe,ob,on,oe,oe,oi,oi,on] [(0,1,oT 4),(1,7,oT 7),(8,1,oT 9)]),.op none none (.store (some 2) 13 (oT 2) (oT 10))])
 (.keep [2] [2] (.ret)))
def pu:List ar:= [.cell 2 true 13]
def E7:List Nat:= [1,2002002]
theorem ED:ay Tryz.prog fP E7 pX pu 11:=ak mixed (by kernel_rfl)
def nW:CC:=oX [oB 1 (.box cQ true (oT 0)),oB 2 (.alloc cQ [oi,oe,oe,oe,oe,ob,on])] [1,2] [2,20] (oX [oD 6 7 1,oB 3 (.alloc cQ [oi,oe,oe,oe,oe,ob,on]),oF 7 3 6] [1,2,3] [2,3,20] (oX [oE 7 6 3,.op none none (.store none 1 (oT 7) (.const on))] [1,2,3] [2,3,20] (.seq (oX [oE 8 6 1,oC 9 1 8,oB 10 (.len (oT 9)),
 oB 11 (.mv (oN 0))] [2,3,9,10,11] [2,3,20] (aP 0 11 10 12 1 (oX [oB 13 (.iaddr 7 (oT 9) (oT 11)),oD 14 7 13,oB 5 (.alloc cQ [oi,oe,oe,oe,oe,ob,on]),oF 7 5 14] [2,3,5,9,10,11] [2,3,5,20] (.regd [oE 15 6 3,oC 16 1 15,oD 17 7 5,oZ 18 de [oT 17],oB 19 (.bslice cQ 7 [oT 18])] [oB 20 (.append (some 20) cQ 7 104 (oT 16) (oT 19)),oE 21 6 3,
 .op none none (.store (some 3) 1 (oT 21) (oT 20))])) 22)) (.keep [2,3] [2,3,20] (oX [oD 23 7 3,oF 7 2 23] [2] [2,20] (.ret))))))
def nN:List ar:= [.cell 2 true 7]
def CW:List Nat:= [1,2021003,1020020]
theorem CM:ay Tryz.prog de CW nW nN 24:=ak mixed (by kernel_rfl)
def iu:CC:=oX [oB 1 (.box o6 true (oT 0)),oB 2 (.mv (oN 0))] [1] [] (.seq (.block 0 (oX [oE 4 0 1,oD 5 13 4,oZ 6 eF [oT 5],oB 7 (.not (oT 6)),oA 8 7,oI 9 8 (.faddr 25 (oT 1)),oI 10 8 (.load false 1 (oT 9)),oI 11 8 (.cmp .lss (oT 10) (oN 0)),oB 12 (.pick (oT 8) (.const (.bool true)) (oT 11)),oA 13 12,oI 14 13 (.faddr 25 (oT 1)),
 oI 15 13 (.load false 1 (oT 14)),oI 16 13 (.cmp .gtr (oT 15) (oN 3)),oB 17 (.pick (oT 13) (.const (.bool true)) (oT 16)),oA 3 17] [1,3] [] (.ite (oT 3) (oX [oB 2 (.mv (oN 1))] [2] [] (.ret)) (oX [oE 19 0 1,oD 20 13 19,oZ 21 bw [oT 20,.func c8],oB 22 (.not (oT 21)),oA 23 22,oI 24 23 (.faddr 24 (oT 1)),oI 25 23 (.load false 1 (oT 24)),
 oI 26 23 (.call aS [oT 25,.func s4]),oB 27 (.pick (oT 23) (.const (.bool true)) (oT 26)),oA 18 27] [1,18] [] (.ite (oT 18) (oX [oB 2 (.mv (oN 4))] [2] [] (.ret)) (oX [oE 29 0 1,oD 30 13 29,oZ 31 bw [oT 30,.func cO],oB 32 (.not (oT 31)),oA 28 32] [1,28] [] (.ite (oT 28) (oX [oB 2 (.mv (oN 8))] [2] [] (.ret)) (oX [
 oE 34 0 1,oD 35 13 34,oZ 36 ew [oT 35],oB 37 (.cmp .gtr (oT 36) (oN 256)),oA 33 37] [1,33] [] (.ite (oT 33) (oX [oB 2 (.mv (oN 2))] [2] [] (.ret)) (oX [oE 39 0 1,oD 40 13 39,oZ 41 aU [oT 40,.const on],oB 42 (.len (oT 41)),oB 43 (.cmp .gtr (oT 42) (oN 3)),oA 38 43] [38] [41] (.ite (oT 38) (oX [oB 2 (.mv (oN 16))] [2] [] (.ret)) (.skip))))))))))))
 (.keep [] [] (oX [oB 2 (.mv (oN 0))] [2] [] (.ret))))
def il:List ar:= [.tmp 2]
def tO:List Nat:= [1]
theorem tG:ay Tryz.prog dS tO iu il 44:=ak mixed (by kernel_rfl)
def mg:CC:=oX [oB 2 (.box o6 true (oT 0)),oB 4 (.mv (oN 0))] [1,2] [] (.seq (oX [oD 10 26 2,oZ 11 dS [oT 10],oA 5 11] [1,2,5] [] (oX [oA 12 5,oB 13 (.eql true false [.int] (oT 12) (oN 0))] [1,2,5,13] [] (.ite (oT 13) (oX [oA 14 5,oA 4 14] [4] [17] (.ret)) (.skip)))) (.keep [1,2] [] (oX [oE 15 0 2,oD 16 13 15,
 oZ 17 aU [oT 16,.const on],.frz 17 1,oA 6 17] [1,2,6] [17] (.seq (oX [oE 18 0 2,oD 19 13 18,oZ 20 bW [oT 19,.const on],.frz 20 13,oB 21 (.len (oT 20)),oB 22 (.mv (oN 0))] [1,2,6,20,21,22] [17,20] (aP 0 22 21 23 1 (oX [oB 24 (.iaddr 13 (oT 20) (oT 22)),oD 25 13 24,oB 8 (.alloc aq [oi,oi,oe,oe,oe,oe,ob,on,oe,oe,oi,oi,on]),
 oF 13 8 25] [1,2,6,8,20,21,22] [8,17,20] (oX [oE 26 1 8,oD 27 7 26,oA 28 1,oA 29 6,oZ 30 dT [oT 27,oT 28,oT 29],oA 9 30] [1,2,6,9,20,21,22] [17,20] (oX [oA 31 9,oB 32 (.eql true false [.int] (oT 31) (oN 0))] [1,2,6,9,20,21,22,32] [17,20] (.ite (oT 32) (oX [oA 33 9,oA 4 33] [4] [17] (.ret)) (.skip))))) 34)) (.keep [1,2,6] [17] (.seq (oX [oE 35 24 2,oC 36 1 35,
 oZ 37 aS [oT 36,.func Jy],oA 38 37,oI 39 38 (.faddr 13 (oT 2)),oI 40 38 (.load true 11 (oT 39)),oI 41 38 (.call jU [oT 40]),oI 42 38 (.not (oT 41)),oB 43 (.pick (oT 38) (.const (.bool true)) (oT 42))] [1,2,6,43] [17] (.ite (oT 43) (oX [oB 4 (.mv (oN 1))] [4] [17] (.ret)) (.skip))) (.keep [1,2,6] [17] (oX [oE 44 13 2,oD 45 11 44,oA 46 1,
 oA 47 6,oZ 48 eK [oT 45,oT 46,oT 47],oA 4 48] [4] [17] (.ret)))))))))
def lC:List ar:= [.tmp 4]
def zF:List Nat:= [2]
theorem zd:ay Tryz.prog ga zF mg lC 49:=ak mixed (by kernel_rfl)
def mf:CC:=oX [oB 3 (.box jK true (oT 0)),oB 6 (.mv (oN 0))] [1,2,3] [] (.seq (oX [oD 11 11 3,oA 12 1,oA 13 2,oZ 14 fB [oT 11,oT 12,oT 13],oA 7 14] [1,2,3,7] [] (oX [oA 15 7,oB 16 (.eql true false [.int] (oT 15) (oN 0))] [1,2,3,7,16] [] (.ite (oT 16) (oX [oA 17 7,oA 6 17] [6] [] (.ret)) (.skip)))) (.keep [1,2,3] [] (.seq (oX [oE 18 10 3,
 oC 19 1 18,oB 20 (.len (oT 19)),oB 21 (.mv (oN 0))] [1,2,19,20,21] [] (aP 0 21 20 22 1 (oX [oB 23 (.iaddr 11 (oT 19) (oT 21)),oD 24 11 23,oB 9 (.alloc jK [oi,oe,oe,oe,oe,oe,ob,oi,oi,on,on]),oF 11 9 24] [1,2,9,19,20,21] [9] (oX [oD 25 11 9,oA 26 1,oA 27 2,oZ 28 eK [oT 25,oT 26,oT 27],oA 10 28] [1,2,10,19,20,21] [] (oX [oA 29 10,
 oB 30 (.eql true false [.int] (oT 29) (oN 0))] [1,2,10,19,20,21,30] [] (.ite (oT 30) (oX [oA 31 10,oA 6 31] [6] [] (.ret)) (.skip))))) 32)) (.keep [] [] (oX [oB 6 (.mv (oN 0))] [6] [] (.ret))))))
def lB:List ar:= [.tmp 6]
def zD:List Nat:= [3]
theorem zc:ay Tryz.prog eK zD mf lB 33:=ak mixed (by kernel_rfl)
def kP:CC:=oX [oB 3 (.box jK true (oT 0)),oB 6 (.mv (oN 0))] [1,2,3] [] (.seq (oX [oE 9 0 3,oC 10 1 9,oB 11 (.cmp .geq (oT 10) (oN 11)),oA 12 11,oI 13 12 (.faddr 0 (oT 3)),oI 14 12 (.load false 1 (oT 13)),oI 15 12 (.eql false false [.int] (oT 14) (oN 0)),oB 16 (.pick (oT 12) (.const (.bool true)) (oT 15))] [1,2,3,16] [] (.ite (oT 16) (oX [
 oB 6 (.mv (oN 0))] [6] [] (.ret)) (.skip))) (.keep [1,2,3] [] (oX [oE 17 0 3,oC 18 1 17,oB 19 (.eql true false [.int] (oT 18) (oN 1)),oA 20 19,oH 21 20 (.faddr 0 (oT 3)),oH 22 20 (.load false 1 (oT 21)),oH 23 20 (.eql true false [.int] (oT 22) (oN 2)),oB 24 (.pick (oT 20) (oT 23) (.const ob)),oA 25 24,oH 26 25 (.faddr 0 (oT 3)),oH 27 25 (.load false 1 (oT 26)),
 oH 28 25 (.eql true false [.int] (oT 27) (oN 10)),oB 29 (.pick (oT 25) (oT 28) (.const ob)),oA 7 29] [1,2,3,7] [] (.seq (oX [oA 30 2,oE 31 1 3,oC 32 1 31,oZ 33 aw [oT 30,oT 32],oB 34 (.not (oT 33)),oA 35 34,oI 36 35 (.mv (oT 7)),oI 37 35 (.mv (oT 36)),oH 38 37 (.mv (oT 2)),oH 39 37 (.faddr 2 (oT 3)),oH 40 37 (.load false 1 (oT 39)),
 oH 41 37 (.call aw [oT 38,oT 40]),oH 42 37 (.not (oT 41)),oI 43 35 (.pick (oT 37) (oT 42) (.const ob)),oB 44 (.pick (oT 35) (.const (.bool true)) (oT 43))] [1,3,44] [] (.ite (oT 44) (oX [oB 6 (.mv (oN 16))] [6] [] (.ret)) (.skip))) (.keep [1,3] [] (oX [oB 8 (.mv (.const (.bool true)))] [1,3,8] [] (.seq (oX [oE 45 0 3,oC 46 1 45] [1,3,8,46] [] (.block 0 (oX [
 oB 48 (.eql false false [.int] (oT 46) (oN 2)),oA 47 48] [1,3,8,46,47] [] (.ite (oT 47) (.reg [oA 49 1,oE 50 3 3,oC 51 1 50,oZ 52 ap [oT 49,oT 51],oB 53 (.cmp .geq (oT 52) (oN 0)),oA 8 53]) (oX [oB 55 (.eql false false [.int] (oT 46) (oN 3)),oA 54 55] [1,3,8,46,54] [] (.ite (oT 54) (.reg [oA 56 1,oE 57 3 3,oC 58 1 57,oZ 59 ap [oT 56,oT 58],
 oB 60 (.cmp .geq (oT 59) (oN 0)),oA 61 60,oH 62 61 (.mv (oT 1)),oH 63 61 (.faddr 4 (oT 3)),oH 64 61 (.load false 1 (oT 63)),oH 65 61 (.call ap [oT 62,oT 64]),oH 66 61 (.cmp .geq (oT 65) (oN 0)),oB 67 (.pick (oT 61) (oT 66) (.const ob)),oA 8 67]) (.seq (oX [oB 69 (.eql false false [.int] (oT 46) (oN 5)),oA 68 69] [3,8,46,68] [] (.ite (oT 68) (.skip) (.reg [
 oB 70 (.eql false false [.int] (oT 46) (oN 9)),oA 68 70]))) (.keep [3,8,46,68] [] (.ite (oT 68) (.reg [oE 71 3 3,oC 72 1 71,oZ 73 aW [oT 72],oA 8 73]) (oX [oB 75 (.eql false false [.int] (oT 46) (oN 8)),oA 74 75] [3,8,74] [] (.ite (oT 74) (.reg [oE 76 9 3,oC 77 1 76,oZ 78 nQ [oT 77,.func vX],oB 79 (.not (oT 78)),oA 8 79])
 (.skip)))))))))))) (.keep [3,8] [] (.seq (oX [oA 80 8,oB 81 (.not (oT 80))] [3,81] [] (.ite (oT 81) (oX [oB 6 (.mv (oN 4))] [6] [] (.ret)) (.skip))) (.keep [3] [] (.seq (oX [oE 82 0 3,oC 83 1 82,oB 84 (.eql false false [.int] (oT 83) (oN 2))] [3,84] [] (.ite (oT 84) (oX [oE 85 5 3,oC 86 1 85,oZ 87 ia [oT 86],oA 6 87] [6] [] (.ret)) (.skip))) (.keep [3] [] (.seq (oX [
 oE 88 0 3,oC 89 1 88,oB 90 (.eql false false [.int] (oT 89) (oN 4)),oA 91 90,oH 92 91 (.faddr 7 (oT 3)),oH 93 91 (.load false 1 (oT 92)),oH 94 91 (.faddr 8 (oT 3)),oH 95 91 (.load false 1 (oT 94)),oH 96 91 (.cmp .gtr (oT 93) (oT 95)),oB 97 (.pick (oT 91) (oT 96) (.const ob)),oA 98 97,oI 99 98 (.faddr 0 (oT 3)),oI 100 98 (.load false 1 (oT 99)),
 oI 101 98 (.eql false false [.int] (oT 100) (oN 10)),oI 102 98 (.mv (oT 101)),oH 103 102 (.faddr 7 (oT 3)),oH 104 102 (.load false 1 (oT 103)),oH 105 102 (.faddr 8 (oT 3)),oH 106 102 (.load false 1 (oT 105)),oH 107 102 (.cmp .gtr (oT 104) (oT 106)),oH 108 102 (.mv (oT 107)),oI 109 108 (.faddr 7 (oT 3)),oI 110 108 (.load false 1 (oT 109)),oI 111 108 (.cmp .lss (oT 110) (oN 0)),
 oH 112 102 (.pick (oT 108) (.const (.bool true)) (oT 111)),oI 113 98 (.pick (oT 102) (oT 112) (.const ob)),oB 114 (.pick (oT 98) (.const (.bool true)) (oT 113))] [114] [] (.ite (oT 114) (oX [oB 6 (.mv (oN 8))] [6] [] (.ret)) (.skip))) (.keep [] [] (oX [oB 6 (.mv (oN 0))] [6] [] (.ret))))))))))))))))
def kC:List ar:= [.tmp 6]
def xw:List Nat:= [3]
theorem wY:ay Tryz.prog fB xw kP kC 115:=ak mixed (by kernel_rfl)
def rh:CC:=oX [oB 1 (.box jK true (oT 0)),oB 2 (.mv (.const ob))] [1] [] (oX [oE 3 0 1,oC 4 1 3,oB 5 (.eql false false [.int] (oT 4) (oN 0)),oA 6 5,oH 7 6 (.faddr 1 (oT 1)),oH 8 6 (.load false 1 (oT 7)),oH 9 6 (.eql false false [.str] (oT 8) (oS ⟨#[]⟩)),oB 10 (.pick (oT 6) (oT 9) (.const ob)),oA 11 10,oH 12 11 (.faddr 2 (oT 1)),
 oH 13 11 (.load false 1 (oT 12)),oH 14 11 (.eql false false [.str] (oT 13) (oS ⟨#[]⟩)),oB 15 (.pick (oT 11) (oT 14) (.const ob)),oA 16 15,oH 17 16 (.faddr 3 (oT 1)),oH 18 16 (.load false 1 (oT 17)),oH 19 16 (.eql false false [.str] (oT 18) (oS ⟨#[]⟩)),oB 20 (.pick (oT 16) (oT 19) (.const ob)),oA 21 20,oH 22 21 (.faddr 4 (oT 1)),oH 23 21 (.load false 1 (oT 22)),
 oH 24 21 (.eql false false [.str] (oT 23) (oS ⟨#[]⟩)),oB 25 (.pick (oT 21) (oT 24) (.const ob)),oA 26 25,oH 27 26 (.faddr 5 (oT 1)),oH 28 26 (.load false 1 (oT 27)),oH 29 26 (.eql false false [.str] (oT 28) (oS ⟨#[]⟩)),oB 30 (.pick (oT 26) (oT 29) (.const ob)),oA 31 30,oH 32 31 (.faddr 6 (oT 1)),oH 33 31 (.load false 1 (oT 32)),oH 34 31 (.not (oT 33)),
 oB 35 (.pick (oT 31) (oT 34) (.const ob)),oA 36 35,oH 37 36 (.faddr 7 (oT 1)),oH 38 36 (.load false 1 (oT 37)),oH 39 36 (.eql false false [.int] (oT 38) (oN 0)),oB 40 (.pick (oT 36) (oT 39) (.const ob)),oA 41 40,oH 42 41 (.faddr 8 (oT 1)),oH 43 41 (.load false 1 (oT 42)),oH 44 41 (.eql false false [.int] (oT 43) (oN 0)),oB 45 (.pick (oT 41) (oT 44) (.const ob)),oA 46 45,
 oH 47 46 (.faddr 9 (oT 1)),oH 48 46 (.load false 1 (oT 47)),oH 49 46 (.len (oT 48)),oH 50 46 (.eql false false [.int] (oT 49) (oN 0)),oB 51 (.pick (oT 46) (oT 50) (.const ob)),oA 52 51,oH 53 52 (.faddr 10 (oT 1)),oH 54 52 (.load false 1 (oT 53)),oH 55 52 (.len (oT 54)),oH 56 52 (.eql false false [.int] (oT 55) (oN 0)),oB 57 (.pick (oT 52) (oT 56) (.const ob)),oA 2 57] [2] [] (.ret))
def qT:List ar:= [.tmp 2]
def GM:List Nat:= [1]
theorem GD:ay Tryz.prog lS GM rh qT 58:=ak mixed (by kernel_rfl)
def pY:CC:=oX [oB 1 (.box jK true (oT 0)),oB 2 (.mv (.const ob))] [1] [] (.seq (oX [oD 5 11 1,oZ 6 lS [oT 5]] [1,6] [] (.ite (oT 6) (oX [oB 2 (.mv (.const (.bool true)))] [2] [] (.ret)) (.skip))) (.keep [1] [] (oX [oD 8 11 1,oZ 9 C0 [oT 8,oN 0,oN 1],oA 7 9,oB 10 (.ext (oT 7) 0),oB 11 (.ext (oT 7) 1),oA 3 10,oA 4 11] [1,3,4] [] (oX [
 oA 12 3,oB 13 (.cmp .leq (oT 12) (oN 60)),oA 14 13,oH 15 14 (.mv (oT 4)),oH 16 14 (.cmp .leq (oT 15) (oN 20)),oB 17 (.pick (oT 14) (oT 16) (.const ob)),oA 18 17,oH 19 18 (.load true 11 (oT 1)),oH 20 18 (.call GT [oT 19,.func Jz]),oB 21 (.pick (oT 18) (oT 20) (.const ob)),oA 2 21] [2] [] (.ret)))))
def pv:List ar:= [.tmp 2]
def E8:List Nat:= [1]
theorem EE:ay Tryz.prog jU E8 pY pv 22:=ak mixed (by kernel_rfl)
def dW:CC:=oX [oB 4 (.mv (.const ob))] [0,1] [] (oX [oA 5 0,oA 6 1,oZ 7 cA [oT 5,oT 6],oB 8 (.cmp .geq (oT 7) (oN 0)),oA 4 8] [4] [] (.ret))
def dM:List ar:= [.tmp 4]
def nq:List Nat:= []
theorem nk:ay Tryz.prog aS nq dW dM 9:=ak mixed (by kernel_rfl)
def eX:CC:=oX [oB 4 (.mv (oN 0))] [0,1] [] (.seq (oX [oA 6 0,oB 7 (.len (oT 6)),oB 8 (.mv (oN 0))] [0,1,7,8] [] (aP 0 8 7 9 1 (oX [oA 10 8,oA 5 10] [0,1,5,7,8] [] (oX [oA 11 1,oA 12 0,oA 13 5,oB 14 (.iaddr 3 (oT 12) (oT 13)),oD 15 3 14,oB 16 (.callv (oT 11) [oT 15])] [0,1,5,7,8,16] [] (.ite (oT 16) (oX [oA 17 5,oA 4 17] [4] [] (.ret)) (.skip)))) 18))
 (.keep [] [] (oX [oB 4 (.mv (oN (-1)))] [4] [] (.ret))))
def eP:List ar:= [.tmp 4]
def pG:List Nat:= []
theorem pD:ay Tryz.prog cA pG eX eP 19:=ak mixed (by kernel_rfl)
end Go.Gv

namespace Go.Gv
open Cod (enc dec)
variable {S S0:Nat->Spc}
end Go.Gv

namespace Go.Gv
open Cod (enc dec)
variable {S S0:Nat->Spc}
theorem Ox {a b A B:Int} (h0:0<=a) (h1:a<=A) (h2:0<=b) (h3:b<=B):0<=a*b/\a*b<=A*B:=⟨Int.mul_nonneg h0 h2,Int.mul_le_mul h1 h3 h2 (by omega)⟩
def PPat (n:Nat) (p:Pat):Prop:=fN p<=n/\rH eb p=true
theorem PPat.kid {n:Nat} {p k:Pat} (h:PPat (n+1) p) (hk:k∈p.kids):PPat n k:=by
 have h1:=jM hk
 have h2:=h.1
 exact⟨by omega,KB h.2 hk⟩
abbrev nI:Spc:=cC (a1 Pat) (fun _=> True) (enc (X:=Bool)) fun x y=> y=rH eb x
abbrev MS (n:Nat):Spc:=cC (a1 Pat) (PPat n) (enc (X:=Int)) fun x y=> y=o8 x
end Go.Gv

namespace Go.Gv
open Cod (enc dec)
variable {S S0:Nat->Spc}
abbrev SB:D:= .v (.slice none 0 0)
def qjV (x:Pat) (l:List Pat):Prop:=l.length+ (dH x).length<=100000000
theorem YM {ks:List Pat} {k:Nat} {x:Pat} {l:List Pat} (hx:ks[k]?=some x) (h:l.length+ (ks.flatMap dH).length<=100000000):qjV x (l++ (ks.take k).flatMap dH):=by
 have:ks=ks.take k++x::ks.drop (k+1):=by rw[<-lX hx,List.take_append_drop]
 rw[this] at h
 simp only[List.flatMap_append,List.flatMap_cons,List.length_append] at h
 unfold qjV
 rw[List.length_append]
 omega
abbrev Iz:Spc:=cC (a1 Pat) (fun x=> rH eb x=true) (enc (X:=Int)) fun x y=> y=o8 x
end Go.Gv

namespace Go.Gv
open Cod (enc dec)
variable {S S0:Nat->Spc}
abbrev MH:Spc:=cC (a1 Cond) (fun _=> True) (enc (X:=Bool)) fun x y=> (y=true↔x=qN)
theorem Ib:aV re qR S (a1 Cond) (fun _=> True) (enc (X:=Bool)) fun x y=> (y=true↔x=qN):=by
 rintro⟨op,n,a,v,l,f,ks⟩ -
 simp[re,qR,qN]
 repeat' first | apply And.intro | intro _
 all_goals simp_all
abbrev IC:Spc:=cC (a1 Pat) (fun _=> True) (enc (X:=Bool)) fun x y=> y=Ce x
theorem Ie (h1:S lR=MH):aV ri qU S (a1 Pat) (fun _=> True) (enc (X:=Bool)) fun x y=> y=Ce x:=by
 rintro p -
 simp[ri,qU,h1, -Bool.forall_bool]
 clear h1
 repeat' first | apply And.intro | intro _
 all_goals (rw[Bool.eq_iff_iff,Hw];unfold xX;simp_all;try omega)
abbrev yK:Spc:=cC (a1 Pat) (fun _=> True) (enc (X:=Bool)) fun x y=> y=wm eb x
theorem Gg (h1:S aW=DW):aV pV pq S (a1 Pat) (fun _=> True) (enc (X:=Bool)) fun x y=> y=wm eb x:=by
 rintro p -
 simp[pV,pq,h1,wm, -Bool.forall_bool]
 clear h1
 repeat' first | apply And.intro | intro _
 all_goals (first | omega | simp_all;try omega)
abbrev ug:Spc:=cC (a1 Pat) (fun _=> True) (enc (X:=Bool)) fun x y=> y=zl x
theorem Dw:aV nV nM S (a1 Pat) (fun _=> True) (enc (X:=Bool)) fun x y=> y=zl x:=by
 rintro p -
 simp[nV,nM,zl]
 repeat' first | apply And.intro | intro _
 all_goals (first | omega | (rw[Bool.eq_iff_iff];simp;omega))
end Go.Gv
