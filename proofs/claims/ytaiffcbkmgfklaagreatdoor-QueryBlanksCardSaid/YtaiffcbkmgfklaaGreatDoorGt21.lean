/- A part of the framework and of the walks: T18 W14 T19 W15 T20 W16 W9 W42 T21 T22. -/
import Derived.Test.YtaiffcbkmgfklaaGreatDoorGt20
import Derived.Test.YtaiffcbkmgfklaaGreatDoorGt19
import Derived.Test.YtaiffcbkmgfklaaGreatDoorGt18
set_option linter.unusedSimpArgs false
set_option linter.unusedVariables false
set_option maxRecDepth 100000
set_option linter.unusedSectionVars false

namespace Go.Gv
def RFz (Hf:aa):Res→Res→Prop
 | .box b cs, .box b' cs'=> b=b'∧cs.length=cs'.length∧ ∀ (m:Nat) (c c':D),cs[m]?=some c→cs'[m]?=some c'→FrzTo Hf c c'
 | .row x el n es, .row x' el' n' es'=> x=x'∧el=el'∧n=n'∧es.length=es'.length∧(∀d∈es',d.kn=true∧d.cells.length=n)∧ ∀ (m:Nat) (c c':D),es[m]?=some c→es'[m]?=some c'→ ∀ (j:Nat) (e e':D),c.cells[j]?=some e→c'.cells[j]?=some e'→FrzTo Hf e e'
 | .tbox el b cs, .tbox el' b' cs'=> el=el'∧b=b'∧cs.length=cs'.length∧ ∀ (m:Nat) (c c':D),cs[m]?=some c→cs'[m]?=some c'→FrzTo Hf c c'
 | r,r'=> r=r'
theorem RFz.blk {Hf:aa} {r r':Res} (h:RFz Hf r r'):r'.blk=r.blk:=by
 cases r <;> cases r' <;> simp only[RFz] at h
 ·obtain⟨rfl,_⟩:=h;rfl
 all_goals first
  | (obtain⟨rfl,rfl,rfl,_⟩:=h;rfl)
  | (obtain⟨rfl,rfl,_⟩:=h;rfl)
  | (cases h;done)
  | (cases h;rfl)
theorem RFz.ok {tp I I':Nat→Prop} {w:World} {Hf:aa} {r r':Res} (h:RFz Hf r r') (hr:ResOk (R tp I w) w r) (hok: ∀i q,Hf i=some q→ResOk (R tp I w) w q) (hI: ∀b,I b→I' b) (hb: ∀i q b,Hf i=some q→q.blk=some b→I' b):ResOk (R tp I' w) w r':=by
 have fz: ∀ {c c':D} {y:Value},FrzTo Hf c c'→R tp I w y c→R tp I' w y c':=fun h hr=> h.R (H:=cu) hok hI hb hr
 have same:ResOk (R tp I' w) w r:=hr.conv (fun x d hr=> hr.mono (fun _ h=> h) (fun b hb=> ⟨hI b hb,rfl⟩) (fun b _=> .refl _ _)) (fun _ _=> rfl)
 cases r with
 | box b cs=>
   cases r' with
   | box b' cs'=>
     obtain⟨rfl,hl,hc⟩:=h
     obtain⟨xs,el,h1,h2,h3⟩:=hr
     refine⟨xs,el,h1,h2.trans hl,fun k y c hy hc'=> ?_⟩
     have hk:k < cs.length:=by rw[hl];exact(List.getElem?_eq_some_iff.1 hc').1
     have h4:=h3 k y cs[k] hy (List.getElem?_eq_getElem hk)
     exact⟨h4.1,fz (hc k _ _ (List.getElem?_eq_getElem hk) hc') h4.2⟩
   | row x el n es=> cases h
   | iter b s p=> cases h
   | tbox b s p=> cases h
 | iter b s p=>
   cases r' with
   | box b' cs'=> cases h
   | row x el n es=> cases h
   | iter b' s' p'=> cases h;exact same
   | tbox b' s' p'=> cases h
 | tbox b s p=>
   cases r' with
   | box b' cs'=> cases h
   | row x el n es=> cases h
   | iter b' s' p'=> cases h
   | tbox b' s' cs'=>
     obtain⟨rfl,rfl,hl,hc⟩:=h
     obtain⟨xs,h1,h2,h3⟩:=hr
     refine⟨xs,h1,h2.trans hl,fun k y c hy hc'=> ?_⟩
     have hk:k < p.length:=by rw[hl];exact(List.getElem?_eq_some_iff.1 hc').1
     have h4:=h3 k y p[k] hy (List.getElem?_eq_getElem hk)
     exact⟨h4.1,fz (hc k _ _ (List.getElem?_eq_getElem hk) hc') h4.2⟩
 | row x el n es=>
   cases r' with
   | box b' cs'=> cases h
   | iter b' s' p'=> cases h
   | tbox b' s' p'=> cases h
   | row x' el' n' es'=>
     obtain⟨rfl,rfl,rfl,hl,hkn,hc⟩:=h
     obtain⟨xs,h1,h2,h3⟩:=hr
     refine⟨xs,hl ▸h1,hkn,fun k y c hy hc'=> ?_⟩
     have hw: ∀d∈es,d.cells.length=n:=fun d hd=> (h2 d hd).2
     have hw': ∀d∈es',d.cells.length=n:=fun d hd=> (hkn d hd).2
     have hfl:=bt hw
     have hfl':=bt hw'
     have hk:k < (bT es).length:=by
      have:=(List.getElem?_eq_some_iff.1 hc').1
      rw[hfl,hl,←hfl'];exact this
     have hk2:k < es.length*n:=by rw[←hfl];exact hk
     have hn:0 < n:=by
      rcases Nat.eq_zero_or_pos n with e | e
      ·subst e;simp at hk2
      ·exact e
     have h4:=h3 k y (bT es)[k] hy (List.getElem?_eq_getElem hk)
     refine⟨h4.1,fz ?_ h4.2⟩
     have hdm:k=(k/n) *n+k % n:=by have:=Nat.div_add_mod k n;rw[Nat.mul_comm] at this;omega
     have hmod:k % n < n:=Nat.mod_lt _ hn
     have g1:=f7 hw (i:=k/n) (j:=k % n) hmod
     have g2:=f7 hw' (i:=k/n) (j:=k % n) hmod
     rw[←hdm] at g1 g2
     rw[hc'] at g2
     rw[List.getElem?_eq_getElem hk] at g1
     cases e1:es[k/n]? with
     | none=> rw[e1] at g1;cases g1
     | some c1=>
       cases e2:es'[k/n]? with
       | none=> rw[e2] at g2;cases g2
       | some c2=>
         rw[e1] at g1
         rw[e2] at g2
         exact hc _ c1 c2 e1 e2 _ _ _ g1.symm g2.symm
def RFe (Hf:aa) (r r':Res):Prop:=r=r'∨RFz Hf r r'
theorem RFe.blk {Hf:aa} {r r':Res} (h:RFe Hf r r'):r'.blk=r.blk:=by
 rcases h with rfl | h
 ·rfl
 ·exact h.blk
theorem RFe.ok {tp I I':Nat→Prop} {w:World} {Hf:aa} {r r':Res} (h:RFe Hf r r') (hr:ResOk (R tp I w) w r) (hok: ∀i q,Hf i=some q→ResOk (R tp I w) w q) (hI: ∀b,I b→I' b) (hb: ∀i q b,Hf i=some q→q.blk=some b→I' b):ResOk (R tp I' w) w r':=by
 rcases h with rfl | h
 ·exact hr.conv (fun x d hr=> hr.mono (fun _ h=> h) (fun b hb=> ⟨hI b hb,rfl⟩) (fun b _=> .refl _ _)) (fun _ _=> rfl)
 ·exact h.ok hr hok hI hb
theorem isNilRow.blk' {r:Res} (h:isNilRow r):r.blk=none:=by
 cases r with
 | box b c=> exact h.elim
 | iter b s p=> exact h.elim
 | tbox b s p=> exact h.elim
 | row x el n es=> obtain⟨rfl,rfl⟩:=h;rfl
theorem Hm {σ σ':Sg} {H H' Hf:aa} (ρ:Nat→Nat) (h1: ∀t,FrzTo Hf (σ t) (σ' t)) (h2: ∀i r,H' i=some r→(∃r0,H (ρ i)=some r0∧RFe Hf r0 r)∨isNilRow r)
 (h3: ∀i j r s,H' i=some r→H' j=some s→ρ i=ρ j→i=j∨isNilRow r∨isNilRow s) (h4: ∀i r,Hf i=some r→H i=some r∧ ∀j r',H' j=some r'→ρ j=i→isNilRow r'):Wk σ H σ' H':=by
 intro E a w ⟨hd,hN,tp,h,hr⟩
 have hblk: ∀i r c,H' i=some r→r.blk=some c→ ∃r0,H (ρ i)=some r0∧r0.blk=some c∧ ¬isNilRow r:=fun i r c k1 k2=> by
  have hn: ¬isNilRow r:=fun hn=> by rw[hn.blk'] at k2;cases k2
  rcases h2 i r k1 with⟨r0,k3,k4⟩ | k3
  ·exact⟨r0,k3,k4.blk ▸k2,hn⟩
  ·exact absurd k3 hn
 have hown: ∀c,eA H' c→eA H c:=fun c ⟨i,r,k1,k2⟩=> by
  obtain⟨r0,k3,k4,_⟩:=hblk i r c k1 k2
  exact⟨ρ i,r0,k3,k4⟩
 have himm: ∀c,bW E.O tp H w c→bW E.O tp H' w c:=fun c hb=> ⟨hb.1,hb.2.1,hb.2.2.1,fun ho=> hb.2.2.2 (hown c ho)⟩
 have hfok: ∀i q,Hf i=some q→ResOk (R tp (bW E.O tp H w) w) w q:=fun i q hq=> h.sat.ok i q (h4 i q hq).1
 have hfb: ∀i q b,Hf i=some q→q.blk=some b→bW E.O tp H' w b:=fun i q b hq hb=> by
  obtain⟨k1,k2⟩:=h4 i q hq
  have ho:=h.sat.out i q b k1 hb
  refine⟨(h.sat.ok i q k1).lt hb,ho.1,ho.2,fun⟨j,s,k3,k4⟩=> ?_⟩
  obtain⟨s0,k5,k6,k7⟩:=hblk j s b k3 k4
  exact k7 (k2 j s k3 (h.sat.dis (ρ j) i s0 q b k5 k1 k6 hb))
 have move: ∀x d,R tp (bW E.O tp H w) w x d→R tp (bW E.O tp H' w) w x d:=fun x d hr=>
  hr.mono (fun _ h=> h) (fun b hb=> ⟨himm b hb,rfl⟩) (fun b _=> .refl _ _)
 refine⟨hd,hN,tp,⟨h.hO,h.tpx,h.tpn,h.tpl,h.step,fun b hb=> h.loc b (hown b hb),⟨fun i j r s c k1 k2 k3 k4=> ?_,fun i r c k1 k2=> ?_,fun i r k1=> ?_⟩⟩,fun t=> (h1 t).R (H:=cu) hfok himm hfb (hr t)⟩
 ·obtain⟨r0,a1,a2,a3⟩:=hblk i r c k1 k3
  obtain⟨s0,b1,b2,b3⟩:=hblk j s c k2 k4
  rcases h3 i j r s k1 k2 (h.sat.dis _ _ r0 s0 c a1 b1 a2 b2) with e | e | e
  ·exact e
  ·exact absurd e a3
  ·exact absurd e b3
 ·obtain⟨r0,a1,a2,_⟩:=hblk i r c k1 k2
  exact h.sat.out _ r0 c a1 a2
 ·rcases h2 i r k1 with⟨r0,k3,k4⟩ | k3
  ·exact k4.ok (h.sat.ok _ r0 k3) hfok himm hfb
  ·cases r with
   | box b c=> exact k3.elim
   | iter b s p=> exact k3.elim
   | tbox b s p=> exact k3.elim
   | row x el n es=>
     obtain⟨rfl,rfl⟩:=k3
     exact⟨[],World.ownsRow_nil _ _ _ _,by simp,fun k y c h=> by simp at h⟩
def u7 (Hf:aa):List (Nat×D)→Sg→Prop
 | [],_=> True
 | (t,d)::l,σ=> FrzTo Hf (σ t) d∧u7 Hf l σ
@[simp] theorem Zd (Hf:aa) (σ:Sg):u7 Hf [] σ=True:=id rfl
@[simp] theorem Ze (Hf:aa) (t:Nat) (d:D) (l:List (Nat×D)) (σ:Sg):u7 Hf ((t,d)::l) σ=(FrzTo Hf (σ t) d∧u7 Hf l σ):=id rfl
def P9 (rn:List (Nat×Nat)) (i:Nat):Nat:=(rn.lookup i).getD i
def sq (Hf:aa) (rn:List (Nat×Nat)):List (Nat×Res)→aa→Prop
 | [],_=> True
 | (i,r)::l,H=> ((∃r0,H (P9 rn i)=some r0∧RFe Hf r0 r)∨isNilRow r)∧sq Hf rn l H
@[simp] theorem Zb (Hf:aa) (rn:List (Nat×Nat)) (H:aa):sq Hf rn [] H=True:=id rfl
@[simp] theorem Zc (Hf:aa) (rn:List (Nat×Nat)) (i:Nat) (r:Res) (l:List (Nat×Res)) (H:aa):sq Hf rn ((i,r)::l) H=(((∃r0,H (P9 rn i)=some r0∧RFe Hf r0 r)∨isNilRow r)∧sq Hf rn l H):=id rfl
def Po (gv:List Nat) (H:aa):aa:=fun i=> if i∈gv then H i else none
def Yv (rn:List (Nat×Nat)) (ids gv:List Nat):Prop:=(∀i∈ids,∀j∈ids,P9 rn i=P9 rn j→i=j)∧(∀i∈ids,P9 rn i∉gv)
instance (rn:List (Nat×Nat)) (ids gv:List Nat):Decidable (Yv rn ids gv):=by unfold Yv;infer_instance
theorem Lm {l:List (Nat×Res)} {H:aa} {i:Nat} {r:Res} (h:fX l H i=some r): (i,r) ∈l∨(i∉l.map (·.1)∧H i=some r):=by
 induction l with
 | nil=> exact .inr ⟨by simp,h⟩
 | cons p l ih=>
   obtain⟨j,q⟩:=p
   simp only[fX,ak] at h
   split at h
   ·rename_i e;subst e;cases h;exact .inl (by simp)
   ·rename_i e
    rcases ih h with h | ⟨h1,h2⟩
    ·exact .inl (by simp[h])
    ·exact .inr ⟨by simp[e,h1],h2⟩
theorem Mm {Hf:aa} {rn:List (Nat×Nat)} {l:List (Nat×Res)} {H:aa} {i:Nat} {r:Res} (h:sq Hf rn l H) (hm: (i,r) ∈l): (∃r0,H (P9 rn i)=some r0∧RFe Hf r0 r)∨isNilRow r:=by
 induction l with
 | nil=> simp at hm
 | cons p l ih=>
   obtain⟨j,q⟩:=p
   rcases List.mem_cons.1 hm with e | hm
   ·cases e;exact h.1
   ·exact ih h.2 hm
theorem yS {σ0 σ:Sg} {H0 H:aa} {ks hk gv:List Nat} {rn:List (Nat×Nat)} {sl:List (Nat×D)} {hp:List (Nat×Res)} (hi:Yv rn (hp.map (·.1) ++hk) gv) (hid: ∀i∈hk,i∉hp.map (·.1)→P9 rn i=i)
 (h1:u7 (Po gv H) sl σ) (h2:qV ks σ0 σ) (h3:sq (Po gv H) rn hp H) (h4:u9 hk H0 H):Wk σ H (o7 sl (jl ks σ0)) (fX hp (jm hk H0)):=by
 have hmem: ∀i r,fX hp (jm hk H0) i=some r→i∈hp.map (·.1) ++hk:=fun i r h=> by
  rcases Lm h with h | ⟨_,h⟩
  ·exact List.mem_append.2 (.inl (List.mem_map.2 ⟨_,h,rfl⟩))
  ·rw[D5] at h
   split at h
   ·rename_i e;exact List.mem_append.2 (.inr e)
   ·cases h
 refine Hm (Hf:=Po gv H) (P9 rn) (fun t=> ?_) (fun i r h=> ?_) (fun i j r s k1 k2 e=> .inl (hi.1 i (hmem i r k1) j (hmem j s k2) e)) (fun i r h=> ?_)
 ·clear hi hid h3 hmem
  induction sl with
  | nil=>
    rw[MZ,D4]
    split
    ·rename_i h;rw[←h2 t h];exact .same _
    ·exact .any _
  | cons p sl ih=>
    obtain⟨s,d⟩:=p
    simp only[o7,kI]
    split
    ·rename_i e;subst e;exact h1.1
    ·exact ih h1.2
 ·rcases Lm h with h | ⟨h5,h⟩
  ·exact Mm h3 h
  ·rw[D5] at h
   split at h
   ·rename_i e
    rw[hid i e h5,h4 i e]
    exact .inl ⟨r,h, .inl rfl⟩
   ·cases h
 ·simp only[Po] at h
  split at h
  ·rename_i e
   exact⟨h,fun j r' k1 k2=> absurd e (k2 ▸hi.2 j (hmem j r' k1))⟩
  ·cases h
@[simp] theorem qfV (i:Nat):P9 [] i=i:=id rfl
def FzL (Hf:aa):List D→List D→Prop
 | [], []=> True
 | a::l,b::r=> FrzTo Hf a b∧FzL Hf l r
 | _,_=> False
@[simp] theorem qhE (Hf:aa):FzL Hf [] []=True:=id rfl
@[simp] theorem qhF (Hf:aa) (a b:D) (l r:List D):FzL Hf (a::l) (b::r)=(FrzTo Hf a b∧FzL Hf l r):=id rfl
theorem FzL.get {Hf:aa} : ∀ {l r:List D},FzL Hf l r→l.length=r.length∧ ∀ (m:Nat) (c c':D),l[m]?=some c→r[m]?=some c'→FrzTo Hf c c'
 | [], [],_=> ⟨rfl,fun m c c' h=> by simp at h⟩
 | a::l,b::r,h=> by
   obtain⟨h1,h2⟩:=h
   have ih:=FzL.get h2
   refine⟨by simp[ih.1],fun m c c' e1 e2=> ?_⟩
   cases m with
   | zero=> simp at e1 e2;subst e1;subst e2;exact h1
   | succ m=> simp at e1 e2;exact ih.2 m c c' e1 e2
@[simp] theorem qaB (Hf:aa) (b:Nat) (cs cs':List D):RFe Hf (.box b cs) (.box b cs')=(cs=cs'∨FzL Hf cs cs'):=by
 refine propext ⟨fun h=> ?_,fun h=> ?_⟩
 ·rcases h with h | ⟨_,hl,hc⟩
  ·cases h;exact .inl rfl
  ·right
   induction cs generalizing cs' with
   | nil=> cases cs' with
     | nil=> trivial
     | cons b r=> simp at hl
   | cons a l ih=> cases cs' with
     | nil=> simp at hl
     | cons b r=> exact⟨hc 0 a b rfl rfl,ih r (by simpa using hl) fun m c c' h1 h2=> hc (m+1) c c' (by simpa using h1) (by simpa using h2)⟩
 ·rcases h with rfl | h
  ·exact .inl rfl
  ·exact .inr ⟨rfl,h.get.1,h.get.2⟩
def TA (σ0:Sg) (H0:aa) (ks hk gv:List Nat) (rn:List (Nat×Nat)) (sl:List (Nat×D)) (hp:List (Nat×Res)) (σ:Sg) (H:aa):Prop:=u7 (Po gv H) sl σ∧qV ks σ0 σ∧sq (Po gv H) rn hp H∧u9 hk H0 H
@[simp] theorem Z0 (σ0:Sg) (H0:aa) (ks hk gv:List Nat) (rn:List (Nat×Nat)) (sl:List (Nat×D)) (hp:List (Nat×Res)) (σ:Sg) (H:aa):TA σ0 H0 ks hk gv rn sl hp σ H=(u7 (Po gv H) sl σ∧qV ks σ0 σ∧sq (Po gv H) rn hp H∧u9 hk H0 H):=id rfl
section
variable {S:Nat→Spc} {σ:Sg} {H:aa} {K:Ex→Sg→aa→Prop}
theorem xq {X:Type} (ks hk gv:List Nat) (rn:List (Nat×Nat)) (P:X→Prop) (sl:X→List (Nat×D)) (hp:X→List (Nat×Res)) {k:Nat} {a b:CC} (ids:List Nat) (hids: ∀x,(hp x).map (·.1)=ids) (hi:Yv rn (ids++hk) gv∧ ∀i∈hk,i∉ids→P9 rn i=i)
 (ha:vc S a (RF (fun σ' H'=> ∃x,P x∧TA σ H ks hk gv rn (sl x) (hp x) σ' H') K) σ H)
 (hb: ∀x,P x→vc S b K (o7 (sl x) (jl ks σ)) (fX (hp x) (jm hk H))):vc S (kO k a b) K σ H:=by
 refine Ub P _ _ (pq a _ _ (fun e σ' H' h=> ?_) ha) hb
 cases e with
 | norm=>
   obtain⟨x,h1,h2⟩:=h
   exact⟨x,h1,yS (by rw[hids x];exact hi.1) (by rw[hids x];exact hi.2) h2.1 h2.2.1 h2.2.2.1 h2.2.2.2⟩
 | ex i=> exact h
 | ret=> exact h
end
end Go.Gv

namespace Go.Gv
open Cod (enc dec)
variable {S S0:Nat→Spc}
end Go.Gv

namespace Go.Gv
section
variable {X Y:Type}
variable {P:Program} {S:Nat→Spc} {f:Nat} {im:List Nat} {cc:CC} {rs:List aK} {N:Nat}
end
end Go.Gv

namespace Go.Gv
open Cod (enc dec)
variable {S S0:Nat→Spc}
theorem TQ:Ti EX Dk S:=by
 intro l
 simp[EX,Dk, -List.map_take,QK,xE]
 omega
end Go.Gv

namespace Go.Gv
section
variable {S:Nat→Spc} {σ:Sg} {H:aa} {K:Ex→Sg→aa→Prop}
theorem ql {X:Type} (ks hk gv0 gv:List Nat) (rn0 rn:List (Nat×Nat)) (P:X→Prop) (sl:X→List (Nat×D)) (hp:X→List (Nat×Res)) (m:X→Nat) (x0:X) (ids:List Nat) (hids: ∀x,(hp x).map (·.1)=ids)
 (hi0:Yv rn0 (ids++hk) gv0∧ ∀i∈hk,i∉ids→P9 rn0 i=i) (hi:Yv rn (ids++hk) gv∧ ∀i∈hk,i∉ids→P9 rn i=i) {k:Nat} {b:CC} (h0:P x0)
 (hs:u7 (Po gv0 H) (sl x0) σ) (hh:sq (Po gv0 H) rn0 (hp x0) H)
 (hr: ∀x,P x→vc S b (Qj P (fun y=> TA σ H ks hk gv rn (sl y) (hp y)) m x K) (o7 (sl x) (jl ks σ)) (fX (hp x) (jm hk H))):vc S (.loop k b) K σ H:=by
 rw[IV]
 refine⟨⟨X,P,fun x=> o7 (sl x) (jl ks σ),fun x=> fX (hp x) (jm hk H),m⟩,⟨x0,h0,yS (by rw[hids x0];exact hi0.1) (by rw[hids x0];exact hi0.2) hs (fun _ _=> rfl) hh (fun _ _=> rfl)⟩,fun x hx=> pq b _ _ (fun e σ' H' h=> ?_) (hr x hx)⟩
 cases e with
 | norm=>
   obtain⟨y,h1,h2,h3⟩:=h
   exact⟨y,h1,yS (by rw[hids y];exact hi.1) (by rw[hids y];exact hi.2) h2.1 h2.2.1 h2.2.2.1 h2.2.2.2,h3⟩
 | ex i=> exact h
 | ret=> exact h
end
end Go.Gv

namespace Go.Gv
open Cod (enc dec)
variable {S S0:Nat→Spc}
def JE (l:List B):List D:=l.map enc
theorem QS (a b:B):D.list 1 [.v (.string a), .v (.string b)]= .list 1 (JE [a,b]):=id rfl
theorem QR (a b c:B):D.list 1 [.v (.string a), .v (.string b), .v (.string c)]= .list 1 (JE [a,b,c]):=id rfl
theorem tB (l:List B): (JE l).length=l.length:=by simp[JE]
theorem xG (l:List B) (i:Nat) (d:D): ((JE l)[i]?=some d)= ∃s,l[i]?=some s∧ .v (.string s)=d:=by
 simp[JE]
end Go.Gv

namespace Go.Gv
open Cod (enc dec)
variable {S S0:Nat→Spc}
end Go.Gv

namespace Go.Gv
open Cod (enc dec)
variable {S S0:Nat→Spc}
abbrev je:Spc:=dt (a1 Int) Vm (enc (X:=B)) (fun _ y=> y∈pH)
theorem Ow (h1:S mo=vd):Walk Av zz S (a1 Int) Vm (enc (X:=B)) (fun _ y=> y∈pH):=by
 rintro n -
 simp[Av,zz,h1]
 have h3:=Ka n 3 (by omega)
 refine⟨h3.1,h3.2,?_⟩
 have:FW n 3=0∨FW n 3=1∨FW n 3=2:=by omega
 rcases this with h | h | h <;> simp[h,pH,Z4,Vk,qb0]
def He (n:Nat) (x:List Int×Int×List B):Prop:=x.2.1.toNat < n∧ -10≤x.2.1∧x.2.1≤100∧x.2.2.length≤1000
theorem fI {q:Cond→Prop} {H:aa} {op:Int} {n a v l:B} {f:Bool} {d:D} (ks:List Cond) (hd:FrzTo H d (enc ks)) (hq:q ⟨op,n,a,v,l,f,ks⟩):Fin enc q (.agg [.v (.int .i64 op), .v (.string n), .v (.string a), .v (.string v), .v (.string l), .v (.bool f),d]) H:=by
 refine gq (⟨op,n,a,v,l,f,ks⟩:Cond) ?_ hq
 rw[KL]
 refine .agg rfl fun k x y hx hy=> ?_
 rcases k with _ | _ | _ | _ | _ | _ | _ | k
 ·cases hx;cases hy;exact .same _
 ·cases hx;cases hy;exact .same _
 ·cases hx;cases hy;exact .same _
 ·cases hx;cases hy;exact .same _
 ·cases hx;cases hy;exact .same _
 ·cases hx;cases hy;exact .same _
 ·cases hx;cases hy;exact hd
 ·simp at hx
theorem YH (a b c d e f g h:B):D.list 1 [.v (.string a), .v (.string b), .v (.string c), .v (.string d), .v (.string e), .v (.string f), .v (.string g), .v (.string h)]= .list 1 (JE [a,b,c,d,e,f,g,h]):=id rfl
theorem Vu (a b c d:B):D.list 1 [.v (.string a), .v (.string b), .v (.string c), .v (.string d)]= .list 1 (JE [a,b,c,d]):=id rfl
theorem vi {q:Pat→Prop} {H:aa} {op o:Int} {n a v l lb rg:B} {f:Bool} {cd d:D} {mn mx:Int} (cks:List Cond) (ks:List Pat) (hc:FrzTo H cd (enc cks)) (hd:FrzTo H d (enc ks)) (hq:q ⟨op,⟨o,n,a,v,l,f,cks⟩,lb,rg,mn,mx,ks⟩):
 Fin enc q (.agg [.v (.int .i64 op), .v (.int .i64 o), .v (.string n), .v (.string a), .v (.string v), .v (.string l), .v (.bool f),cd, .v (.string lb), .v (.string rg), .v (.int .i64 mn), .v (.int .i64 mx),d]) H:=by
 refine gq (⟨op,⟨o,n,a,v,l,f,cks⟩,lb,rg,mn,mx,ks⟩:Pat) ?_ hq
 rw[IT]
 refine .agg rfl fun k x y hx hy=> ?_
 rcases k with _ | _ | _ | _ | _ | _ | _ | _ | _ | _ | _ | _ | _ | k
 ·cases hx;cases hy;exact .same _
 ·cases hx;cases hy;exact .same _
 ·cases hx;cases hy;exact .same _
 ·cases hx;cases hy;exact .same _
 ·cases hx;cases hy;exact .same _
 ·cases hx;cases hy;exact .same _
 ·cases hx;cases hy;exact .same _
 ·cases hx;cases hy;exact hc
 ·cases hx;cases hy;exact .same _
 ·cases hx;cases hy;exact .same _
 ·cases hx;cases hy;exact .same _
 ·cases hx;cases hy;exact .same _
 ·cases hx;cases hy;exact hd
 ·simp at hx
def Od (n:Nat) (x:List Int×Int×List B):Prop:=x.2.1.toNat < n∧ -10≤x.2.1∧x.2.1≤100∧x.2.2.length≤1000
def Z9 (x:List Int×Int×List B) (p:Pat):Prop:=WP x.2.2 x.2.1.toNat p∧PD x.2.1.toNat p
end Go.Gv

namespace Go.Gv
end Go.Gv

namespace Go.Gv
open Cod (enc dec)
section
variable {X Y:Type} [Cod X] [Cod Y]
def qew (pre:X→List Y→Prop) (post:X→List Y→List Y→Prop) (el n:Nat):PT:=fun d ds H K=> ∃id v l a x,ds= [a, .own id v]∧dec a=some x∧H id=some (.row v el n (l.map enc))∧pre x l∧
 ∀v' l',post x l l'→K (.own id v') (ak H id (some (.row v' el n (l'.map enc))))
theorem UQ (pre:X→List Y→Prop) (post:X→List Y→List Y→Prop) (el n:Nat):sp (qew pre post el n):=fun d ds H K K' hk ⟨id,v,l,a,x,h1,h2,h3,h4,h5⟩=> ⟨id,v,l,a,x,h1,h2,h3,h4,fun v' l' hp=> hk _ _ (h5 v' l' hp)⟩
def VD (pre:X→List Y→Prop) (post:X→List Y→List Y→Prop) (el n:Nat):Spc:= .gen _ (UQ pre post el n)
def qbm (pre:X→List Y→Prop) (post:X→List Y→List Y→Prop) (el n id:Nat) (v:Value) (o:Option X) (r:Option Res) (H:aa) (K:D→aa→Prop):Prop:= ∃l,r=some (.row v el n (l.map enc))∧lc o fun x=> pre x l∧ ∀v' l',post x l l'→K (.own id v') (ak H id (some (.row v' el n (l'.map enc))))
@[congr] theorem qev {pre:X→List Y→Prop} {post:X→List Y→List Y→Prop} {el n id:Nat} {v:Value} {o o':Option X} {r r':Option Res} {H:aa} {K:D→aa→Prop} (h1:o=o') (h2:r=r'):qbm pre post el n id v o r H K=qbm pre post el n id v o' r' H K:=by subst h1;subst h2;rfl
@[simp] theorem qex (pre:X→List Y→Prop) (post:X→List Y→List Y→Prop) (el n:Nat) (d i:Nat) (a:D) (v:Value) (H:aa) (K:D→aa→Prop): (VD pre post el n).pt d [a, .own i v] H K=qbm pre post el n i v (dec a) (H i) H K:=by
 refine propext ⟨fun h=> ?_,fun h=> ?_⟩
 ·obtain⟨id,v,l,a,x,h1,h2,h3,h4,h5⟩:=h
  cases h1
  refine⟨l,h3,?_⟩
  rw[h2]
  exact⟨h4,h5⟩
 ·obtain⟨l,h1,h2⟩:=h
  cases hd:dec (X:=X) a with
  | none=> rw[hd] at h2;exact h2.elim
  | some x=> rw[hd] at h2;exact⟨i,v,l,a,x,rfl,hd,h1,h2.1,h2.2⟩
@[simp] theorem qhD (pre:X→List Y→Prop) (post:X→List Y→List Y→Prop) (el n id:Nat) (v:Value) (o:Option X) (l:List Y) (H:aa) (K:D→aa→Prop):qbm pre post el n id v o (some (.row v el n (l.map enc))) H K=lc o fun x=> pre x l∧ ∀v' l',post x l l'→K (.own id v') (ak H id (some (.row v' el n (l'.map enc)))):=by
 refine propext ⟨fun⟨l',h1,h2⟩=> ?_,fun h=> ⟨l,rfl,h⟩⟩
 simp at h1
 subst h1
 exact h2
def I5 (cc:CC) (rs:List aK) (S:Nat→Spc) (pre:X→List Y→Prop) (post:X→List Y→List Y→Prop) (el n:Nat):Prop:=
 ∀v l x,pre x l→vc S cc (tO rs fun r H'=> XW el n (post x l) r H') (d4 [enc x, .own 1 v]) (ak cu 1 (some (.row v el n (l.map enc))))
variable {P:Program} {S:Nat→Spc} {f:Nat} {im:List Nat} {cc:CC} {rs:List aK} {N:Nat} {el n:Nat}
theorem wx {pre:X→List Y→Prop} {post:X→List Y→List Y→Prop} (hS: ∀f,Tri P f (S f).pt) (h:aS P f im cc rs N) (hN:2≤N) (hw:I5 cc rs S pre post el n):Tri P f (VD pre post el n).pt:=by
 obtain⟨BU,enter,fn,code,h1,h2,h3,h4,h5⟩:=h
 refine lI hS BU h1 h2 enter h3 h4 h5 ?_
 rintro ds H d K ⟨id,v,l,a,x,rfl,hd,hid,hp,hK⟩
 have hl:=Cod.le _ _ hd
 refine⟨hN, [enc x, .own 1 v],ak cu 1 (some (.row v el n (l.map enc))),fun _=> id, .cons hl (.cons (.own _ _ _) .nil),fun i r h=> ?_,fun i j r s h h' _=> ?_,_,hw v l x hp,?_⟩
 ·by_cases e:i=1
  ·subst e
   simp only[ak,if_true] at h
   cases h
   exact hid
  ·simp[ak,e] at h
 ·have a:i=1:=by
   by_cases e:i=1
   ·exact e
   ·simp[ak,e] at h
  have b:j=1:=by
   by_cases e:j=1
   ·exact e
   ·simp[ak,e] at h'
  exact a.trans b.symm
 ·rintro r H' ⟨j,v',l',rfl,hj,hpost⟩
  refine⟨.own id v',cu,ak H id (some (.row v' el n (l'.map enc))),fun i=> if i=id then some j else none, .own _ _ _,fun j q h=> by simp at h,hK v' l' hpost,fun i s hi=> ?_,fun i j' k s q hi hj' e1 e2=> ?_⟩
  ·by_cases e:i=id
   ·subst e
    simp only[ak,if_true] at hi
    cases hi
    simpa using hj
   ·simp only[ak,e,if_false] at hi ⊢
    exact⟨hi,fun k q h he=> e he.symm⟩
  ·have a:i=id:=by
    by_cases e:i=id
    ·exact e
    ·simp[e] at e1
   have b:j'=id:=by
    by_cases e:j'=id
    ·exact e
    ·simp[e] at e2
   exact a.trans b.symm
end
section
variable {X Y Z:Type}
structure tc (X:Type) where
 ids:List Nat
 ce:X→List D
 hp:X→List (Nat×Res)
 keys: ∀x,(hp x).map (·.1)=ids
theorem yO: ∀ {l:List (Nat×Res)} {i:Nat} {s:Res},fX l cu i=some s→(i,s) ∈l
 | [],i,s,h=> by simp[fX,cu] at h
 | (j,r)::l,i,s,h=> by
  simp only[fX,ak] at h
  by_cases e:i=j
  ·subst e
   simp only[if_true] at h
   cases h
   simp
  ·simp only[e,if_false] at h
   exact List.mem_cons_of_mem _ (yO h)
theorem yP: ∀ {l:List (Nat×Res)} {H:aa} {i:Nat} {s:Res},i∈l.map (·.1)→fX l H i=some s→(i,s) ∈l
 | (j,r)::l,H,i,s,hi,h=> by
  simp only[fX,ak] at h
  by_cases e:i=j
  ·subst e
   simp only[if_true] at h
   cases h
   simp
  ·simp only[e,if_false] at h
   simp[e] at hi
   refine List.mem_cons_of_mem _ (yP (H:=H) ?_ h)
   simpa using hi
theorem yN: ∀ {l:List (Nat×Res)} {H:aa} {i:Nat},i∉l.map (·.1)→fX l H i=H i
 | [],H,i,_=> rfl
 | (j,r)::l,H,i,hi=> by
  simp only[List.map_cons,List.mem_cons,not_or] at hi
  simp only[fX,ak,hi.1,if_false]
  exact yN hi.2
def qfj (B:tc X) (A:jL Z) (er:Y→D) (pre:X→Z→Prop) (post:X→Z→X→Y→Prop):PT:=fun d ds H K=> ∃id b x z ds',ds= .bptr id b 0::ds'∧A.dec ds'=some z∧H id=some (.box b (B.ce x))∧(∀p∈B.hp x,H p.1=some p.2)∧id∉B.ids∧pre x z∧
 ∀x' y,post x z x' y→K (er y) (ak (fX (B.hp x') H) id (some (.box b (B.ce x'))))
theorem Vg (B:tc X) (A:jL Z) (er:Y→D) (pre:X→Z→Prop) (post:X→Z→X→Y→Prop):sp (qfj B A er pre post):=fun d ds H K K' hk ⟨id,b,x,z,ds',h1,h2,h3,h4,h5,h6,h7⟩=> ⟨id,b,x,z,ds',h1,h2,h3,h4,h5,h6,fun x' y hp=> hk _ _ (h7 x' y hp)⟩
def qbY (B:tc X) (A:jL Z) (er:Y→D) (pre:X→Z→Prop) (post:X→Z→X→Y→Prop):Spc:= .gen _ (Vg B A er pre post)
def VX (B:tc X) (er:Y→D) (b:Nat) (post:X→Y→Prop) (r:D) (H:aa):Prop:= ∃x y,FrzTo (fun i=> if i=0∨i∈B.ids then none else H i) r (er y)∧H 0=some (.box b (B.ce x))∧(∀p∈B.hp x,H p.1=some p.2)∧post x y
def Tj (cc:CC) (rs:List aK) (S:Nat→Spc) (B:tc X) (A:jL Z) (er:Y→D) (pre:X→Z→Prop) (post:X→Z→X→Y→Prop):Prop:=
 ∀b x z,pre x z→vc S cc (tO rs fun r H'=> VX B er b (post x z) r H') (d4 (.bptr 0 b 0::A.view z)) (ak (fX (B.hp x) cu) 0 (some (.box b (B.ce x))))
variable {P:Program} {S:Nat→Spc} {f:Nat} {im:List Nat} {cc:CC} {rs:List aK} {N:Nat}
theorem LR {B:tc X} {A:jL Z} {er:Y→D} {pre:X→Z→Prop} {post:X→Z→X→Y→Prop} (h1i:0∉B.ids) (hS: ∀f,Tri P f (S f).pt) (h:aS P f im cc rs N) (hN: ∀z,(A.view z).length+1≤N) (hw:Tj cc rs S B A er pre post):Tri P f (qbY B A er pre post).pt:=by
 obtain⟨BU,enter,fn,code,h1,h2,h3,h4,h5⟩:=h
 refine lI hS BU h1 h2 enter h3 h4 h5 ?_
 rintro ds H d K ⟨id,b,x,z,ds',rfl,hd,hid,hhp,hni,hp,hK⟩
 have hl:=A.le ds' z hd
 have h0: ∀i r,ak (fX (B.hp x) cu) 0 (some (.box b (B.ce x))) i=some r→i=0∧r= .box b (B.ce x)∨i≠0∧(i,r) ∈B.hp x:=by
  intro i r h
  by_cases e:i=0
  ·subst e
   simp only[ak,if_true] at h
   cases h
   exact .inl ⟨rfl,rfl⟩
  ·simp only[ak,e,if_false] at h
   exact .inr ⟨e,yO h⟩
 have hk: ∀ {x:X} {i:Nat} {r:Res},(i,r) ∈B.hp x→i∈B.ids:=by
  intro x i r h
  rw[←B.keys x]
  exact List.mem_map.2 ⟨_,h,rfl⟩
 refine⟨by simp only[List.length_cons];rw[hl.1];exact hN z, .bptr 0 b 0::A.view z,ak (fX (B.hp x) cu) 0 (some (.box b (B.ce x))),fun i=> if i=0 then id else i, .cons (.bptr _ _ _ _) hl,fun i r h=> ?_,fun i j r s h h' e=> ?_,_,hw b x z hp,?_⟩
 ·rcases h0 i r h with⟨rfl,rfl⟩ | ⟨e,hm⟩
  ·exact hid
  ·simp only[e,if_false]
   exact hhp _ hm
 ·rcases h0 i r h with⟨rfl,rfl⟩ | ⟨e1,hm⟩
  ·rcases h0 j s h' with⟨rfl,rfl⟩ | ⟨e2,hm2⟩
   ·rfl
   ·simp only[e2,if_true,if_false] at e
    subst e
    exact absurd (hk hm2) hni
  ·rcases h0 j s h' with⟨rfl,rfl⟩ | ⟨e2,hm2⟩
   ·simp only[e1,if_true,if_false] at e
    subst e
    exact absurd (hk hm) hni
   ·simpa only[e1,e2,if_false] using e
 ·rintro r H' ⟨x',y,hfr,hj,hhp',hpost⟩
  refine⟨er y,fun i=> if i=0∨i∈B.ids then none else H' i,ak (fX (B.hp x') H) id (some (.box b (B.ce x'))),fun i=> if i=id then some 0 else if i∈B.ids then some i else none,hfr,fun j q h=> ?_,hK x' y hpost,fun i s hi=> ?_,fun i j' k s q hi hj' e1 e2=> ?_⟩
  ·by_cases e:j=0∨j∈B.ids
   ·simp[e] at h
   ·simp only[e,if_false] at h
    refine⟨h,fun i hh=> e ?_⟩
    by_cases e1:i=id
    ·simp only[e1,if_true] at hh
     cases hh
     exact .inl rfl
    ·simp only[e1,if_false] at hh
     by_cases e2:i∈B.ids
     ·simp only[e2,if_true] at hh
      cases hh
      exact .inr e2
     ·simp[e2] at hh
  ·by_cases e:i=id
   ·subst e
    simp only[ak,if_true] at hi
    cases hi
    simpa using hj
   ·simp only[ak,e,if_false] at hi ⊢
    by_cases e2:i∈B.ids
    ·simp only[e2,if_true]
     exact hhp' _ (yP (by rw[B.keys];exact e2) hi)
    ·simp only[e2,if_false]
     rw[yN (by rw[B.keys];exact e2)] at hi
     refine⟨hi,fun k q h he=> ?_⟩
     rcases h0 k q h with⟨rfl,rfl⟩ | ⟨e3,hm⟩
     ·simp only[if_true] at he
      exact e he.symm
     ·simp only[e3,if_false] at he
      subst he
      exact e2 (hk hm)
  ·by_cases c1:i=id
   ·by_cases c2:j'=id
    ·exact c1.trans c2.symm
    ·simp only[c1,if_true] at e1
     cases e1
     simp only[c2,if_false] at e2
     by_cases c3:j'∈B.ids
     ·simp only[c3,if_true] at e2
      cases e2
      exact absurd c3 h1i
     ·simp[c3] at e2
   ·simp only[c1,if_false] at e1
    by_cases c3:i∈B.ids
    ·simp only[c3,if_true] at e1
     cases e1
     by_cases c2:j'=id
     ·simp only[c2,if_true] at e2
      cases e2
      exact absurd c3 h1i
     ·simp only[c2,if_false] at e2
      by_cases c4:j'∈B.ids
      ·simp only[c4,if_true] at e2
       cases e2
       rfl
      ·simp[c4] at e2
    ·simp[c3] at e1
def Gf {X:Type} (ce:X→List D):tc X:=⟨[],ce,fun _=> [],fun _=> rfl⟩
end
end Go.Gv
