/- A part of the framework and of the walks: T25 T26 T28 T27 V17. -/
import Derived.Below
import Derived.Test.YtaiffcbkmgfklaaGreatDoorGt16
import Derived.Test.YtaiffcbkmgfklaaGreatDoorGt24
import Derived.Test.YtaiffcbkmgfklaaGreatDoorGt29
import Derived.Test.YtaiffcbkmgfklaaGreatDoorGt23
set_option linter.unusedSimpArgs false
set_option linter.unusedVariables false
set_option linter.unusedSectionVars false

namespace Go.Gv
section
variable {P:Program} {im:List Nat} {E:ny} {S:Nat→Spc}
theorem wy {f:Nat} {fn:Func} {rs:List aK} {A:PT} (hce:eZ P f) {N:Nat} (hN:fn.ntmps=N) (hrs:fn.results.toList.mapM (eu P)=some rs) {V: (D→aa→Prop)→List D→aa→Prop}
 (hrun: ∀ (E:ny) (ds':List D) (H0:aa) (Q:D→aa→Prop) (vs:List Value) (w:World) (R:Ending→World→Prop),E.ds= []→E.N=N→vs.length=ds'.length→St E (d4 ds') H0 { tmps:=vs.toArray++Array.replicate (fn.ntmps -vs.toArray.size) undef,defers:= [] } w→V Q ds' H0→
   (∀ (a':Act) (w':World) (σ':Sg) (H':aa) (dl:List Deferred),St { E with ds:=dl } σ' H' a' w'→(j7 rs σ' H' fun ds=> Q (cE ds) H')→ ∃v,(results fn a'.tmps).run P w'= .ok v w'∧R (.returned v) w')→Calls P f vs.toArray w R)
 (hA: ∀ (ds:List D) (H:aa) (d:Nat) (K:D→aa→Prop),A d ds H K→ds.length≤N∧
   ∃ (ds':List D) (H0:aa) (ι:Nat→Nat),LeL ds ds'∧(∀i r,H0 i=some r→H (ι i)=some r)∧(∀i j r s,H0 i=some r→H0 j=some s→ι i=ι j→i=j)∧
    ∃Q:D→aa→Prop,V Q ds' H0∧ ∀r H',Q r H'→ ∃ (r':D) (Hf Hc:aa) (κ:Nat→Option Nat),FrzTo Hf r r'∧(∀j q,Hf j=some q→H' j=some q∧ ∀i,κ i≠some j)∧K r' Hc∧
     (∀i s,Hc i=some s→match κ i with | some j=> H' j=some s | none=> H i=some s∧ ∀k q,H0 k=some q→ι k≠i)∧
     (∀i j k s q,Hc i=some s→Hc j=some q→κ i=some k→κ j=some k→i=j)):Tri P f A:=by
 intro O tp w vs ds H d K hO htl hsat hlen hargs hAK
 refine⟨hce,?_⟩
 obtain⟨hdN,ds',H0,ι,hle,hsub,hinj,Q,hv,hQ⟩:=hA ds H d K hAK
 -- the callee's constants
 let passed:Nat→Prop:=fun i=> ∃k q,H0 k=some q∧ι k=i
 let rest:Nat→Prop:=fun b=> ∃i r,H i=some r∧ ¬passed i∧r.blk=some b
 let E:ny:= { O:=fun b=> O b∨rest b,tp0:=tp,w0:=w,own0:=eA H0,N:=N }
 have hownH0: ∀b,eA H0 b→eA H b:=fun b ⟨i,r,h1,h2⟩=> ⟨ι i,r,hsub i r h1,h2⟩
 have hrestlt: ∀b,rest b→b < w.heap.size:=fun b ⟨i,r,h1,_,h2⟩=> (hsat.ok i r h1).lt h2
 have hrestown: ∀b,rest b→ ¬eA H0 b:=fun b ⟨i,r,h1,h2,h3⟩ ⟨j,s,h4,h5⟩=> h2 ⟨j,s,h4,(hsat.dis i (ι j) r s b h1 (hsub j s h4) h3 h5).symm⟩
 have himm: ∀b,bW O tp H w b→bW E.O tp H0 w b:=fun b hb=> ⟨hb.1,fun h=> h.elim hb.2.1 (fun⟨i,r,h1,_,h2⟩=> hb.2.2.2 ⟨i,r,h1,h2⟩),hb.2.2.1,fun h=> hb.2.2.2 (hownH0 b h)⟩
 have hmove: ∀x e,R tp (bW O tp H w) w x e→R tp (bW E.O tp H0 w) w x e:=fun x e hr=> hr.mono (fun _ h=> h) (fun b hb=> ⟨himm b hb,rfl⟩) (fun b _=> .refl _ _)
 have hstw:StW E tp H0 w:=by
  refine⟨fun b hb=> hb.elim (hO b) (hrestlt b),fun b h=> h,fun b h=> .inl h,htl, .refl _ _ _,fun b hb=> .inl hb,⟨fun i j r s b h1 h2 h3 h4=> ?_,fun i r b h1 h2=> ⟨fun h=> ?_,?_⟩,fun i r h1=> ?_⟩⟩
  ·exact hinj i j r s h1 h2 (hsat.dis _ _ r s b (hsub i r h1) (hsub j s h2) h3 h4)
  ·rcases h with h | h
   ·exact(hsat.out _ r b (hsub i r h1) h2).1 h
   ·exact hrestown b h ⟨i,r,h1,h2⟩
  ·exact(hsat.out _ r b (hsub i r h1) h2).2
  ·exact(hsat.ok _ r (hsub i r h1)).conv hmove (fun _ _=> rfl)
 have hst:St E (d4 ds') H0 { tmps:=vs.toArray++Array.replicate (fn.ntmps -vs.toArray.size) undef,defers:= [] } w:=by
  refine⟨rfl,?_,tp,hstw,fun t=> ?_⟩
  ·show(vs.toArray++Array.replicate (fn.ntmps -vs.toArray.size) undef).size=N
   simp
   omega
  ·unfold d4
   cases hd:ds'[t]? with
   | none=> exact .any _
   | some e'=>
     have hlt:t < vs.length:=by rw[hlen,hle.1];exact(List.getElem?_eq_some_iff.1 hd).1
     have hlt':t < ds.length:=by rw[←hlen];exact hlt
     have hg: (vs.toArray++Array.replicate (fn.ntmps -vs.toArray.size) undef).getD t undef=vs[t]:=by
      rw[Array.getD_eq_getD_getElem?,Array.getElem?_append_left (by simpa using hlt)]
      simp[hlt]
     simp only[Option.getD_some,hg]
     have he:=List.getElem?_eq_getElem hlt'
     exact(hle.2 t _ e' he hd).R (H:=cu) (fun i r h=> by cases h) (fun _ h=> h) (fun i r b h=> by cases h) (hmove _ _ (hargs t _ _ (by simp[hlt]) he))
 -- at the end
 have fin: ∀ (a':Act) (w':World) (σ':Sg) (H':aa) (dl:List Deferred),St { E with ds:=dl } σ' H' a' w'→(j7 rs σ' H' fun ds=> Q (cE ds) H')→
  ∃v,(results fn a'.tmps).run P w'= .ok v w'∧M6 O tp H w K (.returned v) w':=by
  intro a' w' σ' H' dl hst' hres
  obtain⟨hd',hN',tp',hw0,hr0⟩:=hst'
  have hw':StW E tp' H' w':=⟨hw0.1,hw0.2,hw0.3,hw0.4,hw0.5,hw0.6,hw0.7⟩
  have hr': ∀t,R tp' (bW E.O tp' H' w') w' (a'.tmps.getD t undef) (σ' t):=hr0
  obtain⟨v,r0,hrun',hR,hq⟩:=mi (K:=fun r=> Q r H') hrs hr' hw'.sat.ok hres
  obtain⟨r,Hf,Hc,κ,hfz,hHf,hK,hκ,hκi⟩:=hQ r0 H' hq
  refine⟨v,hrun',v,r,Hc,tp',rfl,hK,hw'.tpx,hw'.tpn,hw'.tpl,?_,?_,?_,?_⟩
  ·-- the step
   have hs:=hw'.step
   exact⟨hs.os,hs.tape,hs.output,hs.size,fun b hb ho ht=> hs.same b hb (fun h=> ho (hownH0 b h)) ht,hs.tapes,hs.drawn⟩
  all_goals
   have hkn: ∀i s,Hc i=some s→(∃j,κ i=some j∧H' j=some s)∨(κ i=none∧H i=some s∧ ¬passed i):=fun i s hi=> by
    have:=hκ i s hi
    cases hk:κ i with
    | some j=> rw[hk] at this;exact .inl ⟨j,rfl,this⟩
    | none=> rw[hk] at this;exact .inr ⟨rfl,this.1,fun⟨k,q,h1,h2⟩=> this.2 k q h1 h2⟩
  ·intro b ⟨i,s,h1,h2⟩
   rcases hkn i s h1 with⟨j,_,h3⟩ | ⟨_,h3,_⟩
   ·rcases hw'.loc b ⟨j,s,h3,h2⟩ with h4 | h4
    ·exact .inl (hownH0 b h4)
    ·exact .inr h4
   ·exact .inl ⟨i,s,h3,h2⟩
  all_goals
   have hownc: ∀b,eA Hc b→eA H' b∨rest b:=fun b ⟨i,s,h1,h2⟩=> by
    rcases hkn i s h1 with⟨j,_,h3⟩ | ⟨_,h3,h4⟩
    ·exact .inl ⟨j,s,h3,h2⟩
    ·exact .inr ⟨i,s,h3,h4,h2⟩
   have himmc: ∀b,bW E.O tp' H' w' b→bW O tp' Hc w' b:=fun b hb=> ⟨hb.1,fun h=> hb.2.1 (.inl h),hb.2.2.1,fun h=> by
    rcases hownc b h with h | h
    ·exact hb.2.2.2 h
    ·exact hb.2.1 (.inr h)⟩
   have hmovec: ∀x e,R tp' (bW E.O tp' H' w') w' x e→R tp' (bW O tp' Hc w') w' x e:=fun x e hr=> hr.mono (fun _ h=> h) (fun b hb=> ⟨himmc b hb,rfl⟩) (fun b _=> .refl _ _)
  ·refine⟨fun i j s q b h1 h2 h3 h4=> ?_,fun i s b h1 h2=> ?_,fun i s h1=> ?_⟩
   ·rcases hkn i s h1 with⟨i',e1,k1⟩ | ⟨e1,k1,p1⟩
    ·rcases hkn j q h2 with⟨j',e2,k2⟩ | ⟨e2,k2,p2⟩
     ·have:=hw'.sat.dis i' j' s q b k1 k2 h3 h4
      subst this
      exact hκi i j i' s q h1 h2 e1 e2
     ·exact absurd (Or.inr ⟨j,q,k2,p2,h4⟩) (hw'.sat.out i' s b k1 h3).1
    ·rcases hkn j q h2 with⟨j',e2,k2⟩ | ⟨e2,k2,p2⟩
     ·exact absurd (Or.inr ⟨i,s,k1,p1,h3⟩) (hw'.sat.out j' q b k2 h4).1
     ·exact hsat.dis i j s q b k1 k2 h3 h4
   ·rcases hkn i s h1 with⟨i',e1,k1⟩ | ⟨e1,k1,p1⟩
    ·have:=hw'.sat.out i' s b k1 h2
     exact⟨fun h=> this.1 (.inl h),this.2⟩
    ·have h3:=hsat.out i s b k1 h2
     refine⟨h3.1,fun h=> ?_⟩
     rcases hw'.tpn b h with h4 | h4
     ·exact h3.2 h4
     ·have:=(hsat.ok i s k1).lt h2
      have h4':w.heap.size≤b:=h4
      omega
   ·rcases hkn i s h1 with⟨i',e1,k1⟩ | ⟨e1,k1,p1⟩
    ·exact(hw'.sat.ok i' s k1).conv hmovec (fun _ _=> rfl)
    ·-- a resource that was not handed in is as it was
     have hs:=hw'.step
     have hsame: ∀b,b < w.heap.size→ ¬eA H0 b→ ¬tp b→w'.heap[b]?=w.heap[b]?:=hs.same
     refine(hsat.ok i s k1).conv (fun x e hr=> ?_) (fun b hb=> hsame b ((hsat.ok i s k1).lt hb) (hrestown b ⟨i,s,k1,p1,hb⟩) (hsat.out i s b k1 hb).2)
     refine hr.mono hw'.tpx (fun b hb=> ?_) hs.tapes
     have h0: ¬eA H0 b:=fun h=> hb.2.2.2 (hownH0 b h)
     have hsz:w.heap.size≤w'.heap.size:=hs.size
     have hbl:b < w.heap.size:=hb.1
     refine⟨⟨by omega,hb.2.1,fun h=> ?_,fun h=> ?_⟩,hsame b hb.1 h0 hb.2.2.1⟩
     ·rcases hw'.tpn b h with h4 | h4
      ·exact hb.2.2.1 h4
      ·have h4':w.heap.size≤b:=h4
       omega
     ·rcases hownc b h with h | h
      ·rcases hw'.loc b h with h4 | h4
       ·exact h0 h4
       ·have h4':w.heap.size≤b:=h4
        omega
      ·obtain⟨j,q,h5,_,h6⟩:=h
       exact hb.2.2.2 ⟨j,q,h5,h6⟩
  ·refine hfz.R (H:=cu) (fun i q hi=> hw'.sat.ok i q (hHf i q hi).1) himmc (fun i q b hi hb=> ?_) hR
   obtain⟨hi',hne⟩:=hHf i q hi
   have ho:=hw'.sat.out i q b hi' hb
   refine⟨(hw'.sat.ok i q hi').lt hb,fun h=> ho.1 (.inl h),ho.2,fun⟨j,s,h1,h2⟩=> ?_⟩
   rcases hkn j s h1 with⟨j',e1,k1⟩ | ⟨e1,k1,p1⟩
   ·have:=hw'.sat.dis i j' q s b hi' k1 hb h2
    subst this
    exact hne j e1
   ·exact ho.1 (.inr ⟨j,s,k1,p1,h2⟩)
 exact hrun E ds' H0 Q vs w _ rfl rfl (by rw[hlen,hle.1]) hst hv fin
theorem Ue {f:Nat} {fn:Func} {rs:List aK} {X Y:Type} {A:jL X} {pre:X→Prop} {er:Y→D} {post:X→Y→Prop} (hce:eZ P f) {N:Nat} (hN:fn.ntmps=N) (hrs:fn.results.toList.mapM (eu P)=some rs)
 (hAN: ∀x,(A.view x).length≤N) {V: (D→aa→Prop)→List D→aa→Prop}
 (hrun: ∀ (E:ny) (ds':List D) (H0:aa) (Q:D→aa→Prop) (vs:List Value) (w:World) (R:Ending→World→Prop),E.ds= []→E.N=N→vs.length=ds'.length→St E (d4 ds') H0 { tmps:=vs.toArray++Array.replicate (fn.ntmps -vs.toArray.size) undef,defers:= [] } w→V Q ds' H0→
   (∀ (a':Act) (w':World) (σ':Sg) (H':aa) (dl:List Deferred),St { E with ds:=dl } σ' H' a' w'→(j7 rs σ' H' fun ds=> Q (cE ds) H')→ ∃v,(results fn a'.tmps).run P w'= .ok v w'∧R (.returned v) w')→Calls P f vs.toArray w R)
 (hw: ∀x,pre x→V (fun r H'=> Fin er (post x) r H') (A.view x) cu):Tri P f (dt A pre er post).pt:=by
 refine wy hce hN hrs hrun ?_
 intro ds H d K hA
 rw[rb] at hA
 cases hd:A.dec ds with
 | none=> rw[hd] at hA;exact hA.elim
 | some x=>
   rw[hd] at hA
   obtain⟨hp,hK⟩:=hA
   have hl:=A.le ds x hd
   refine⟨by rw[hl.1];exact hAN x,A.view x,cu,id,hl,fun i r h=> by simp[cu] at h,fun i j r s h=> by simp[cu] at h,_,hw x hp,?_⟩
   rintro r H' ⟨y,hf,hpost⟩
   exact⟨er y,H',H,fun _=> none,hf,fun j q h=> ⟨h,fun i=> by simp⟩,hK y hpost,fun i s hi=> ⟨hi,fun k q h=> by simp[cu] at h⟩,fun i j k s q _ _ h=> by cases h⟩
end
end Go.Gv

namespace Go.Gv
open Cod (enc dec)
section
variable {X Y Z:Type}
def Of (M:Nat→X→Res) (B:tc X) (er:Y→D) (b:Nat) (post:X→Y→Prop) (r:D) (H:aa):Prop:= ∃x y,FrzTo (fun i=> if i=0∨i∈B.ids then none else H i) r (er y)∧H 0=some (M b x)∧(∀p∈B.hp x,H p.1=some p.2)∧post x y
def ZZ (M:Nat→X→Res) (B:Nat→tc X) (A:jL Z) (er:Y→D) (pre:X→Z→Prop) (post:X→Z→X→Y→Prop):PT:=fun d ds H K=> ∃id b x z ds',ds= .bptr id b 0::ds'∧A.dec ds'=some z∧H id=some (M b x)∧(∀p∈ (B b).hp x,H p.1=some p.2)∧id∉ (B b).ids∧pre x z∧
 ∀x' y,post x z x' y→K (er y) (ak (fX ((B b).hp x') H) id (some (M b x')))
theorem Vf (M:Nat→X→Res) (B:Nat→tc X) (A:jL Z) (er:Y→D) (pre:X→Z→Prop) (post:X→Z→X→Y→Prop):sp (ZZ M B A er pre post):=fun d ds H K K' hk ⟨id,b,x,z,ds',h1,h2,h3,h4,h5,h6,h7⟩=> ⟨id,b,x,z,ds',h1,h2,h3,h4,h5,h6,fun x' y hp=> hk _ _ (h7 x' y hp)⟩
def qfi (M:Nat→X→Res) (B:Nat→tc X) (A:jL Z) (er:Y→D) (pre:X→Z→Prop) (post:X→Z→X→Y→Prop):Spc:= .gen _ (Vf M B A er pre post)
theorem N1 {M:Nat→X→Res} {B:Nat→tc X} {A:jL Z} {er:Y→D} {pre:X→Z→Prop} {post:X→Z→X→Y→Prop} {N:Nat} (h1i: ∀b,0∉ (B b).ids) (hN: ∀z,(A.view z).length+1≤N) {V: (D→aa→Prop)→List D→aa→Prop}
 (hw: ∀b x z,pre x z→V (fun r H'=> Of M (B b) er b (post x z) r H') (.bptr 0 b 0::A.view z) (ak (fX ((B b).hp x) cu) 0 (some (M b x)))):
 ∀ (ds:List D) (H:aa) (d:Nat) (K:D→aa→Prop),ZZ M B A er pre post d ds H K→ds.length≤N∧
  ∃ (ds':List D) (H0:aa) (ι:Nat→Nat),LeL ds ds'∧(∀i r,H0 i=some r→H (ι i)=some r)∧(∀i j r s,H0 i=some r→H0 j=some s→ι i=ι j→i=j)∧
   ∃Q:D→aa→Prop,V Q ds' H0∧ ∀r H',Q r H'→ ∃ (r':D) (Hf Hc:aa) (κ:Nat→Option Nat),FrzTo Hf r r'∧(∀j q,Hf j=some q→H' j=some q∧ ∀i,κ i≠some j)∧K r' Hc∧
    (∀i s,Hc i=some s→match κ i with | some j=> H' j=some s | none=> H i=some s∧ ∀k q,H0 k=some q→ι k≠i)∧
    (∀i j k s q,Hc i=some s→Hc j=some q→κ i=some k→κ j=some k→i=j):=by
 rintro ds H d K ⟨id,b,x,z,ds',rfl,hd,hid,hhp,hni,hp,hK⟩
 have hl:=A.le ds' z hd
 have h0: ∀i r,ak (fX ((B b).hp x) cu) 0 (some (M b x)) i=some r→i=0∧r=M b x∨i≠0∧(i,r) ∈ (B b).hp x:=by
  intro i r h
  by_cases e:i=0
  ·subst e
   simp only[ak,if_true] at h
   cases h
   exact .inl ⟨rfl,rfl⟩
  ·simp only[ak,e,if_false] at h
   exact .inr ⟨e,yO h⟩
 have hk: ∀ {x:X} {i:Nat} {r:Res},(i,r) ∈ (B b).hp x→i∈ (B b).ids:=by
  intro x i r h
  rw[← (B b).keys x]
  exact List.mem_map.2 ⟨_,h,rfl⟩
 refine⟨by simp only[List.length_cons];rw[hl.1];exact hN z, .bptr 0 b 0::A.view z,ak (fX ((B b).hp x) cu) 0 (some (M b x)),fun i=> if i=0 then id else i, .cons (.bptr _ _ _ _) hl,fun i r h=> ?_,fun i j r s h h' e=> ?_,_,hw b x z hp,?_⟩
 ·rcases h0 i r h with⟨rfl,rfl⟩ | ⟨e,hm⟩
  ·exact hid
  ·simp only[e,if_false]
   exact hhp _ hm
 ·rcases h0 i r h with⟨rfl,rfl⟩ | ⟨e1,hm⟩
  ·rcases h0 j s h' with⟨rfl,rfl⟩ | ⟨e2,hm2⟩
   ·rfl
   ·simp only[e2,if_true,if_false] at e
    subst e
    exact absurd (hk hm2) hni
  ·rcases h0 j s h' with⟨rfl,rfl⟩ | ⟨e2,hm2⟩
   ·simp only[e1,if_true,if_false] at e
    subst e
    exact absurd (hk hm) hni
   ·simpa only[e1,e2,if_false] using e
 ·rintro r H' ⟨x',y,hfr,hj,hhp',hpost⟩
  refine⟨er y,fun i=> if i=0∨i∈ (B b).ids then none else H' i,ak (fX ((B b).hp x') H) id (some (M b x')),fun i=> if i=id then some 0 else if i∈ (B b).ids then some i else none,hfr,fun j q h=> ?_,hK x' y hpost,fun i s hi=> ?_,fun i j' k s q hi hj' e1 e2=> ?_⟩
  ·by_cases e:j=0∨j∈ (B b).ids
   ·simp[e] at h
   ·simp only[e,if_false] at h
    refine⟨h,fun i hh=> e ?_⟩
    by_cases e1:i=id
    ·simp only[e1,if_true] at hh
     cases hh
     exact .inl rfl
    ·simp only[e1,if_false] at hh
     by_cases e2:i∈ (B b).ids
     ·simp only[e2,if_true] at hh
      cases hh
      exact .inr e2
     ·simp[e2] at hh
  ·by_cases e:i=id
   ·subst e
    simp only[ak,if_true] at hi
    cases hi
    simpa using hj
   ·simp only[ak,e,if_false] at hi ⊢
    by_cases e2:i∈ (B b).ids
    ·simp only[e2,if_true]
     exact hhp' _ (yP (by rw[(B b).keys];exact e2) hi)
    ·simp only[e2,if_false]
     rw[yN (by rw[(B b).keys];exact e2)] at hi
     refine⟨hi,fun k q h he=> ?_⟩
     rcases h0 k q h with⟨rfl,rfl⟩ | ⟨e3,hm⟩
     ·simp only[if_true] at he
      exact e he.symm
     ·simp only[e3,if_false] at he
      subst he
      exact e2 (hk hm)
  ·by_cases c1:i=id
   ·by_cases c2:j'=id
    ·exact c1.trans c2.symm
    ·simp only[c1,if_true] at e1
     cases e1
     simp only[c2,if_false] at e2
     by_cases c3:j'∈ (B b).ids
     ·simp only[c3,if_true] at e2
      cases e2
      exact absurd c3 (h1i b)
     ·simp[c3] at e2
   ·simp only[c1,if_false] at e1
    by_cases c3:i∈ (B b).ids
    ·simp only[c3,if_true] at e1
     cases e1
     by_cases c2:j'=id
     ·simp only[c2,if_true] at e2
      cases e2
      exact absurd c3 (h1i b)
     ·simp only[c2,if_false] at e2
      by_cases c4:j'∈ (B b).ids
      ·simp only[c4,if_true] at e2
       cases e2
       rfl
      ·simp[c4] at e2
    ·simp[c3] at e1
variable {P:Program} {S:Nat→Spc} {f:Nat} {im:List Nat} {cc:CC} {rs:List aK} {N:Nat}
def XM (cc:CC) (rs:List aK) (S:Nat→Spc) (M:Nat→X→Res) (B:Nat→tc X) (A:jL Z) (er:Y→D) (pre:X→Z→Prop) (post:X→Z→X→Y→Prop):Prop:=
 ∀b x z,pre x z→vc S cc (tO rs fun r H'=> Of M (B b) er b (post x z) r H') (d4 (.bptr 0 b 0::A.view z)) (ak (fX ((B b).hp x) cu) 0 (some (M b x)))
theorem LQ {M:Nat→X→Res} {B:Nat→tc X} {A:jL Z} {er:Y→D} {pre:X→Z→Prop} {post:X→Z→X→Y→Prop} (h1i: ∀b,0∉ (B b).ids) (hS: ∀f,Tri P f (S f).pt) (h:aS P f im cc rs N) (hN: ∀z,(A.view z).length+1≤N) (hw:XM cc rs S M B A er pre post):Tri P f (qfi M B A er pre post).pt:=by
 obtain⟨BU,enter,fn,code,h1,h2,h3,h4,h5⟩:=h
 exact lI hS BU h1 h2 enter h3 h4 h5 (N1 h1i hN (V:=fun Q ds H=> vc S cc (tO rs Q) (d4 ds) H) hw)
theorem OH {fn:Func} {M:Nat→X→Res} {B:Nat→tc X} {A:jL Z} {er:Y→D} {pre:X→Z→Prop} {post:X→Z→X→Y→Prop} (h1i: ∀b,0∉ (B b).ids) (hce:eZ P f) (hN':fn.ntmps=N) (hrs:fn.results.toList.mapM (eu P)=some rs) (hN: ∀z,(A.view z).length+1≤N)
 {V: (D→aa→Prop)→List D→aa→Prop}
 (hrun: ∀ (E:ny) (ds':List D) (H0:aa) (Q:D→aa→Prop) (vs:List Value) (w:World) (R:Ending→World→Prop),E.ds= []→E.N=N→vs.length=ds'.length→St E (d4 ds') H0 { tmps:=vs.toArray++Array.replicate (fn.ntmps -vs.toArray.size) undef,defers:= [] } w→V Q ds' H0→
   (∀ (a':Act) (w':World) (σ':Sg) (H':aa) (dl:List Deferred),St { E with ds:=dl } σ' H' a' w'→(j7 rs σ' H' fun ds=> Q (cE ds) H')→ ∃v,(results fn a'.tmps).run P w'= .ok v w'∧R (.returned v) w')→Calls P f vs.toArray w R)
 (hw: ∀b x z,pre x z→V (fun r H'=> Of M (B b) er b (post x z) r H') (.bptr 0 b 0::A.view z) (ak (fX ((B b).hp x) cu) 0 (some (M b x)))):Tri P f (qfi M B A er pre post).pt:=
 wy hce hN' hrs hrun (N1 h1i hN hw)
end
theorem zA {σ:Sg} {H:aa} : ∀ {rs:List aK} {F G:List D→Prop},(∀ds,F ds→G ds)→j7 rs σ H F→j7 rs σ H G
 | [],F,G,hFG,h=> hFG _ h
 | .tmp t::rs,F,G,hFG,h=> zA (rs:=rs) (fun ds h=> hFG _ h) h
 | .cell t agg sz::rs,F,G,hFG,h=> tP (fun d h=> zA (rs:=rs) (fun ds h=> hFG _ h) h) h
structure Ys where
 u:Bool
 v:Value
 s:ByteArray
def pv (b:Nat) (u:Bool):Value:= .pointer (if u then some ⟨b,0,none⟩ else none)
def bD (s:ByteArray):List D:=s.data.toList.map fun c=> .v (.int .u8 c.toNat)
def qai (el:Nat) (b:Nat):tc Ys:=⟨[900],fun x=> [.v (pv b x.u), .own 900 x.v],fun x=> [(900, .row x.v el 1 (bD x.s))],fun _=> rfl⟩
@[simp] theorem qah (el b:Nat): (qai el b).ids= [900]:=id rfl
@[simp] theorem Qh (el b:Nat) (x:Ys): (qai el b).hp x= [(900, .row x.v el 1 (bD x.s))]:=id rfl
theorem Wj {a b:UInt8} (h: (a.toNat:Int)=b.toNat):a=b:=UInt8.toNat_inj.1 (by omega)
theorem XK {s t:ByteArray} (h:bD s=bD t):s=t:=by
 obtain⟨⟨s⟩⟩:=s
 obtain⟨⟨t⟩⟩:=t
 simp only[bD] at h
 have:s=t:=by
  induction s generalizing t with
  | nil=> cases t with
    | nil=> rfl
    | cons b t=> simp at h
  | cons a s ih=> cases t with
    | nil=> simp at h
    | cons b t=>
      simp only[List.map_cons,List.cons.injEq,D.v.injEq,Value.int.injEq,true_and] at h
      rw[Wj h.1,ih t h.2]
 rw[this]
def qce (el b:Nat) (x:Ys):Res:= .tbox el b [.v (pv b x.u), .own 900 x.v]
@[simp] theorem Qg (el b:Nat) (x:Ys):qce el b x= .tbox el b [.v (pv b x.u), .own 900 x.v]:=id rfl
def o9:Nat:=1000000
section
variable {Z:Type}
def TK (tw el:Nat) (A:jL Z) (r:D) (T:Z→Option ByteArray):Spc:=qfi (Y:=Unit) (qce tw) (qai el) A (fun _=> r) (fun x z=> ∃t,T z=some t∧x.s.size+t.size≤o9) (fun x z x' _=> ∃t,T z=some t∧x'.s=x.s++t)
def Wa (tw el:Nat) (r:D) (T:Z→Option ByteArray) (i b:Nat) (q q9:Option Res) (o:Option Z) (H:aa) (K:D→aa→Prop):Prop:=
 ∃x:Ys,q=some (.tbox tw b [.v (pv b x.u), .own 900 x.v])∧q9=some (.row x.v el 1 (bD x.s))∧i≠900∧lc o fun z=> lc (T z) fun t=> x.s.size+t.size≤o9∧ ∀u v,K r (ak (ak H 900 (some (.row v el 1 (bD (x.s++t))))) i (some (.tbox tw b [.v (pv b u), .own 900 v])))
@[congr] theorem qcf {tw el:Nat} {r:D} {T:Z→Option ByteArray} {i b:Nat} {q q' q9 q9':Option Res} {o o':Option Z} {H:aa} {K:D→aa→Prop} (h1:q=q') (h2:q9=q9') (h3:o=o'):Wa tw el r T i b q q9 o H K=Wa tw el r T i b q' q9' o' H K:=by subst h1;subst h2;subst h3;rfl
theorem Ll (i:Nat) (r:Res) (H:aa):fX [(i,r)] H=ak H i (some r):=rfl
@[simp] theorem qcg (tw el:Nat) (A:jL Z) (r:D) (T:Z→Option ByteArray) (d i b:Nat) (ds:List D) (H:aa) (K:D→aa→Prop): (TK tw el A r T).pt d (.bptr i b 0::ds) H K=Wa tw el r T i b (H i) (H 900) (A.dec ds) H K:=by
 refine propext ⟨fun h=> ?_,fun h=> ?_⟩
 ·obtain⟨id,b',x,z,ds',h1,h2,h3,h4,h5,⟨t,h6,h7⟩,h8⟩:=h
  cases h1
  refine⟨x,h3,h4 (900,_) (by simp),by simpa using h5,?_⟩
  rw[h2]
  show lc (T z) _
  rw[h6]
  refine⟨h7,fun u v=> ?_⟩
  have:=h8 ⟨u,v,x.s++t⟩ () ⟨t,h6,rfl⟩
  simpa only[Qh,Qg,Ll] using this
 ·obtain⟨x,h1,h2,h3,h4⟩:=h
  cases hz:A.dec ds with
  | none=> rw[hz] at h4;exact h4.elim
  | some z=>
    rw[hz] at h4
    have h4:lc (T z) _:=h4
    cases ht:T z with
    | none=> rw[ht] at h4;exact h4.elim
    | some t=>
      rw[ht] at h4
      refine⟨i,b,x,z,ds,rfl,hz,h1,fun p hp=> ?_,by simpa using h3,⟨t,ht,h4.1⟩,fun x' y hq=> ?_⟩
      ·simp at hp
       subst hp
       exact h2
      ·obtain⟨t',h5,h6⟩:=hq
       rw[ht] at h5
       cases h5
       have:=h4.2 x'.u x'.v
       rw[←h6] at this
       simpa only[Qh,Qg,Ll] using this
@[simp] theorem qfK (tw el:Nat) (r:D) (T:Z→Option ByteArray) (i b:Nat) (u:Bool) (v:Value) (s:ByteArray) (o:Option Z) (H:aa) (K:D→aa→Prop):
 Wa tw el r T i b (some (.tbox tw b [.v (pv b u), .own 900 v])) (some (.row v el 1 (bD s))) o H K=(i≠900∧lc o fun z=> lc (T z) fun t=> s.size+t.size≤o9∧ ∀u v,K r (ak (ak H 900 (some (.row v el 1 (bD (s++t))))) i (some (.tbox tw b [.v (pv b u), .own 900 v])))):=by
 refine propext ⟨fun⟨x,h1,h2,h3,h4⟩=> ?_,fun h=> ⟨⟨u,v,s⟩,rfl,rfl,h⟩⟩
 simp only[Option.some.injEq,Res.row.injEq,true_and] at h2
 have:=XK h2.2
 subst this
 exact⟨h3,h4⟩
def XV (tw el b:Nat) (s:ByteArray) (r:D) (d:D) (H:aa):Prop:= ∃u v,FrzTo cu d r∧H 0=some (.tbox tw b [.v (pv b u), .own 900 v])∧H 900=some (.row v el 1 (bD s))
def Hd (cc:CC) (rs:List aK) (S:Nat→Spc) (tw el:Nat) (A:jL Z) (r:D) (T:Z→Option ByteArray):Prop:=
 ∀b u v s z t,T z=some t→s.size+t.size≤o9→vc S cc (tO rs fun d H'=> XV tw el b (s++t) r d H') (d4 (.bptr 0 b 0::A.view z)) (ak (ak cu 900 (some (.row v el 1 (bD s)))) 0 (some (.tbox tw b [.v (pv b u), .own 900 v])))
theorem qez {H:aa} {d e:D} (h:FrzTo cu d e):FrzTo H d e:=by
 induction h with
 | same d=> exact .same d
 | any d=> exact .any d
 | nil n=> exact .nil n
 | own i j x=> exact .own i j x
 | nilown j=> exact .nilown j
 | bptr i j b off=> exact .bptr i j b off
 | row h=> cases h
 | sub h=> cases h
 | list hl hk _ ih=> exact .list hl hk ih
 | box h=> cases h
 | agg hl _ ih=> exact .agg hl ih
 | tup hl _ ih=> exact .tup hl ih
variable {P:Program} {S:Nat→Spc} {f:Nat} {im:List Nat} {cc:CC} {rs:List aK} {N:Nat}
theorem UY {tw el b:Nat} {s t:ByteArray} {r d:D} {H:aa} {z:Z} {T:Z→Option ByteArray} (ht:T z=some t) (h:XV tw el b (s++t) r d H):Of (Y:=Unit) (qce tw) (qai el b) (fun _=> r) b (fun x' _=> ∃t,T z=some t∧x'.s=s++t) d H:=by
 obtain⟨u,v,h1,h2,h3⟩:=h
 exact⟨⟨u,v,s++t⟩,(),qez h1,h2,fun p hp=> by simp at hp;subst hp;exact h3,t,ht,rfl⟩
theorem qo {tw el:Nat} {A:jL Z} {r:D} {T:Z→Option ByteArray} (hS: ∀f,Tri P f (S f).pt) (h:aS P f im cc rs N) (hN: ∀z,(A.view z).length+1≤N) (hw:Hd cc rs S tw el A r T):Tri P f (TK tw el A r T).pt:=by
 refine LQ (by simp) hS h hN ?_
 rintro b ⟨u,v,s⟩ z ⟨t,ht,hl⟩
 refine pq cc _ _ (fun e σ H h=> ?_) (hw b u v s z t ht hl)
 cases e with
 | ex i=> exact h
 | _=>
   simp only[tO] at h ⊢
   exact zA (fun ds h=> UY ht h) h
end
end Go.Gv

namespace Go.Gv
open Cod (enc dec)
section
variable {tw el:Nat}
def qet (tw el:Nat) (G:Nat→Nat→List D→Option ByteArray) (r:D):PT:=fun d ds H K=> ∃ (id b:Nat) (x:Ys) (t:ByteArray),G id b ds=some t∧H id=some (.tbox tw b [.v (pv b x.u), .own 900 x.v])∧H 900=some (.row x.v el 1 (bD x.s))∧id≠900∧x.s.size+t.size≤o9∧
 ∀u v,K r (ak (ak H 900 (some (.row v el 1 (bD (x.s++t))))) id (some (.tbox tw b [.v (pv b u), .own 900 v])))
theorem UO (tw el:Nat) (G:Nat→Nat→List D→Option ByteArray) (r:D):sp (qet tw el G r):=fun d ds H K K' hk ⟨id,b,x,t,h1,h2,h3,h4,h5,h6⟩=> ⟨id,b,x,t,h1,h2,h3,h4,h5,fun u v=> hk _ _ (h6 u v)⟩
def qbk (tw el:Nat) (G:Nat→Nat→List D→Option ByteArray) (r:D):Spc:= .gen _ (UO tw el G r)
def qag (tw el id b:Nat) (s:ByteArray) (r d:D) (H:aa):Prop:= ∃u v,FrzTo cu d r∧H id=some (.tbox tw b [.v (pv b u), .own 900 v])∧H 900=some (.row v el 1 (bD s))
def Th (cc:CC) (rs:List aK) (S:Nat→Spc) (tw el:Nat) (G:Nat→Nat→List D→Option ByteArray) (r:D):Prop:=
 ∀id b u v s ds t,id≠900→G id b ds=some t→s.size+t.size≤o9→vc S cc (tO rs fun d H'=> qag tw el id b (s++t) r d H') (d4 ds) (ak (ak cu 900 (some (.row v el 1 (bD s)))) id (some (.tbox tw b [.v (pv b u), .own 900 v])))
variable {P:Program} {S:Nat→Spc} {f:Nat} {im:List Nat} {cc:CC} {rs:List aK} {N:Nat}
theorem LeL.refl (ds:List D):LeL ds ds:=⟨rfl,fun k d d' h h'=> by rw[h] at h';cases h';exact .same _⟩
theorem Gl {G:Nat→Nat→List D→Option ByteArray} {r:D} (hS: ∀f,Tri P f (S f).pt) (h:aS P f im cc rs N) (hN: ∀id b ds t,G id b ds=some t→ds.length≤N) (hw:Th cc rs S tw el G r):Tri P f (qbk tw el G r).pt:=by
 obtain⟨BU,enter,fn,code,h1,h2,h3,h4,h5⟩:=h
 refine lI hS BU h1 h2 enter h3 h4 h5 ?_
 rintro ds H d K ⟨id,b,⟨u,v,s⟩,t,g1,g2,g3,g4,g5,g6⟩
 simp only at g2 g3 g5 g6
 have hH0: ∀i q,ak (ak cu 900 (some (.row v el 1 (bD s)))) id (some (.tbox tw b [.v (pv b u), .own 900 v])) i=some q→(i=id∧q= .tbox tw b [.v (pv b u), .own 900 v])∨(i=900∧q= .row v el 1 (bD s)):=by
  intro i q h
  by_cases e:i=id
  ·subst e
   simp only[ak,if_true] at h
   cases h
   exact .inl ⟨rfl,rfl⟩
  ·by_cases e9:i=900
   ·subst e9
    simp[ak,e] at h
    exact .inr ⟨rfl,h.symm⟩
   ·simp[ak,e,e9,cu] at h
 refine⟨hN id b ds t g1,ds,ak (ak cu 900 (some (.row v el 1 (bD s)))) id (some (.tbox tw b [.v (pv b u), .own 900 v])),fun i=> i,LeL.refl ds,fun i q h=> ?_,fun i j q q' _ _ e=> e,_,hw id b u v s ds t g4 g1 g5,?_⟩
 ·rcases hH0 i q h with⟨rfl,rfl⟩ | ⟨rfl,rfl⟩
  ·exact g2
  ·exact g3
 ·rintro d' H' ⟨u',v',k1,k2,k3⟩
  refine⟨r,cu,ak (ak H 900 (some (.row v' el 1 (bD (s++t))))) id (some (.tbox tw b [.v (pv b u'), .own 900 v'])),fun i=> if i=id then some id else if i=900 then some 900 else none,k1,fun j q h=> by simp[cu] at h,g6 u' v',fun i q hi=> ?_,fun i j k q q' hi hj e1 e2=> ?_⟩
  ·by_cases e:i=id
   ·subst e
    simp only[ak,if_true] at hi ⊢
    cases hi
    exact k2
   ·by_cases e9:i=900
    ·subst e9
     simp[ak,e] at hi ⊢
     subst hi
     exact k3
    ·simp only[ak,e,e9,if_false] at hi ⊢
     refine⟨hi,fun k q hk he=> ?_⟩
     rcases hH0 k q hk with⟨rfl,rfl⟩ | ⟨rfl,rfl⟩
     ·exact e he.symm
     ·exact e9 he.symm
  ·by_cases c1:i=id
   ·by_cases c2:j=id
    ·exact c1.trans c2.symm
    ·simp only[c1,if_true] at e1
     cases e1
     simp only[c2,if_false] at e2
     by_cases c3:j=900
     ·simp[c3] at e2
      exact absurd e2.symm g4
     ·simp[c3] at e2
   ·simp only[c1,if_false] at e1
    by_cases c3:i=900
    ·simp only[c3,if_true] at e1
     cases e1
     by_cases c2:j=id
     ·simp[c2] at e2
      exact absurd e2 g4
     ·simp only[c2,if_false] at e2
      by_cases c4:j=900
      ·exact c3.trans c4.symm
      ·simp[c4] at e2
    ·simp[c3] at e1
theorem NE {G:Nat→Nat→List D→Option ByteArray} {r:D} {i b d:Nat} {ds:List D} {H:aa} {K:D→aa→Prop} (h:Wa tw el r (fun t:ByteArray=> some t) i b (H i) (H 900) (G i b ds) H K): (qbk tw el G r).pt d ds H K:=by
 obtain⟨x,h1,h2,h3,h4⟩:=h
 cases hg:G i b ds with
 | none=> rw[hg] at h4;exact h4.elim
 | some t=>
   rw[hg] at h4
   have h4:x.s.size+t.size≤o9∧_:=h4
   exact⟨i,b,x,t,hg,h1,h2,h3,h4.1,h4.2⟩
end
end Go.Gv

namespace Go.Gv
open Go.RowKit
open Cod (enc dec)
theorem Gm {P:Program} {f:Nat} {X Y:Type} {A:jL X} {pre:X→Prop} {er:Y→D} {post:X→Y→Prop} (hce:eZ P f)
 (h: ∀ (tp I:Nat→Prop) (w:World) (vs:List Value) (x:X),pre x→(∀b,I b→b < w.heap.size)→vs.length=(A.view x).length→
   (∀ (k:Nat) (v:Value) (d:D),vs[k]?=some v→(A.view x)[k]?=some d→R tp I w v d)→
   Calls P f vs.toArray w fun e w'=> ∃v y,e= .returned v∧post x y∧(∀tp' I',R tp' I' w' v (er y))∧Below w.heap.size w w'∧w.drawn≤w'.drawn):Tri P f (dt A pre er post).pt:=by
 intro O tp w vs ds H d K hO htl hsat hlen hargs hA
 rw[rb] at hA
 cases hd:A.dec ds with
 | none=> rw[hd] at hA;exact hA.elim
 | some x=>
   rw[hd] at hA
   obtain⟨hp,hK⟩:=hA
   have hle:=A.le ds x hd
   refine⟨hce,(h tp (bW O tp H w) w vs x hp (fun b hb=> hb.1) (by rw[hlen,hle.1]) (fun k v d h1 h2=> ?_)).mono ?_⟩
   ·have hlt:k < ds.length:=by rw[←hlen];exact(List.getElem?_eq_some_iff.1 h1).1
    have he:=List.getElem?_eq_getElem hlt
    exact(hle.2 k _ d he h2).R (H:=cu) (fun i r h=> by cases h) (fun _ h=> h) (fun i r b h=> by cases h) (hargs k _ _ h1 he)
   ·rintro e w' ⟨v,y,rfl,hy,hR,hb,hdr⟩
    have hmove: ∀y e,R tp (bW O tp H w) w y e→R tp (bW O tp H w') w' y e:=fun y e hr=>
     hr.mono (fun _ h=> h) (fun b hb'=> ⟨⟨Nat.lt_of_lt_of_le hb'.1 hb.size,hb'.2⟩,hb.block b hb'.1⟩) (fun b hb'=> .same (hb.block b (htl b hb')))
    exact⟨v,er y,H,tp,rfl,hK y hy,fun _ h=> h,fun _ h=> .inl h,fun b h=> Nat.lt_of_lt_of_le (htl b h) hb.size,
     ⟨hb.os,hb.tape,hb.output,hb.size,fun b h1 _ _=> hb.block b h1,fun b h=> .same (hb.block b (htl b h)),hdr⟩,fun _ h=> .inl h,
     ⟨hsat.dis,hsat.out,fun i r h1=> (hsat.ok i r h1).conv hmove fun b h2=> hb.block b ((hsat.ok i r h1).lt h2)⟩,hR _ _⟩
theorem Nf {tp I:Nat→Prop} {w:World} {x y:Value} (h:R tp I w x (.v y)):x=y:=by cases h;rfl
end Go.Gv

namespace Go.Gv
theorem Ri {s x:B} {j:Nat} (h:j≤s.size):gF (s.extract j s.size) 0 x=gF s j x:=by
 unfold gF
 rw[Bool.eq_iff_iff,decide_eq_true_eq,decide_eq_true_eq,Nat.zero_add,ByteArray.size_extract]
 refine⟨fun⟨h1,h2⟩=> ⟨by omega,?_⟩,fun⟨h1,h2⟩=> ⟨by omega,?_⟩⟩
 ·rw[ByteArray.extract_extract,show min (j+x.size) s.size=j+x.size by omega,Nat.add_zero] at h2
  exact h2
 ·rw[ByteArray.extract_extract]
  rw[show min (j+x.size) s.size=j+x.size by omega,Nat.add_zero]
  exact h2
def twoL:List B:= [⟨#[60,47]⟩,⟨#[33,61]⟩,⟨#[58,58]⟩,⟨#[37,99]⟩]
def oneS:B:=⟨#[91,93,40,41,123,125,60,62,124,38,33,61,58,46,44,63,42,43,45]⟩
theorem JM:signsL=twoL++oneS.data.toList.map fun c=> ⟨#[c]⟩:=rfl
theorem JY {s:B} {j:Nat} {c d:UInt8} (h:s.data[j]?=some c):gF s j ⟨#[d]⟩=decide (c=d):=by
 have hj:j < s.size:=(Array.getElem?_eq_some_iff.1 h).1
 unfold gF
 have e:s.extract j (j+1)=⟨#[c]⟩:=by
  apply ByteArray.ext
  rw[ByteArray.data_extract]
  apply Array.ext_getElem?
  intro k
  rw[Array.getElem?_extract]
  rcases k with _ | k
  ·simp[h]
   intro h2
   have:s.data.size=s.size:=rfl
   omega
  ·simp
   omega
 show decide (j+1≤s.size∧s.extract j (j+1)=⟨#[d]⟩)=_
 rw[e,Bool.eq_iff_iff,decide_eq_true_eq,decide_eq_true_eq]
 refine⟨fun⟨_,h2⟩=> ?_,fun h2=> ⟨by omega,by rw[h2]⟩⟩
 have:=congrArg (fun b:B=> b.data[0]?) h2
 simpa using this
theorem BZ {s:B} {j:Nat} {c:UInt8} (h:s.data[j]?=some c):s.extract j (j+1)=⟨#[c]⟩:=by
 have:=JY (d:=c) h
 unfold gF at this
 rw[decide_eq_true (rfl:c=c),decide_eq_true_eq] at this
 exact this.2
theorem Si {s:B} {j:Nat} (h: ∀x∈twoL,gF s j x=false):signsL.find? (gF s j)=(oneS.data.toList.map fun c=> (⟨#[c]⟩:B)).find? (gF s j):=by
 rw[JM,List.find?_append]
 have:twoL.find? (gF s j)=none:=List.find?_eq_none.2 fun x hx=> by rw[h x hx];simp
 rw[this]
 rfl
theorem UX {s x:B} {j k:Nat} (hk:twoL[k]?=some x) (h: ∀y∈twoL.take k,gF s j y=false) (hx:gF s j x=true):signsL.find? (gF s j)=some x:=by
 rw[JM,List.find?_append]
 have e:twoL=twoL.take k++x::twoL.drop (k+1):=by rw[←dC hk,List.take_append_drop]
 rw[e,List.find?_append]
 have: (twoL.take k).find? (gF s j)=none:=List.find?_eq_none.2 fun x hx=> by rw[h x hx];simp
 rw[this,List.find?_cons,hx]
 rfl
theorem KE {s:B} {j:Nat} {c:UInt8} (h:s.data[j]?=some c): ∀l:List UInt8,(l.map fun c=> (⟨#[c]⟩:B)).find? (gF s j)=if c∈l then some ⟨#[c]⟩ else none
 | []=> rfl
 | d::l=> by
   rw[List.map_cons,List.find?_cons,JY h,KE h l]
   by_cases e:c=d
   ·subst e;simp
   ·simp[e]
theorem R1 (s:B) (c:UInt8):0≤Mw s ⟨c.toNat⟩ ↔c∈s.data.toList:=by
 unfold Mw
 cases h:s.data.toList.findIdx? (fun x=> decide ((x.toNat:Int)=(⟨c.toNat⟩:U8).val)) with
 | none=>
   rw[List.findIdx?_eq_none_iff] at h
   refine⟨fun h'=> absurd h' (by decide),fun h'=> ?_⟩
   have:=h c h'
   simp at this
 | some k=>
   refine⟨fun _=> ?_,fun _=> Int.natCast_nonneg k⟩
   obtain⟨hk,h1,_⟩:=List.findIdx?_eq_some_iff_getElem.1 h
   simp at h1
   have h1: ((s.data.toList[k]).toNat:Int)=c.toNat:=by simpa using h1
   have:s.data.toList[k]=c:=UInt8.toNat_inj.1 (Int.ofNat_inj.1 h1)
   rw[←this]
   exact List.getElem_mem hk
end Go.Gv
