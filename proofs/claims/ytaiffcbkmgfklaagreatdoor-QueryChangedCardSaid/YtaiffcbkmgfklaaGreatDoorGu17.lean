/- A part of the framework and of the walks: W77 T25 T26 T28 T27 V17 W61 W68 W69. -/
import Derived.Below
import Derived.WalkKit
import Derived.Lib.Bytealg
import Derived.Shelf.Abstract
import Derived.Shelf.RegionOpen
import Derived.TacticsInMore
import Derived.Test.YtaiffcbkmgfklaaGreatDoorGu15
import Derived.Test.YtaiffcbkmgfklaaGreatDoorGu16
import Derived.Test.YtaiffcbkmgfklaaGreatDoorGu14
import Derived.Test.YtaiffcbkmgfklaaGreatDoorGu10
set_option linter.unusedSimpArgs false
set_option linter.unusedVariables false
set_option maxRecDepth 100000
set_option linter.unusedSectionVars false

namespace Go.Gv
open Cod (enc dec)
variable {S S0:Nat→Spc}
def LC (x:Cond):Prop:=x.op=2∧x.arg=⟨#[]⟩∧x.lab=⟨#[]⟩∧x.kids= []
abbrev Ga:Spc:=dG (a1 Cond) LC (enc (X:=Bool)) fun x y=> y=true
theorem Ac:Walk lJ ll S (a1 Cond) LC (enc (X:=Bool)) fun x y=> y=true:=by
 rintro⟨op,name,arg,val,lab,fold,kids⟩ ⟨h1,h2,h3,h4⟩
 simp only at h1 h2 h3 h4
 subst h1;subst h2;subst h3;subst h4
 simp[lJ,ll, -Bool.forall_bool]
abbrev Ci:Spc:=dG (a1 Cond) LC (enc (X:=Int)) fun x y=> y=0
theorem xy (h1:S gr=Ga):Walk jF je S (a1 Cond) LC (enc (X:=Int)) fun x y=> y=0:=by
 rintro x hx
 simp[jF,je,h1,hx, -Bool.forall_bool]
abbrev zc:Spc:=dG (a3 Cond Int Int) (fun x=> LC x.1∧x.2=(0,1)) (LS (Y:=Int) (Z:=Int)) fun x y=> y=(1,1)
theorem xx:Walk jE jd S (a3 Cond Int Int) (fun x=> LC x.1∧x.2=(0,1)) (LS (Y:=Int) (Z:=Int)) fun x y=> y=(1,1):=by
 rintro⟨⟨op,name,arg,val,lab,fold,kids⟩,n,d⟩ ⟨⟨h1,h2,h3,h4⟩,h5⟩
 simp only at h1 h2 h3 h4 h5
 simp only[Prod.mk.injEq] at h5
 obtain⟨rfl,rfl⟩:=h5
 subst h1;subst h2;subst h3;subst h4
 simp[jE,jd, -Bool.forall_bool]
 refine⟨by simp only[InR];omega,?_⟩
 refine aO (X:=Unit) [1,8] [] 0 (fun _ _=> True) (fun _=> []) (fun _=> []) () (by simp) (by simp) (by omega) (by simp) (by simp) trivial (by simp) (by simp) (fun k x hk=> absurd hk (by omega)) (fun _ _=> ?_)
 simp
abbrev K1:Spc:=dG (aE Cond (aD a0)) (fun x=> LC x.1∧x.2.1= .clo cX []) (enc (X:=Int)) fun x y=> y=0
theorem BQ (h1:S cX=Ci):Walk m6 mA S (aE Cond (aD a0)) (fun x=> LC x.1∧x.2.1= .clo cX []) (enc (X:=Int)) fun x y=> y=0:=by
 rintro⟨⟨op,name,arg,val,lab,fold,kids⟩,d,⟨⟩⟩ ⟨hx,hd⟩
 have hx':=hx
 obtain⟨h1',h2,h3,h4⟩:=hx'
 simp only at h1' h2 h3 h4 hd
 subst h1';subst h2;subst h3;subst h4;subst hd
 simp[m6,mA,h1,hx, -Bool.forall_bool]
 refine aO (X:=Unit) [] [] 0 (fun _ _=> True) (fun _=> []) (fun _=> []) () (by simp) (by simp) (by omega) (by simp) (by simp) trivial (by simp) (by simp) (fun k x hk=> absurd hk (by omega)) (fun _ _=> ?_)
 simp
abbrev Gc:Spc:=dG (a1 Cond) LC (enc (X:=Bool)) fun x y=> y=true
theorem Ad (h1:S dW=zc) (h2:S fE=K1):Walk lK lm S (a1 Cond) LC (enc (X:=Bool)) fun x y=> y=true:=by
 rintro x hx
 simp[lK,lm,h1,h2,hx, -Bool.forall_bool]
abbrev Cj:Spc:=dG (a1 Pat) (fun p=> LC p.cond) (enc (X:=Bool)) fun x y=> y=false
theorem BP (h1:S gu=Gc):Walk m0 my S (a1 Pat) (fun p=> LC p.cond) (enc (X:=Bool)) fun x y=> y=false:=by
 rintro x hx
 simp[m0,my,h1,hx, -Bool.forall_bool]
abbrev O8:Spc:=dG (a1 Glob) (fun g=> g=fP) (enc (X:=Bool)) fun x y=> y=true
theorem Km:Walk sv sd S (a1 Glob) (fun g=> g=fP) (enc (X:=Bool)) fun x y=> y=true:=by
 rintro x rfl
 simp[sv,sd,fP,E0, -Bool.forall_bool]
abbrev K3:Spc:=dG (a1 Glob) (fun g=> g=fP) (enc (X:=Bool)) fun x y=> y=true
theorem Iy (h1:S mK=O8):Walk qX qr S (a1 Glob) (fun g=> g=fP) (enc (X:=Bool)) fun x y=> y=true:=by
 rintro x rfl
 simp[qX,qr,h1, -Bool.forall_bool]
abbrev Pi:Spc:=dG (aE (List jT) (aD a0)) (fun x=> x.1= []) (enc (X:=Int)) fun x y=> y= -1
theorem rm:Walk fN fI S (aE (List jT) (aD a0)) (fun x=> x.1= []) (enc (X:=Int)) fun x y=> y= -1:=by
 rintro⟨l,d,⟨⟩⟩ h
 have h:l= []:=h
 subst h
 simp[fN,fI, -Bool.forall_bool]
 refine aO (X:=Unit) [] [] 0 (fun _ _=> True) (fun _=> []) (fun _=> []) () (by simp) (by simp) (by omega) (by simp) (by simp) trivial (by simp) (by simp) (fun k x hk=> absurd hk (by omega)) (fun _ _=> ?_)
 simp
abbrev Pj:Spc:=dG (aE (List jT) (aD a0)) (fun x=> x.1= []) (enc (X:=Bool)) fun x y=> y=false
theorem oY (h1:S cV=Pi):Walk eE eq S (aE (List jT) (aD a0)) (fun x=> x.1= []) (enc (X:=Bool)) fun x y=> y=false:=by
 rintro⟨l,d,⟨⟩⟩ h
 have h:l= []:=h
 subst h
 simp[eE,eq,h1, -Bool.forall_bool]
end Go.Gv

namespace Go.Gv
section
variable {P:Program} {im:List Nat} {E:pR} {S:Nat→Spc}
theorem yM {f:Nat} {fn:Func} {rs:List aI} {A:PT} (hce:fF P f) {N:Nat} (hN:fn.ntmps=N) (hrs:fn.results.toList.mapM (eO P)=some rs) {V: (D→ab→Prop)→List D→ab→Prop}
 (hrun: ∀ (E:pR) (ds':List D) (H0:ab) (Q:D→ab→Prop) (vs:List Value) (w:World) (R:Ending→World→Prop),E.ds= []→E.N=N→vs.length=ds'.length→St E (d9 ds') H0 { tmps:=vs.toArray++Array.replicate (fn.ntmps -vs.toArray.size) undef,defers:= [] } w→V Q ds' H0→
   (∀ (a':Act) (w':World) (σ':Sg) (H':ab) (dl:List Deferred),St { E with ds:=dl } σ' H' a' w'→(ln rs σ' H' fun ds=> Q (cR ds) H')→ ∃v,(results fn a'.tmps).run P w'= .ok v w'∧R (.returned v) w')→Calls P f vs.toArray w R)
 (hA: ∀ (ds:List D) (H:ab) (d:Nat) (K:D→ab→Prop),A d ds H K→ds.length≤N∧
   ∃ (ds':List D) (H0:ab) (ι:Nat→Nat),LeL ds ds'∧(∀i r,H0 i=some r→H (ι i)=some r)∧(∀i j r s,H0 i=some r→H0 j=some s→ι i=ι j→i=j)∧
    ∃Q:D→ab→Prop,V Q ds' H0∧ ∀r H',Q r H'→ ∃ (r':D) (Hf Hc:ab) (κ:Nat→Option Nat),FrzTo Hf r r'∧(∀j q,Hf j=some q→H' j=some q∧ ∀i,κ i≠some j)∧K r' Hc∧
     (∀i s,Hc i=some s→match κ i with | some j=> H' j=some s | none=> H i=some s∧ ∀k q,H0 k=some q→ι k≠i)∧
     (∀i j k s q,Hc i=some s→Hc j=some q→κ i=some k→κ j=some k→i=j)):Tri P f A:=by
 intro O tp w vs ds H d K hO htl hsat hlen hargs hAK
 refine⟨hce,?_⟩
 obtain⟨hdN,ds',H0,ι,hle,hsub,hinj,Q,hv,hQ⟩:=hA ds H d K hAK
 -- the callee's constants
 let passed:Nat→Prop:=fun i=> ∃k q,H0 k=some q∧ι k=i
 let rest:Nat→Prop:=fun b=> ∃i r,H i=some r∧ ¬passed i∧r.blk=some b
 let E:pR:= { O:=fun b=> O b∨rest b,tp0:=tp,w0:=w,own0:=eR H0,N:=N }
 have hownH0: ∀b,eR H0 b→eR H b:=fun b ⟨i,r,h1,h2⟩=> ⟨ι i,r,hsub i r h1,h2⟩
 have hrestlt: ∀b,rest b→b < w.heap.size:=fun b ⟨i,r,h1,_,h2⟩=> (hsat.ok i r h1).lt h2
 have hrestown: ∀b,rest b→ ¬eR H0 b:=fun b ⟨i,r,h1,h2,h3⟩ ⟨j,s,h4,h5⟩=> h2 ⟨j,s,h4,(hsat.dis i (ι j) r s b h1 (hsub j s h4) h3 h5).symm⟩
 have himm: ∀b,cm O tp H w b→cm E.O tp H0 w b:=fun b hb=> ⟨hb.1,fun h=> h.elim hb.2.1 (fun⟨i,r,h1,_,h2⟩=> hb.2.2.2 ⟨i,r,h1,h2⟩),hb.2.2.1,fun h=> hb.2.2.2 (hownH0 b h)⟩
 have hmove: ∀x e,R tp (cm O tp H w) w x e→R tp (cm E.O tp H0 w) w x e:=fun x e hr=> hr.mono (fun _ h=> h) (fun b hb=> ⟨himm b hb,rfl⟩) (fun b _=> .refl _ _)
 have hstw:StW E tp H0 w:=by
  refine⟨fun b hb=> hb.elim (hO b) (hrestlt b),fun b h=> h,fun b h=> .inl h,htl, .refl _ _ _,fun b hb=> .inl hb,⟨fun i j r s b h1 h2 h3 h4=> ?_,fun i r b h1 h2=> ⟨fun h=> ?_,?_⟩,fun i r h1=> ?_⟩⟩
  ·exact hinj i j r s h1 h2 (hsat.dis _ _ r s b (hsub i r h1) (hsub j s h2) h3 h4)
  ·rcases h with h | h
   ·exact(hsat.out _ r b (hsub i r h1) h2).1 h
   ·exact hrestown b h ⟨i,r,h1,h2⟩
  ·exact(hsat.out _ r b (hsub i r h1) h2).2
  ·exact(hsat.ok _ r (hsub i r h1)).conv hmove (fun _ _=> rfl)
 have hst:St E (d9 ds') H0 { tmps:=vs.toArray++Array.replicate (fn.ntmps -vs.toArray.size) undef,defers:= [] } w:=by
  refine⟨rfl,?_,tp,hstw,fun t=> ?_⟩
  ·show(vs.toArray++Array.replicate (fn.ntmps -vs.toArray.size) undef).size=N
   simp
   omega
  ·unfold d9
   cases hd:ds'[t]? with
   | none=> exact .any _
   | some e'=>
     have hlt:t < vs.length:=by rw[hlen,hle.1];exact(List.getElem?_eq_some_iff.1 hd).1
     have hlt':t < ds.length:=by rw[←hlen];exact hlt
     have hg: (vs.toArray++Array.replicate (fn.ntmps -vs.toArray.size) undef).getD t undef=vs[t]:=by
      rw[Array.getD_eq_getD_getElem?,Array.getElem?_append_left (by simpa using hlt)]
      simp[hlt]
     simp only[Option.getD_some,hg]
     have he:=List.getElem?_eq_getElem hlt'
     exact(hle.2 t _ e' he hd).R (H:=cF) (fun i r h=> by cases h) (fun _ h=> h) (fun i r b h=> by cases h) (hmove _ _ (hargs t _ _ (by simp[hlt]) he))
 -- at the end
 have fin: ∀ (a':Act) (w':World) (σ':Sg) (H':ab) (dl:List Deferred),St { E with ds:=dl } σ' H' a' w'→(ln rs σ' H' fun ds=> Q (cR ds) H')→
  ∃v,(results fn a'.tmps).run P w'= .ok v w'∧Qm O tp H w K (.returned v) w':=by
  intro a' w' σ' H' dl hst' hres
  obtain⟨hd',hN',tp',hw0,hr0⟩:=hst'
  have hw':StW E tp' H' w':=⟨hw0.1,hw0.2,hw0.3,hw0.4,hw0.5,hw0.6,hw0.7⟩
  have hr': ∀t,R tp' (cm E.O tp' H' w') w' (a'.tmps.getD t undef) (σ' t):=hr0
  obtain⟨v,r0,hrun',hR,hq⟩:=nW (K:=fun r=> Q r H') hrs hr' hw'.sat.ok hres
  obtain⟨r,Hf,Hc,κ,hfz,hHf,hK,hκ,hκi⟩:=hQ r0 H' hq
  refine⟨v,hrun',v,r,Hc,tp',rfl,hK,hw'.tpx,hw'.tpn,hw'.tpl,?_,?_,?_,?_⟩
  ·-- the step
   have hs:=hw'.step
   exact⟨hs.os,hs.tape,hs.output,hs.size,fun b hb ho ht=> hs.same b hb (fun h=> ho (hownH0 b h)) ht,hs.tapes,hs.drawn⟩
  all_goals
   have hkn: ∀i s,Hc i=some s→(∃j,κ i=some j∧H' j=some s)∨(κ i=none∧H i=some s∧ ¬passed i):=fun i s hi=> by
    have:=hκ i s hi
    cases hk:κ i with
    | some j=> rw[hk] at this;exact .inl ⟨j,rfl,this⟩
    | none=> rw[hk] at this;exact .inr ⟨rfl,this.1,fun⟨k,q,h1,h2⟩=> this.2 k q h1 h2⟩
  ·intro b ⟨i,s,h1,h2⟩
   rcases hkn i s h1 with⟨j,_,h3⟩ | ⟨_,h3,_⟩
   ·rcases hw'.loc b ⟨j,s,h3,h2⟩ with h4 | h4
    ·exact .inl (hownH0 b h4)
    ·exact .inr h4
   ·exact .inl ⟨i,s,h3,h2⟩
  all_goals
   have hownc: ∀b,eR Hc b→eR H' b∨rest b:=fun b ⟨i,s,h1,h2⟩=> by
    rcases hkn i s h1 with⟨j,_,h3⟩ | ⟨_,h3,h4⟩
    ·exact .inl ⟨j,s,h3,h2⟩
    ·exact .inr ⟨i,s,h3,h4,h2⟩
   have himmc: ∀b,cm E.O tp' H' w' b→cm O tp' Hc w' b:=fun b hb=> ⟨hb.1,fun h=> hb.2.1 (.inl h),hb.2.2.1,fun h=> by
    rcases hownc b h with h | h
    ·exact hb.2.2.2 h
    ·exact hb.2.1 (.inr h)⟩
   have hmovec: ∀x e,R tp' (cm E.O tp' H' w') w' x e→R tp' (cm O tp' Hc w') w' x e:=fun x e hr=> hr.mono (fun _ h=> h) (fun b hb=> ⟨himmc b hb,rfl⟩) (fun b _=> .refl _ _)
  ·refine⟨fun i j s q b h1 h2 h3 h4=> ?_,fun i s b h1 h2=> ?_,fun i s h1=> ?_⟩
   ·rcases hkn i s h1 with⟨i',e1,k1⟩ | ⟨e1,k1,p1⟩
    ·rcases hkn j q h2 with⟨j',e2,k2⟩ | ⟨e2,k2,p2⟩
     ·have:=hw'.sat.dis i' j' s q b k1 k2 h3 h4
      subst this
      exact hκi i j i' s q h1 h2 e1 e2
     ·exact absurd (Or.inr ⟨j,q,k2,p2,h4⟩) (hw'.sat.out i' s b k1 h3).1
    ·rcases hkn j q h2 with⟨j',e2,k2⟩ | ⟨e2,k2,p2⟩
     ·exact absurd (Or.inr ⟨i,s,k1,p1,h3⟩) (hw'.sat.out j' q b k2 h4).1
     ·exact hsat.dis i j s q b k1 k2 h3 h4
   ·rcases hkn i s h1 with⟨i',e1,k1⟩ | ⟨e1,k1,p1⟩
    ·have:=hw'.sat.out i' s b k1 h2
     exact⟨fun h=> this.1 (.inl h),this.2⟩
    ·have h3:=hsat.out i s b k1 h2
     refine⟨h3.1,fun h=> ?_⟩
     rcases hw'.tpn b h with h4 | h4
     ·exact h3.2 h4
     ·have:=(hsat.ok i s k1).lt h2
      have h4':w.heap.size≤b:=h4
      omega
   ·rcases hkn i s h1 with⟨i',e1,k1⟩ | ⟨e1,k1,p1⟩
    ·exact(hw'.sat.ok i' s k1).conv hmovec (fun _ _=> rfl)
    ·-- a resource that was not handed in is as it was
     have hs:=hw'.step
     have hsame: ∀b,b < w.heap.size→ ¬eR H0 b→ ¬tp b→w'.heap[b]?=w.heap[b]?:=hs.same
     refine(hsat.ok i s k1).conv (fun x e hr=> ?_) (fun b hb=> hsame b ((hsat.ok i s k1).lt hb) (hrestown b ⟨i,s,k1,p1,hb⟩) (hsat.out i s b k1 hb).2)
     refine hr.mono hw'.tpx (fun b hb=> ?_) hs.tapes
     have h0: ¬eR H0 b:=fun h=> hb.2.2.2 (hownH0 b h)
     have hsz:w.heap.size≤w'.heap.size:=hs.size
     have hbl:b < w.heap.size:=hb.1
     refine⟨⟨by omega,hb.2.1,fun h=> ?_,fun h=> ?_⟩,hsame b hb.1 h0 hb.2.2.1⟩
     ·rcases hw'.tpn b h with h4 | h4
      ·exact hb.2.2.1 h4
      ·have h4':w.heap.size≤b:=h4
       omega
     ·rcases hownc b h with h | h
      ·rcases hw'.loc b h with h4 | h4
       ·exact h0 h4
       ·have h4':w.heap.size≤b:=h4
        omega
      ·obtain⟨j,q,h5,_,h6⟩:=h
       exact hb.2.2.2 ⟨j,q,h5,h6⟩
  ·refine hfz.R (H:=cF) (fun i q hi=> hw'.sat.ok i q (hHf i q hi).1) himmc (fun i q b hi hb=> ?_) hR
   obtain⟨hi',hne⟩:=hHf i q hi
   have ho:=hw'.sat.out i q b hi' hb
   refine⟨(hw'.sat.ok i q hi').lt hb,fun h=> ho.1 (.inl h),ho.2,fun⟨j,s,h1,h2⟩=> ?_⟩
   rcases hkn j s h1 with⟨j',e1,k1⟩ | ⟨e1,k1,p1⟩
   ·have:=hw'.sat.dis i j' q s b hi' k1 hb h2
    subst this
    exact hne j e1
   ·exact ho.1 (.inr ⟨j,s,k1,p1,h2⟩)
 exact hrun E ds' H0 Q vs w _ rfl rfl (by rw[hlen,hle.1]) hst hv fin
theorem X5 {f:Nat} {fn:Func} {rs:List aI} {X Y:Type} {A:ix X} {pre:X→Prop} {er:Y→D} {post:X→Y→Prop} (hce:fF P f) {N:Nat} (hN:fn.ntmps=N) (hrs:fn.results.toList.mapM (eO P)=some rs)
 (hAN: ∀x,(A.view x).length≤N) {V: (D→ab→Prop)→List D→ab→Prop}
 (hrun: ∀ (E:pR) (ds':List D) (H0:ab) (Q:D→ab→Prop) (vs:List Value) (w:World) (R:Ending→World→Prop),E.ds= []→E.N=N→vs.length=ds'.length→St E (d9 ds') H0 { tmps:=vs.toArray++Array.replicate (fn.ntmps -vs.toArray.size) undef,defers:= [] } w→V Q ds' H0→
   (∀ (a':Act) (w':World) (σ':Sg) (H':ab) (dl:List Deferred),St { E with ds:=dl } σ' H' a' w'→(ln rs σ' H' fun ds=> Q (cR ds) H')→ ∃v,(results fn a'.tmps).run P w'= .ok v w'∧R (.returned v) w')→Calls P f vs.toArray w R)
 (hw: ∀x,pre x→V (fun r H'=> Fin er (post x) r H') (A.view x) cF):Tri P f (dG A pre er post).pt:=by
 refine yM hce hN hrs hrun ?_
 intro ds H d K hA
 rw[tE] at hA
 cases hd:A.dec ds with
 | none=> rw[hd] at hA;exact hA.elim
 | some x=>
   rw[hd] at hA
   obtain⟨hp,hK⟩:=hA
   have hl:=A.le ds x hd
   refine⟨by rw[hl.1];exact hAN x,A.view x,cF,id,hl,fun i r h=> by simp[cF] at h,fun i j r s h=> by simp[cF] at h,_,hw x hp,?_⟩
   rintro r H' ⟨y,hf,hpost⟩
   exact⟨er y,H',H,fun _=> none,hf,fun j q h=> ⟨h,fun i=> by simp⟩,hK y hpost,fun i s hi=> ⟨hi,fun k q h=> by simp[cF] at h⟩,fun i j k s q _ _ h=> by cases h⟩
end
end Go.Gv

namespace Go.Gv
open Cod (enc dec)
section
variable {X Y Z:Type}
def Ro (M:Nat→X→Res) (B:uH X) (er:Y→D) (b:Nat) (post:X→Y→Prop) (r:D) (H:ab):Prop:= ∃x y,FrzTo (fun i=> if i=0∨i∈B.ids then none else H i) r (er y)∧H 0=some (M b x)∧(∀p∈B.hp x,H p.1=some p.2)∧post x y
def qdF (M:Nat→X→Res) (B:Nat→uH X) (A:ix Z) (er:Y→D) (pre:X→Z→Prop) (post:X→Z→X→Y→Prop):PT:=fun d ds H K=> ∃id b x z ds',ds= .bptr id b 0::ds'∧A.dec ds'=some z∧H id=some (M b x)∧(∀p∈ (B b).hp x,H p.1=some p.2)∧id∉ (B b).ids∧pre x z∧
 ∀x' y,post x z x' y→K (er y) (au (gG ((B b).hp x') H) id (some (M b x')))
theorem Y9 (M:Nat→X→Res) (B:Nat→uH X) (A:ix Z) (er:Y→D) (pre:X→Z→Prop) (post:X→Z→X→Y→Prop):uE (qdF M B A er pre post):=fun d ds H K K' hk ⟨id,b,x,z,ds',h1,h2,h3,h4,h5,h6,h7⟩=> ⟨id,b,x,z,ds',h1,h2,h3,h4,h5,h6,fun x' y hp=> hk _ _ (h7 x' y hp)⟩
def qjh (M:Nat→X→Res) (B:Nat→uH X) (A:ix Z) (er:Y→D) (pre:X→Z→Prop) (post:X→Z→X→Y→Prop):Spc:= .gen _ (Y9 M B A er pre post)
theorem Rh {M:Nat→X→Res} {B:Nat→uH X} {A:ix Z} {er:Y→D} {pre:X→Z→Prop} {post:X→Z→X→Y→Prop} {N:Nat} (h1i: ∀b,0∉ (B b).ids) (hN: ∀z,(A.view z).length+1≤N) {V: (D→ab→Prop)→List D→ab→Prop}
 (hw: ∀b x z,pre x z→V (fun r H'=> Ro M (B b) er b (post x z) r H') (.bptr 0 b 0::A.view z) (au (gG ((B b).hp x) cF) 0 (some (M b x)))):
 ∀ (ds:List D) (H:ab) (d:Nat) (K:D→ab→Prop),qdF M B A er pre post d ds H K→ds.length≤N∧
  ∃ (ds':List D) (H0:ab) (ι:Nat→Nat),LeL ds ds'∧(∀i r,H0 i=some r→H (ι i)=some r)∧(∀i j r s,H0 i=some r→H0 j=some s→ι i=ι j→i=j)∧
   ∃Q:D→ab→Prop,V Q ds' H0∧ ∀r H',Q r H'→ ∃ (r':D) (Hf Hc:ab) (κ:Nat→Option Nat),FrzTo Hf r r'∧(∀j q,Hf j=some q→H' j=some q∧ ∀i,κ i≠some j)∧K r' Hc∧
    (∀i s,Hc i=some s→match κ i with | some j=> H' j=some s | none=> H i=some s∧ ∀k q,H0 k=some q→ι k≠i)∧
    (∀i j k s q,Hc i=some s→Hc j=some q→κ i=some k→κ j=some k→i=j):=by
 rintro ds H d K ⟨id,b,x,z,ds',rfl,hd,hid,hhp,hni,hp,hK⟩
 have hl:=A.le ds' z hd
 have h0: ∀i r,au (gG ((B b).hp x) cF) 0 (some (M b x)) i=some r→i=0∧r=M b x∨i≠0∧(i,r) ∈ (B b).hp x:=by
  intro i r h
  by_cases e:i=0
  ·subst e
   simp only[au,if_true] at h
   cases h
   exact .inl ⟨rfl,rfl⟩
  ·simp only[au,e,if_false] at h
   exact .inr ⟨e,BG h⟩
 have hk: ∀ {x:X} {i:Nat} {r:Res},(i,r) ∈ (B b).hp x→i∈ (B b).ids:=by
  intro x i r h
  rw[← (B b).keys x]
  exact List.mem_map.2 ⟨_,h,rfl⟩
 refine⟨by simp only[List.length_cons];rw[hl.1];exact hN z, .bptr 0 b 0::A.view z,au (gG ((B b).hp x) cF) 0 (some (M b x)),fun i=> if i=0 then id else i, .cons (.bptr _ _ _ _) hl,fun i r h=> ?_,fun i j r s h h' e=> ?_,_,hw b x z hp,?_⟩
 ·rcases h0 i r h with⟨rfl,rfl⟩ | ⟨e,hm⟩
  ·exact hid
  ·simp only[e,if_false]
   exact hhp _ hm
 ·rcases h0 i r h with⟨rfl,rfl⟩ | ⟨e1,hm⟩
  ·rcases h0 j s h' with⟨rfl,rfl⟩ | ⟨e2,hm2⟩
   ·rfl
   ·simp only[e2,if_true,if_false] at e
    subst e
    exact absurd (hk hm2) hni
  ·rcases h0 j s h' with⟨rfl,rfl⟩ | ⟨e2,hm2⟩
   ·simp only[e1,if_true,if_false] at e
    subst e
    exact absurd (hk hm) hni
   ·simpa only[e1,e2,if_false] using e
 ·rintro r H' ⟨x',y,hfr,hj,hhp',hpost⟩
  refine⟨er y,fun i=> if i=0∨i∈ (B b).ids then none else H' i,au (gG ((B b).hp x') H) id (some (M b x')),fun i=> if i=id then some 0 else if i∈ (B b).ids then some i else none,hfr,fun j q h=> ?_,hK x' y hpost,fun i s hi=> ?_,fun i j' k s q hi hj' e1 e2=> ?_⟩
  ·by_cases e:j=0∨j∈ (B b).ids
   ·simp[e] at h
   ·simp only[e,if_false] at h
    refine⟨h,fun i hh=> e ?_⟩
    by_cases e1:i=id
    ·simp only[e1,if_true] at hh
     cases hh
     exact .inl rfl
    ·simp only[e1,if_false] at hh
     by_cases e2:i∈ (B b).ids
     ·simp only[e2,if_true] at hh
      cases hh
      exact .inr e2
     ·simp[e2] at hh
  ·by_cases e:i=id
   ·subst e
    simp only[au,if_true] at hi
    cases hi
    simpa using hj
   ·simp only[au,e,if_false] at hi ⊢
    by_cases e2:i∈ (B b).ids
    ·simp only[e2,if_true]
     exact hhp' _ (BH (by rw[(B b).keys];exact e2) hi)
    ·simp only[e2,if_false]
     rw[BF (by rw[(B b).keys];exact e2)] at hi
     refine⟨hi,fun k q h he=> ?_⟩
     rcases h0 k q h with⟨rfl,rfl⟩ | ⟨e3,hm⟩
     ·simp only[if_true] at he
      exact e he.symm
     ·simp only[e3,if_false] at he
      subst he
      exact e2 (hk hm)
  ·by_cases c1:i=id
   ·by_cases c2:j'=id
    ·exact c1.trans c2.symm
    ·simp only[c1,if_true] at e1
     cases e1
     simp only[c2,if_false] at e2
     by_cases c3:j'∈ (B b).ids
     ·simp only[c3,if_true] at e2
      cases e2
      exact absurd c3 (h1i b)
     ·simp[c3] at e2
   ·simp only[c1,if_false] at e1
    by_cases c3:i∈ (B b).ids
    ·simp only[c3,if_true] at e1
     cases e1
     by_cases c2:j'=id
     ·simp only[c2,if_true] at e2
      cases e2
      exact absurd c3 (h1i b)
     ·simp only[c2,if_false] at e2
      by_cases c4:j'∈ (B b).ids
      ·simp only[c4,if_true] at e2
       cases e2
       rfl
      ·simp[c4] at e2
    ·simp[c3] at e1
variable {P:Program} {S:Nat→Spc} {f:Nat} {im:List Nat} {cc:CC} {rs:List aI} {N:Nat}
def qbn (cc:CC) (rs:List aI) (S:Nat→Spc) (M:Nat→X→Res) (B:Nat→uH X) (A:ix Z) (er:Y→D) (pre:X→Z→Prop) (post:X→Z→X→Y→Prop):Prop:=
 ∀b x z,pre x z→vc S cc (uX rs fun r H'=> Ro M (B b) er b (post x z) r H') (d9 (.bptr 0 b 0::A.view z)) (au (gG ((B b).hp x) cF) 0 (some (M b x)))
theorem OW {M:Nat→X→Res} {B:Nat→uH X} {A:ix Z} {er:Y→D} {pre:X→Z→Prop} {post:X→Z→X→Y→Prop} (h1i: ∀b,0∉ (B b).ids) (hS: ∀f,Tri P f (S f).pt) (h:aR P f im cc rs N) (hN: ∀z,(A.view z).length+1≤N) (hw:qbn cc rs S M B A er pre post):Tri P f (qjh M B A er pre post).pt:=by
 obtain⟨EZ,enter,fn,code,h1,h2,h3,h4,h5⟩:=h
 exact ng hS EZ h1 h2 enter h3 h4 h5 (Rh h1i hN (V:=fun Q ds H=> vc S cc (uX rs Q) (d9 ds) H) hw)
theorem RW {fn:Func} {M:Nat→X→Res} {B:Nat→uH X} {A:ix Z} {er:Y→D} {pre:X→Z→Prop} {post:X→Z→X→Y→Prop} (h1i: ∀b,0∉ (B b).ids) (hce:fF P f) (hN':fn.ntmps=N) (hrs:fn.results.toList.mapM (eO P)=some rs) (hN: ∀z,(A.view z).length+1≤N)
 {V: (D→ab→Prop)→List D→ab→Prop}
 (hrun: ∀ (E:pR) (ds':List D) (H0:ab) (Q:D→ab→Prop) (vs:List Value) (w:World) (R:Ending→World→Prop),E.ds= []→E.N=N→vs.length=ds'.length→St E (d9 ds') H0 { tmps:=vs.toArray++Array.replicate (fn.ntmps -vs.toArray.size) undef,defers:= [] } w→V Q ds' H0→
   (∀ (a':Act) (w':World) (σ':Sg) (H':ab) (dl:List Deferred),St { E with ds:=dl } σ' H' a' w'→(ln rs σ' H' fun ds=> Q (cR ds) H')→ ∃v,(results fn a'.tmps).run P w'= .ok v w'∧R (.returned v) w')→Calls P f vs.toArray w R)
 (hw: ∀b x z,pre x z→V (fun r H'=> Ro M (B b) er b (post x z) r H') (.bptr 0 b 0::A.view z) (au (gG ((B b).hp x) cF) 0 (some (M b x)))):Tri P f (qjh M B A er pre post).pt:=
 yM hce hN' hrs hrun (Rh h1i hN hw)
end
theorem Cm {σ:Sg} {H:ab} : ∀ {rs:List aI} {F G:List D→Prop},(∀ds,F ds→G ds)→ln rs σ H F→ln rs σ H G
 | [],F,G,hFG,h=> hFG _ h
 | .tmp t::rs,F,G,hFG,h=> Cm (rs:=rs) (fun ds h=> hFG _ h) h
 | .cell t agg sz::rs,F,G,hFG,h=> vU (fun d h=> Cm (rs:=rs) (fun ds h=> hFG _ h) h) h
structure qb3 where
 u:Bool
 v:Value
 s:ByteArray
def pv (b:Nat) (u:Bool):Value:= .pointer (if u then some ⟨b,0,none⟩ else none)
def bD (s:ByteArray):List D:=s.data.toList.map fun c=> .v (.int .u8 c.toNat)
def qdV (el:Nat) (b:Nat):uH qb3:=⟨[900],fun x=> [.v (pv b x.u), .own 900 x.v],fun x=> [(900, .row x.v el 1 (bD x.s))],fun _=> rfl⟩
@[simp] theorem qdU (el b:Nat): (qdV el b).ids= [900]:=id rfl
@[simp] theorem TE (el b:Nat) (x:qb3): (qdV el b).hp x= [(900, .row x.v el 1 (bD x.s))]:=id rfl
theorem ZX {a b:UInt8} (h: (a.toNat:Int)=b.toNat):a=b:=UInt8.toNat_inj.1 (by omega)
theorem qbl {s t:ByteArray} (h:bD s=bD t):s=t:=by
 obtain⟨⟨s⟩⟩:=s
 obtain⟨⟨t⟩⟩:=t
 simp only[bD] at h
 have:s=t:=by
  induction s generalizing t with
  | nil=> cases t with
    | nil=> rfl
    | cons b t=> simp at h
  | cons a s ih=> cases t with
    | nil=> simp at h
    | cons b t=>
      simp only[List.map_cons,List.cons.injEq,D.v.injEq,Value.int.injEq,true_and] at h
      rw[ZX h.1,ih t h.2]
 rw[this]
def qfT (el b:Nat) (x:qb3):Res:= .tbox el b [.v (pv b x.u), .own 900 x.v]
@[simp] theorem TD (el b:Nat) (x:qb3):qfT el b x= .tbox el b [.v (pv b x.u), .own 900 x.v]:=id rfl
def rl:Nat:=1000000
section
variable {Z:Type}
def XH (tw el:Nat) (A:ix Z) (r:D) (T:Z→Option ByteArray):Spc:=qjh (Y:=Unit) (qfT tw) (qdV el) A (fun _=> r) (fun x z=> ∃t,T z=some t∧x.s.size+t.size≤rl) (fun x z x' _=> ∃t,T z=some t∧x'.s=x.s++t)
def ZP (tw el:Nat) (r:D) (T:Z→Option ByteArray) (i b:Nat) (q q9:Option Res) (o:Option Z) (H:ab) (K:D→ab→Prop):Prop:=
 ∃x:qb3,q=some (.tbox tw b [.v (pv b x.u), .own 900 x.v])∧q9=some (.row x.v el 1 (bD x.s))∧i≠900∧gE o fun z=> gE (T z) fun t=> x.s.size+t.size≤rl∧ ∀u v,K r (au (au H 900 (some (.row v el 1 (bD (x.s++t))))) i (some (.tbox tw b [.v (pv b u), .own 900 v])))
@[congr] theorem qfU {tw el:Nat} {r:D} {T:Z→Option ByteArray} {i b:Nat} {q q' q9 q9':Option Res} {o o':Option Z} {H:ab} {K:D→ab→Prop} (h1:q=q') (h2:q9=q9') (h3:o=o'):ZP tw el r T i b q q9 o H K=ZP tw el r T i b q' q9' o' H K:=by subst h1;subst h2;subst h3;rfl
theorem Om (i:Nat) (r:Res) (H:ab):gG [(i,r)] H=au H i (some r):=rfl
@[simp] theorem qfV (tw el:Nat) (A:ix Z) (r:D) (T:Z→Option ByteArray) (d i b:Nat) (ds:List D) (H:ab) (K:D→ab→Prop): (XH tw el A r T).pt d (.bptr i b 0::ds) H K=ZP tw el r T i b (H i) (H 900) (A.dec ds) H K:=by
 refine propext ⟨fun h=> ?_,fun h=> ?_⟩
 ·obtain⟨id,b',x,z,ds',h1,h2,h3,h4,h5,⟨t,h6,h7⟩,h8⟩:=h
  cases h1
  refine⟨x,h3,h4 (900,_) (by simp),by simpa using h5,?_⟩
  rw[h2]
  show gE (T z) _
  rw[h6]
  refine⟨h7,fun u v=> ?_⟩
  have:=h8 ⟨u,v,x.s++t⟩ () ⟨t,h6,rfl⟩
  simpa only[TE,TD,Om] using this
 ·obtain⟨x,h1,h2,h3,h4⟩:=h
  cases hz:A.dec ds with
  | none=> rw[hz] at h4;exact h4.elim
  | some z=>
    rw[hz] at h4
    have h4:gE (T z) _:=h4
    cases ht:T z with
    | none=> rw[ht] at h4;exact h4.elim
    | some t=>
      rw[ht] at h4
      refine⟨i,b,x,z,ds,rfl,hz,h1,fun p hp=> ?_,by simpa using h3,⟨t,ht,h4.1⟩,fun x' y hq=> ?_⟩
      ·simp at hp
       subst hp
       exact h2
      ·obtain⟨t',h5,h6⟩:=hq
       rw[ht] at h5
       cases h5
       have:=h4.2 x'.u x'.v
       rw[←h6] at this
       simpa only[TE,TD,Om] using this
@[simp] theorem qjJ (tw el:Nat) (r:D) (T:Z→Option ByteArray) (i b:Nat) (u:Bool) (v:Value) (s:ByteArray) (o:Option Z) (H:ab) (K:D→ab→Prop):
 ZP tw el r T i b (some (.tbox tw b [.v (pv b u), .own 900 v])) (some (.row v el 1 (bD s))) o H K=(i≠900∧gE o fun z=> gE (T z) fun t=> s.size+t.size≤rl∧ ∀u v,K r (au (au H 900 (some (.row v el 1 (bD (s++t))))) i (some (.tbox tw b [.v (pv b u), .own 900 v])))):=by
 refine propext ⟨fun⟨x,h1,h2,h3,h4⟩=> ?_,fun h=> ⟨⟨u,v,s⟩,rfl,rfl,h⟩⟩
 simp only[Option.some.injEq,Res.row.injEq,true_and] at h2
 have:=qbl h2.2
 subst this
 exact⟨h3,h4⟩
def qbw (tw el b:Nat) (s:ByteArray) (r:D) (d:D) (H:ab):Prop:= ∃u v,FrzTo cF d r∧H 0=some (.tbox tw b [.v (pv b u), .own 900 v])∧H 900=some (.row v el 1 (bD s))
def J1 (cc:CC) (rs:List aI) (S:Nat→Spc) (tw el:Nat) (A:ix Z) (r:D) (T:Z→Option ByteArray):Prop:=
 ∀b u v s z t,T z=some t→s.size+t.size≤rl→vc S cc (uX rs fun d H'=> qbw tw el b (s++t) r d H') (d9 (.bptr 0 b 0::A.view z)) (au (au cF 900 (some (.row v el 1 (bD s)))) 0 (some (.tbox tw b [.v (pv b u), .own 900 v])))
theorem qix {H:ab} {d e:D} (h:FrzTo cF d e):FrzTo H d e:=by
 induction h with
 | same d=> exact .same d
 | any d=> exact .any d
 | nil n=> exact .nil n
 | own i j x=> exact .own i j x
 | nilown j=> exact .nilown j
 | bptr i j b off=> exact .bptr i j b off
 | row h=> cases h
 | sub h=> cases h
 | list hl hk _ ih=> exact .list hl hk ih
 | box h=> cases h
 | agg hl _ ih=> exact .agg hl ih
 | tup hl _ ih=> exact .tup hl ih
variable {P:Program} {S:Nat→Spc} {f:Nat} {im:List Nat} {cc:CC} {rs:List aI} {N:Nat}
theorem YQ {tw el b:Nat} {s t:ByteArray} {r d:D} {H:ab} {z:Z} {T:Z→Option ByteArray} (ht:T z=some t) (h:qbw tw el b (s++t) r d H):Ro (Y:=Unit) (qfT tw) (qdV el b) (fun _=> r) b (fun x' _=> ∃t,T z=some t∧x'.s=s++t) d H:=by
 obtain⟨u,v,h1,h2,h3⟩:=h
 exact⟨⟨u,v,s++t⟩,(),qix h1,h2,fun p hp=> by simp at hp;subst hp;exact h3,t,ht,rfl⟩
theorem sH {tw el:Nat} {A:ix Z} {r:D} {T:Z→Option ByteArray} (hS: ∀f,Tri P f (S f).pt) (h:aR P f im cc rs N) (hN: ∀z,(A.view z).length+1≤N) (hw:J1 cc rs S tw el A r T):Tri P f (XH tw el A r T).pt:=by
 refine OW (by simp) hS h hN ?_
 rintro b ⟨u,v,s⟩ z ⟨t,ht,hl⟩
 refine rE cc _ _ (fun e σ H h=> ?_) (hw b u v s z t ht hl)
 cases e with
 | ex i=> exact h
 | _=>
   simp only[uX] at h ⊢
   exact Cm (fun ds h=> YQ ht h) h
end
end Go.Gv

namespace Go.Gv
open Cod (enc dec)
section
variable {tw el:Nat}
def qir (tw el:Nat) (G:Nat→Nat→List D→Option ByteArray) (r:D):PT:=fun d ds H K=> ∃ (id b:Nat) (x:qb3) (t:ByteArray),G id b ds=some t∧H id=some (.tbox tw b [.v (pv b x.u), .own 900 x.v])∧H 900=some (.row x.v el 1 (bD x.s))∧id≠900∧x.s.size+t.size≤rl∧
 ∀u v,K r (au (au H 900 (some (.row v el 1 (bD (x.s++t))))) id (some (.tbox tw b [.v (pv b u), .own 900 v])))
theorem YF (tw el:Nat) (G:Nat→Nat→List D→Option ByteArray) (r:D):uE (qir tw el G r):=fun d ds H K K' hk ⟨id,b,x,t,h1,h2,h3,h4,h5,h6⟩=> ⟨id,b,x,t,h1,h2,h3,h4,h5,fun u v=> hk _ _ (h6 u v)⟩
def qeW (tw el:Nat) (G:Nat→Nat→List D→Option ByteArray) (r:D):Spc:= .gen _ (YF tw el G r)
def qdT (tw el id b:Nat) (s:ByteArray) (r d:D) (H:ab):Prop:= ∃u v,FrzTo cF d r∧H id=some (.tbox tw b [.v (pv b u), .own 900 v])∧H 900=some (.row v el 1 (bD s))
def WW (cc:CC) (rs:List aI) (S:Nat→Spc) (tw el:Nat) (G:Nat→Nat→List D→Option ByteArray) (r:D):Prop:=
 ∀id b u v s ds t,id≠900→G id b ds=some t→s.size+t.size≤rl→vc S cc (uX rs fun d H'=> qdT tw el id b (s++t) r d H') (d9 ds) (au (au cF 900 (some (.row v el 1 (bD s)))) id (some (.tbox tw b [.v (pv b u), .own 900 v])))
variable {P:Program} {S:Nat→Spc} {f:Nat} {im:List Nat} {cc:CC} {rs:List aI} {N:Nat}
theorem LeL.refl (ds:List D):LeL ds ds:=⟨rfl,fun k d d' h h'=> by rw[h] at h';cases h';exact .same _⟩
theorem Jh {G:Nat→Nat→List D→Option ByteArray} {r:D} (hS: ∀f,Tri P f (S f).pt) (h:aR P f im cc rs N) (hN: ∀id b ds t,G id b ds=some t→ds.length≤N) (hw:WW cc rs S tw el G r):Tri P f (qeW tw el G r).pt:=by
 obtain⟨EZ,enter,fn,code,h1,h2,h3,h4,h5⟩:=h
 refine ng hS EZ h1 h2 enter h3 h4 h5 ?_
 rintro ds H d K ⟨id,b,⟨u,v,s⟩,t,g1,g2,g3,g4,g5,g6⟩
 simp only at g2 g3 g5 g6
 have hH0: ∀i q,au (au cF 900 (some (.row v el 1 (bD s)))) id (some (.tbox tw b [.v (pv b u), .own 900 v])) i=some q→(i=id∧q= .tbox tw b [.v (pv b u), .own 900 v])∨(i=900∧q= .row v el 1 (bD s)):=by
  intro i q h
  by_cases e:i=id
  ·subst e
   simp only[au,if_true] at h
   cases h
   exact .inl ⟨rfl,rfl⟩
  ·by_cases e9:i=900
   ·subst e9
    simp[au,e] at h
    exact .inr ⟨rfl,h.symm⟩
   ·simp[au,e,e9,cF] at h
 refine⟨hN id b ds t g1,ds,au (au cF 900 (some (.row v el 1 (bD s)))) id (some (.tbox tw b [.v (pv b u), .own 900 v])),fun i=> i,LeL.refl ds,fun i q h=> ?_,fun i j q q' _ _ e=> e,_,hw id b u v s ds t g4 g1 g5,?_⟩
 ·rcases hH0 i q h with⟨rfl,rfl⟩ | ⟨rfl,rfl⟩
  ·exact g2
  ·exact g3
 ·rintro d' H' ⟨u',v',k1,k2,k3⟩
  refine⟨r,cF,au (au H 900 (some (.row v' el 1 (bD (s++t))))) id (some (.tbox tw b [.v (pv b u'), .own 900 v'])),fun i=> if i=id then some id else if i=900 then some 900 else none,k1,fun j q h=> by simp[cF] at h,g6 u' v',fun i q hi=> ?_,fun i j k q q' hi hj e1 e2=> ?_⟩
  ·by_cases e:i=id
   ·subst e
    simp only[au,if_true] at hi ⊢
    cases hi
    exact k2
   ·by_cases e9:i=900
    ·subst e9
     simp[au,e] at hi ⊢
     subst hi
     exact k3
    ·simp only[au,e,e9,if_false] at hi ⊢
     refine⟨hi,fun k q hk he=> ?_⟩
     rcases hH0 k q hk with⟨rfl,rfl⟩ | ⟨rfl,rfl⟩
     ·exact e he.symm
     ·exact e9 he.symm
  ·by_cases c1:i=id
   ·by_cases c2:j=id
    ·exact c1.trans c2.symm
    ·simp only[c1,if_true] at e1
     cases e1
     simp only[c2,if_false] at e2
     by_cases c3:j=900
     ·simp[c3] at e2
      exact absurd e2.symm g4
     ·simp[c3] at e2
   ·simp only[c1,if_false] at e1
    by_cases c3:i=900
    ·simp only[c3,if_true] at e1
     cases e1
     by_cases c2:j=id
     ·simp[c2] at e2
      exact absurd e2 g4
     ·simp only[c2,if_false] at e2
      by_cases c4:j=900
      ·exact c3.trans c4.symm
      ·simp[c4] at e2
    ·simp[c3] at e1
theorem QT {G:Nat→Nat→List D→Option ByteArray} {r:D} {i b d:Nat} {ds:List D} {H:ab} {K:D→ab→Prop} (h:ZP tw el r (fun t:ByteArray=> some t) i b (H i) (H 900) (G i b ds) H K): (qeW tw el G r).pt d ds H K:=by
 obtain⟨x,h1,h2,h3,h4⟩:=h
 cases hg:G i b ds with
 | none=> rw[hg] at h4;exact h4.elim
 | some t=>
   rw[hg] at h4
   have h4:x.s.size+t.size≤rl∧_:=h4
   exact⟨i,b,x,t,hg,h1,h2,h3,h4.1,h4.2⟩
end
end Go.Gv

namespace Go.Gv
open Go.RowKit
open Cod (enc dec)
theorem Ji {P:Program} {f:Nat} {X Y:Type} {A:ix X} {pre:X→Prop} {er:Y→D} {post:X→Y→Prop} (hce:fF P f)
 (h: ∀ (tp I:Nat→Prop) (w:World) (vs:List Value) (x:X),pre x→(∀b,I b→b < w.heap.size)→vs.length=(A.view x).length→
   (∀ (k:Nat) (v:Value) (d:D),vs[k]?=some v→(A.view x)[k]?=some d→R tp I w v d)→
   Calls P f vs.toArray w fun e w'=> ∃v y,e= .returned v∧post x y∧(∀tp' I',R tp' I' w' v (er y))∧Below w.heap.size w w'∧w.drawn≤w'.drawn):Tri P f (dG A pre er post).pt:=by
 intro O tp w vs ds H d K hO htl hsat hlen hargs hA
 rw[tE] at hA
 cases hd:A.dec ds with
 | none=> rw[hd] at hA;exact hA.elim
 | some x=>
   rw[hd] at hA
   obtain⟨hp,hK⟩:=hA
   have hle:=A.le ds x hd
   refine⟨hce,(h tp (cm O tp H w) w vs x hp (fun b hb=> hb.1) (by rw[hlen,hle.1]) (fun k v d h1 h2=> ?_)).mono ?_⟩
   ·have hlt:k < ds.length:=by rw[←hlen];exact(List.getElem?_eq_some_iff.1 h1).1
    have he:=List.getElem?_eq_getElem hlt
    exact(hle.2 k _ d he h2).R (H:=cF) (fun i r h=> by cases h) (fun _ h=> h) (fun i r b h=> by cases h) (hargs k _ _ h1 he)
   ·rintro e w' ⟨v,y,rfl,hy,hR,hb,hdr⟩
    have hmove: ∀y e,R tp (cm O tp H w) w y e→R tp (cm O tp H w') w' y e:=fun y e hr=>
     hr.mono (fun _ h=> h) (fun b hb'=> ⟨⟨Nat.lt_of_lt_of_le hb'.1 hb.size,hb'.2⟩,hb.block b hb'.1⟩) (fun b hb'=> .same (hb.block b (htl b hb')))
    exact⟨v,er y,H,tp,rfl,hK y hy,fun _ h=> h,fun _ h=> .inl h,fun b h=> Nat.lt_of_lt_of_le (htl b h) hb.size,
     ⟨hb.os,hb.tape,hb.output,hb.size,fun b h1 _ _=> hb.block b h1,fun b h=> .same (hb.block b (htl b h)),hdr⟩,fun _ h=> .inl h,
     ⟨hsat.dis,hsat.out,fun i r h1=> (hsat.ok i r h1).conv hmove fun b h2=> hb.block b ((hsat.ok i r h1).lt h2)⟩,hR _ _⟩
theorem Qt {tp I:Nat→Prop} {w:World} {x y:Value} (h:R tp I w x (.v y)):x=y:=by cases h;rfl
end Go.Gv

namespace Go.Gv
theorem UU {s x:B} {j:Nat} (h:j≤s.size):iH (s.extract j s.size) 0 x=iH s j x:=by
 unfold iH
 rw[Bool.eq_iff_iff,decide_eq_true_eq,decide_eq_true_eq,Nat.zero_add,ByteArray.size_extract]
 refine⟨fun⟨h1,h2⟩=> ⟨by omega,?_⟩,fun⟨h1,h2⟩=> ⟨by omega,?_⟩⟩
 ·rw[ByteArray.extract_extract,show min (j+x.size) s.size=j+x.size by omega,Nat.add_zero] at h2
  exact h2
 ·rw[ByteArray.extract_extract]
  rw[show min (j+x.size) s.size=j+x.size by omega,Nat.add_zero]
  exact h2
def twoL:List B:= [⟨#[60,47]⟩,⟨#[33,61]⟩,⟨#[58,58]⟩,⟨#[37,99]⟩]
def oneS:B:=⟨#[91,93,40,41,123,125,60,62,124,38,33,61,58,46,44,63,42,43,45]⟩
theorem MP:signsL=twoL++oneS.data.toList.map fun c=> ⟨#[c]⟩:=rfl
theorem M3 {s:B} {j:Nat} {c d:UInt8} (h:s.data[j]?=some c):iH s j ⟨#[d]⟩=decide (c=d):=by
 have hj:j < s.size:=(Array.getElem?_eq_some_iff.1 h).1
 unfold iH
 have e:s.extract j (j+1)=⟨#[c]⟩:=by
  apply ByteArray.ext
  rw[ByteArray.data_extract]
  apply Array.ext_getElem?
  intro k
  rw[Array.getElem?_extract]
  rcases k with _ | k
  ·simp[h]
   intro h2
   have:s.data.size=s.size:=rfl
   omega
  ·simp
   omega
 show decide (j+1≤s.size∧s.extract j (j+1)=⟨#[d]⟩)=_
 rw[e,Bool.eq_iff_iff,decide_eq_true_eq,decide_eq_true_eq]
 refine⟨fun⟨_,h2⟩=> ?_,fun h2=> ⟨by omega,by rw[h2]⟩⟩
 have:=congrArg (fun b:B=> b.data[0]?) h2
 simpa using this
theorem LY {s:B} {j:Nat} {c:UInt8} (h:s.data[j]?=some c):s.extract j (j+1)=⟨#[c]⟩:=by
 have:=M3 (d:=c) h
 unfold iH at this
 rw[decide_eq_true (rfl:c=c),decide_eq_true_eq] at this
 exact this.2
theorem VZ {s:B} {j:Nat} (h: ∀x∈twoL,iH s j x=false):signsL.find? (iH s j)=(oneS.data.toList.map fun c=> (⟨#[c]⟩:B)).find? (iH s j):=by
 rw[MP,List.find?_append]
 have:twoL.find? (iH s j)=none:=List.find?_eq_none.2 fun x hx=> by rw[h x hx];simp
 rw[this]
 rfl
theorem YP {s x:B} {j k:Nat} (hk:twoL[k]?=some x) (h: ∀y∈twoL.take k,iH s j y=false) (hx:iH s j x=true):signsL.find? (iH s j)=some x:=by
 rw[MP,List.find?_append]
 have e:twoL=twoL.take k++x::twoL.drop (k+1):=by rw[←dv hk,List.take_append_drop]
 rw[e,List.find?_append]
 have: (twoL.take k).find? (iH s j)=none:=List.find?_eq_none.2 fun x hx=> by rw[h x hx];simp
 rw[this,List.find?_cons,hx]
 rfl
theorem NJ {s:B} {j:Nat} {c:UInt8} (h:s.data[j]?=some c): ∀l:List UInt8,(l.map fun c=> (⟨#[c]⟩:B)).find? (iH s j)=if c∈l then some ⟨#[c]⟩ else none
 | []=> rfl
 | d::l=> by
   rw[List.map_cons,List.find?_cons,M3 h,NJ h l]
   by_cases e:c=d
   ·subst e;simp
   ·simp[e]
theorem VI (s:B) (c:UInt8):0≤PM s ⟨c.toNat⟩ ↔c∈s.data.toList:=by
 unfold PM
 cases h:s.data.toList.findIdx? (fun x=> decide ((x.toNat:Int)=(⟨c.toNat⟩:U8).val)) with
 | none=>
   rw[List.findIdx?_eq_none_iff] at h
   refine⟨fun h'=> absurd h' (by decide),fun h'=> ?_⟩
   have:=h c h'
   simp at this
 | some k=>
   refine⟨fun _=> ?_,fun _=> Int.natCast_nonneg k⟩
   obtain⟨hk,h1,_⟩:=List.findIdx?_eq_some_iff_getElem.1 h
   simp at h1
   have h1: ((s.data.toList[k]).toNat:Int)=c.toNat:=by simpa using h1
   have:s.data.toList[k]=c:=UInt8.toNat_inj.1 (Int.ofNat_inj.1 h1)
   rw[←this]
   exact List.getElem_mem hk
end Go.Gv

namespace Go.Gv
open Cod (enc dec)
variable {S S0:Nat→Spc}
theorem Vw {s:B} {i:Nat} (h:bV s i=s.size):cT s i=(⟨0,E0,s.size⟩,(s.size:Int)):=by
 have:s.data[bV s i]?=none:=by
  rw[h]
  exact Array.getElem?_eq_none (Nat.le_refl _)
 unfold cT
 simp only[this]
 rw[h]
theorem YD {s:B} {i j:Nat} {c:UInt8} (hj:bV s i=j) (h:s.data[j]?=some c):cT s i=
 if CQ ⟨c.toNat⟩ then(⟨2,s.extract j (om s j),j⟩,(om s j:Int))
 else if pP ⟨c.toNat⟩ then(⟨3,s.extract j (oU s j),j⟩,(oU s j:Int))
 else if c.toNat=34 then(if(AI s j).2 < 0 then(⟨1,E0,j⟩,(s.size:Int)) else(⟨4,(AI s j).1,j⟩,(AI s j).2))
 else match signsL.find? (iH s j) with
  | some x=> (⟨5,x,j⟩,j+x.size)
  | none=> (⟨1,E0,j⟩,(j:Int)):=by
 unfold cT
 simp only[hj,h]
 rfl
abbrev yT:Spc:=dG (a2 B Int) (fun x=> (0≤x.2∧x.2 < x.1.size)∧x.1.size≤100000) (LS (Y:=B) (Z:=Int)) fun x y=> y=AI x.1 x.2.toNat
abbrev Ax:Spc:=dG (a2 B Int) (fun x=> (0≤x.2∧x.2≤x.1.size)∧x.1.size≤100000) (LS (Y:=Tz) (Z:=Int)) fun x y=> y=cT x.1 x.2.toNat
theorem Mv (a1':S0 gC=B6) (a2':S0 fm=FZ) (a3':S0 ch=ni) (h1:S ji=KO S0) (h2:S eD=pY) (h3:S ch=ni) (h4:S jj=yT) (h5:S eT=lO) (h6:S eS=s_indexByte):
 Walk uB tV S (a2 B Int) (fun x=> (0≤x.2∧x.2≤x.1.size)∧x.1.size≤100000) (LS (Y:=Tz) (Z:=Int)) fun x y=> y=cT x.1 x.2.toNat:=by
 rintro⟨s,i⟩ ⟨⟨h0,hi⟩,hbig⟩
 simp only at h0 hi hbig
 have f1:FunIs S0 (.clo gC []) Tu:=ti a1' fun _=> trivial
 have f2:FunIs S0 (.clo fm []) EA:=ti a2' fun _=> trivial
 have f3:FunIs S0 (.clo ch []) pP:=ti a3' fun _=> trivial
 have r1:Ot S0 (s,i, .clo gC [],()):=⟨⟨_,f1⟩,h0,hi⟩
 simp[uB,tV,h1,r1]
 intro b y hy
 have hy:y=o5 Tu s i.toNat:=hy Tu f1
 have hj:o5 Tu s i.toNat=bV s i.toNat:=Gf _ _ _
 have hr:=qb Tu (s:=s) (i:=i.toNat) (by omega)
 rw[hj] at hy hr
 obtain⟨j,hjj⟩: ∃j,j=bV s i.toNat:=⟨_,rfl⟩
 rw[←hjj] at hy hr
 subst hy
 refine fG (X:=Unit) [0,1,4] [4] (fun _=> j < s.size∧(s.size:Int)≤9223372036854775807) (fun _=> []) (fun _=> []) ?_ ?_
 ·simp
  refine fun hsz=> ⟨fun he=> ⟨⟨0,E0,j⟩, .same _,?_⟩,fun h=> ⟨by omega,hsz⟩⟩
  have he:j=s.size:=by omega
  rw[Vw (by rw[←hjj];exact he),he]
 ·rintro - ⟨hlt,hsz⟩
  obtain⟨c,hc⟩: ∃c,s.data[j]?=some c:=⟨s.data[j]'hlt,Array.getElem?_eq_getElem hlt⟩
  have hl:=YD hjj.symm hc
  have r2:Ot S0 (s,(j:Int), .clo fm [],()):=⟨⟨_,f2⟩,by show(0:Int)≤j;omega,by show(j:Int)≤s.size;omega⟩
  have r3:Ot S0 (s,(j:Int), .clo ch [],()):=⟨⟨_,f3⟩,by show(0:Int)≤j;omega,by show(j:Int)≤s.size;omega⟩
  have hgc:s.data[j]'hlt=c:=by
   have:=Array.getElem?_eq_some_iff.1 hc
   exact this.2
  simp[hlt,hc,hgc]
  refine fG (X:=Unit) [0,1,4,6] [4] (fun _=> CQ ⟨c.toNat⟩=false∧pP ⟨c.toNat⟩=false∧c.toNat≠34) (fun _=> []) (fun _=> []) ?_ ?_
  ·have e2: ∀y:Int,Rl S0 (s,(j:Int), .clo fm [],()) y→y=om s j:=fun y hy=> by
    have:y=o5 EA s j:=hy EA f2
    rw[this];exact congrArg _ (EX _ _ _)
   have e3: ∀y:Int,Rl S0 (s,(j:Int), .clo ch [],()) y→y=oU s j:=fun y hy=> by
    have:y=o5 pP s j:=hy pP f3
    rw[this];exact congrArg _ (AB _ _ _)
   have g2:j≤om s j∧om s j≤s.size:=by
    have:=qb EA hr.2
    rwa [show o5 EA s j=om s j from EX _ _ _] at this
   have g3:j≤oU s j∧oU s j≤s.size:=by
    have:=qb pP hr.2
    rwa [show o5 pP s j=oU s j from AB _ _ _] at this
   simp[h1,h2,h3,h4,r2,r3,hlt,hbig,LS, -Bool.forall_bool]
   refine⟨fun hb y hy=> ?_,fun hb=> ⟨fun hd y hy=> ?_,fun hd=> ⟨fun hq=> ?_,fun hq=> ?_⟩⟩⟩
   ·have:=e2 y hy
    subst this
    refine⟨by omega,by omega,⟨2,s.extract j (om s j),j⟩, .same _,?_⟩
    rw[hl,if_pos hb]
   ·have:=e3 y hy
    subst this
    refine⟨by omega,by omega,⟨3,s.extract j (oU s j),j⟩, .same _,?_⟩
    rw[hl,if_neg (by rw[hb];simp),if_pos hd]
   ·have hq':c.toNat=34:=by omega
    refine⟨fun hn _=> ⟨⟨1,E0,j⟩, .same _,?_⟩,fun hn=> ⟨⟨4,(AI s j).1,j⟩, .same _,?_⟩⟩
    ·rw[hl,if_neg (by rw[hb];simp),if_neg (by rw[hd];simp),if_pos hq',if_pos hn]
    ·rw[hl,if_neg (by rw[hb];simp),if_neg (by rw[hd];simp),if_pos hq',if_neg (by omega)]
   ·exact⟨hb,hd,by omega⟩
  ·rintro - ⟨n1,n2,n3⟩
   have hl:cT s i.toNat=match signsL.find? (iH s j) with
    | some x=> (⟨5,x,j⟩,j+x.size)
    | none=> (⟨1,E0,j⟩,(j:Int)):=by
    rw[hl,if_neg (by rw[n1];simp),if_neg (by rw[n2];simp),if_neg n3]
   refine fG (X:=Unit) [0,1,4,6] [4] (fun _=> ∀x∈twoL,iH s j x=false) (fun _=> []) (fun _=> []) ?_ ?_
   ·simp
    have hjs:j≤s.size:=hr.2
    have two: ∀x∈twoL,x.size=2:=fun x hx=> by simp[twoL] at hx;rcases hx with rfl | rfl | rfl | rfl <;> rfl
    refine aO (X:=Unit) [0,1,4,6,71] [4] 4 (fun k _=> ∀y∈twoL.take k,iH s j y=false) (fun _=> []) (fun _=> []) () (by simp) (by simp) (by omega) (by simp) (by simp) (by simp) (by simp) (by simp) ?_ ?_
    ·rintro k -hk hP
     have key: ∀x,twoL[k]?=some x→(iH (s.extract j s.size) 0 x=true→InR .i64 ((j:Int) +2)∧ ∃y:Tz,y=⟨5,x,j⟩∧(y,(j:Int) +2)=cT s i.toNat)∧(iH (s.extract j s.size) 0 x=false→ ∀y∈twoL.take (k+1),iH s j y=false):=fun x hx=> by
      rw[UU hjs]
      refine⟨fun h=> ?_,fun h y hy=> ?_⟩
      ·have h2:=two x (List.mem_of_getElem? hx)
       have h3:j+x.size≤s.size:=by unfold iH at h;exact(of_decide_eq_true h).1
       refine⟨by simp only[InR];omega,_,rfl,?_⟩
       rw[hl,YP hx hP h]
       show _=(_,(j:Int) +x.size)
       rw[h2]
       rfl
      ·rw[cC hx] at hy
       rcases List.mem_append.1 hy with hy | hy
       ·exact hP y hy
       ·rw[List.mem_singleton.1 hy];exact h
     obtain rfl | rfl | rfl | rfl:k=0∨k=1∨k=2∨k=3:=by omega
     ·have key:=key _ rfl
      simp[h5,hjs, -Bool.forall_bool]
      refine⟨fun h=> ?_,fun h=> key.2 h⟩
      obtain⟨k1,y,rfl,k2⟩:=key.1 h
      exact⟨k1,_, .same _,k2⟩
     ·have key:=key _ rfl
      simp[h5,hjs, -Bool.forall_bool]
      refine⟨fun h=> ?_,fun h=> key.2 h⟩
      obtain⟨k1,y,rfl,k2⟩:=key.1 h
      exact⟨k1,_, .same _,k2⟩
     ·have key:=key _ rfl
      simp[h5,hjs, -Bool.forall_bool]
      refine⟨fun h=> ?_,fun h=> key.2 h⟩
      obtain⟨k1,y,rfl,k2⟩:=key.1 h
      exact⟨k1,_, .same _,k2⟩
     ·have key:=key _ rfl
      simp[h5,hjs, -Bool.forall_bool]
      refine⟨fun h=> ?_,fun h=> key.2 h⟩
      obtain⟨k1,y,rfl,k2⟩:=key.1 h
      exact⟨k1,_, .same _,k2⟩
    ·rintro -hP
     simp
     exact fun x hx=> hP x (by rw[show twoL.take 4=twoL from rfl];exact hx)
   ·rintro -htw
    have hf:signsL.find? (iH s j)=if c∈oneS.data.toList then some ⟨#[c]⟩ else none:=by rw[VZ htw,NJ hc]
    rw[hf] at hl
    have hm:=VI oneS c
    unfold oneS at hm hl
    have c256: (c.toNat:Int) < 256:=by have:=c.toNat_lt;omega
    simp[h6,c256]
    refine⟨fun h=> ⟨by simp only[InR];omega,by omega,by omega,by simp only[InR];omega,⟨5,s.extract j (j+1),j⟩, .same _,?_⟩,fun h=> ⟨⟨1,E0,j⟩, .same _,?_⟩⟩
    ·rw[hl,if_pos (hm.1 h),LY hc]
     rfl
    ·rw[hl,if_neg (fun h'=> by have:=hm.2 h';omega)]
end Go.Gv

namespace Go.Gv
open Cod (enc dec)
variable {S S0:Nat→Spc}
def Tn (l:List UInt8):List D:=l.map fun c=> .v (.int .u8 c.toNat)
theorem WN (c:UInt8):L5 (.v (.int .u8 c.toNat))=some c:=by simp[L5]
theorem E8 (l:List UInt8):Y7 (Tn l)=true:=by
 simp[Y7,Tn,List.all_eq_true]
 intro c _
 rw[WN];rfl
theorem Y5 (l:List UInt8):Y6 (Tn l)=⟨l.toArray⟩:=by
 unfold Y6 Tn
 rw[List.map_map]
 congr 2
 conv=> rhs;rw[←List.map_id l]
 refine List.map_congr_left fun c _=> ?_
 simp only[Function.comp]
 rw[WN];rfl
theorem tX: ∀ (n m:Nat) (s:B) (j:Nat) (v:B),s.size -j≤n→s.size -j≤m→kI n s j v=kI m s j v
 | 0,0,s,j,v,_,_=> rfl
 | 0,m+1,s,j,v,h,_=> by
   have:s.data[j]?=none:=Array.getElem?_eq_none (by show s.size≤j;omega)
   simp only[kI,this]
 | n+1,0,s,j,v,_,h=> by
   have:s.data[j]?=none:=Array.getElem?_eq_none (by show s.size≤j;omega)
   simp only[kI,this]
 | n+1,m+1,s,j,v,h,h'=> by
   simp only[kI]
   rw[tX n m s (j+1) _ (by omega) (by omega),tX n m s (j+2) _ (by omega) (by omega)]
theorem Cp {s:B} {j:Nat} {v:B} {c:UInt8} (hc:s.data[j]?=some c):nA s j v=if c.toNat=34 then(match s.data[j+1]? with
 | some d=> if d.toNat=34 then nA s (j+2) (v++s.extract (j+1) (j+2)) else some (j,v)
 | none=> some (j,v)) else nA s (j+1) (v++s.extract j (j+1)):=by
 have hlt:j < s.size:=(Array.getElem?_eq_some_iff.1 hc).1
 unfold nA
 rw[tX (s.size -j) (s.size - (j+1) +1) s j v (by omega) (by omega)]
 simp only[kI,hc]
 rw[tX (s.size - (j+2)) (s.size - (j+1)) s (j+2) _ (by omega) (by omega)]
 by_cases h:c.toNat=34
 ·rw[if_pos h,if_pos h]
  cases s.data[j+1]? <;> rfl
 ·rw[if_neg h,if_neg h]
theorem UO {s:B} {j:Nat} {v:B} (h:s.size≤j):nA s j v=none:=by
 unfold nA
 rw[show s.size -j=0 by omega]
 rfl
theorem M1 (l:List UInt8) (c:UInt8): (⟨l.toArray⟩:B) ++ ⟨#[c]⟩=⟨(l++ [c]).toArray⟩:=by
 show ByteArray.append _ _=_
 apply ByteArray.ext
 show((⟨l.toArray⟩:B) ++ (⟨#[c]⟩:B)).data=_
 rw[ByteArray.data_append]
 simp
theorem Fm:Walk pq pa S (a2 B Int) (fun x=> (0≤x.2∧x.2 < x.1.size)∧x.1.size≤100000) (LS (Y:=B) (Z:=Int)) fun x y=> y=AI x.1 x.2.toNat:=by
 rintro⟨s,i⟩ ⟨⟨h0,hi⟩,hb⟩
 simp only at h0 hi hb
 simp[pq,pa]
 refine⟨by simp only[InR];omega,?_⟩
 refine cy (X:=Nat×Value×List UInt8) [0] [] (fun x=> i.toNat < x.1∧x.2.2.length≤x.1∧x.1≤s.size+1∧nA s x.1 ⟨x.2.2.toArray⟩=nA s (i.toNat+1) ⟨#[]⟩) (fun x=> [(6, .own 43 x.2.1),(7,enc (x.1:Int))]) (fun x=> [(43, .row x.2.1 vD 1 (Tn x.2.2))]) (fun x=> s.size+1 -x.1) (i.toNat+1, .slice none 0 0, []) ⟨by omega,by simp,by omega,rfl⟩ (by simp;omega) (by simp[isNilRow,Tn]) ?_
 rintro⟨k,v,l⟩ ⟨hk,hl,hks,hq⟩
 simp only at hk hl hks hq
 simp
 have hlen: (Tn l).length=l.length:=by simp[Tn]
 have done: ∀ {c:UInt8},s.data[k]?=some c→c.toNat=34→(∀d,s.data[k+1]?=some d→d.toNat≠34)→(Y6 (Tn l),(k:Int) +1)=AI s i.toNat:=by
  intro c hc h34 hno
  unfold AI
  rw[←hq,Cp hc,if_pos h34,Y5]
  cases hd:s.data[k+1]? with
  | none=> rfl
  | some d=>
    simp only
    rw[if_neg (hno d hd)]
 have more: ∀ (v:Value) (a:Nat) (c:UInt8),k < a→a≤s.size+1→nA s a ⟨(l++ [c]).toArray⟩=nA s (i.toNat+1) ⟨#[]⟩→ ∀z:Int,z=a→
  ∃ (a:Nat) (a_1:Value) (b:List UInt8),(i.toNat < a∧b.length≤a∧a≤s.size+1∧nA s a ⟨b.toArray⟩=nA s (i.toNat+1) ⟨#[]⟩)∧
   ((v=a_1∧z= ↑a)∧(v=a_1∧Tn l++ [D.v (Value.int IntKind.u8 ↑c.toNat)]=Tn b∨isNilRow (Res.row a_1 vD 1 (Tn b))))∧s.size+1 -a < s.size+1 -k:=by
  intro v a c h1 h2 h3 z hz
  exact⟨a,v,l++ [c],⟨by omega,by simp;omega,h2,h3⟩,⟨⟨rfl,hz⟩, .inl ⟨rfl,by simp[Tn]⟩⟩,by omega⟩
 refine fun hsz=> ⟨fun hlt=> ⟨hlt,fun c hc=> ⟨fun h34=> ⟨by simp only[InR];omega,fun _=> ⟨fun hne=> ⟨by simp only[InR];omega,by omega,by omega,fun d hd=> ⟨fun hn=> ⟨E8 l,by simp only[InR];omega,?_⟩,fun hy=> ⟨by simp only[InR];omega,by omega,by omega,fun d' hd'=> ⟨by omega,fun v=> ⟨by simp only[InR];omega,?_⟩⟩⟩⟩⟩,fun he=> ⟨E8 l,by simp only[InR];omega,?_⟩⟩⟩,fun h34=> ⟨hlt,fun c' hc'=> ⟨by omega,fun v=> ⟨by simp only[InR];omega,?_⟩⟩⟩⟩⟩,fun hge=> ?_⟩
 ·exact done hc (by omega) fun d' hd'=> by rw[hd] at hd';cases hd';omega
 ·rw[hd] at hd'
  cases hd'
  refine more v (k+2) d (by omega) (by omega) ?_ _ (by omega)
  rw[←hq,Cp hc,if_pos (by omega),hd]
  simp only
  rw[if_pos (by omega),LY hd,M1]
 ·exact done hc (by omega) fun d' hd'=> by
   have:=(Array.getElem?_eq_some_iff.1 hd').1
   have:k+1 < s.size:=this
   omega
 ·rw[hc] at hc'
  cases hc'
  refine more v (k+1) c (by omega) (by omega) ?_ _ (by omega)
  rw[←hq,Cp hc,if_neg (by omega),LY hc,M1]
 ·unfold AI
  rw[←hq,UO hge]
end Go.Gv

namespace Go.Gv
open Cod (enc dec)
open Go.Proofs Go.RowKit
theorem VJ (s:B) (c:Int) (c0:0≤c) (c1:c < 256):Lib.indexByte s.data.toList c.toNat.toUInt8=PM s ⟨c⟩:=by
 unfold PM
 have e: ∀x:UInt8,(x==c.toNat.toUInt8)=decide ((x.toNat:Int)=c):=fun x=> by
  have h1:c.toNat.toUInt8.toNat=c.toNat:=by
   rw[Nat.toUInt8,UInt8.toNat_ofNat']
   omega
  rw[Bool.eq_iff_iff]
  simp only[beq_iff_eq,decide_eq_true_eq]
  constructor
  ·rintro rfl
   omega
  ·intro h
   exact UInt8.toNat_inj.1 (by omega)
 have key: ∀l:List UInt8,Lib.indexByte l c.toNat.toUInt8=match l.findIdx? (fun x=> decide ((x.toNat:Int)=c)) with
  | some k=> (k:Int)
  | none=> -1:=by
  intro l
  induction l with
  | nil=> rfl
  | cons x l ih=>
    rw[Lib.indexByte,List.findIdx?_cons,e x]
    by_cases h: (x.toNat:Int)=c
    ·simp[h]
    ·simp only[h,decide_false,Bool.false_eq_true,if_false]
     rw[ih]
     cases l.findIdx? (fun x=> decide ((x.toNat:Int)=c)) with
     | none=> rfl
     | some k=>
       have: ¬ ((k:Int)= -1):=by omega
       simp[this]
 exact key _
theorem ER (s:ByteArray) (c:Int) (w:World):Calls Tryz.prog 180 #[.string s, .int .u8 c] w fun e w'=> e= .returned (.int .i64 (Lib.indexByte s.data.toList c.toNat.toUInt8))∧w'=w:=by
 go_enter Tryz.func180,Tryz.ntmps180
 go_wp2
 rw[run_callFunc_extern Tryz.func190 (by kernel_rfl) (by kernel_rfl) (by kernel_rfl) (e:=Extern.BytealgIndexByte.indexByte) (by kernel_rfl),Lib.run_indexByteString]
 simp only[Result.andThen]
 rw[Oper.upon_value]
 go_wp2
 go_ret
 exact⟨rfl,rfl⟩
theorem sK:Tri Tryz.prog cB s_indexByte.pt:=by
 refine Ji (pV Tryz.func180 (by kernel_rfl) rfl) fun tp I w vs x hp hI hl hv=> ?_
 obtain⟨s,⟨c⟩⟩:=x
 obtain⟨c0,c1⟩:=hp
 have hview: (a2 B U8).view (s,⟨c⟩)= [.v (.string s), .v (.int .u8 c)]:=rfl
 rw[hview] at hl hv
 match vs,hl with
 | [v0,v1],_=>
   have e0:=Qt (hv 0 v0 _ rfl rfl)
   have e1:=Qt (hv 1 v1 _ rfl rfl)
   subst e0;subst e1
   refine(ER s c w).mono ?_
   rintro e w' ⟨rfl,rfl⟩
   refine⟨_,PM s ⟨c⟩,rfl,rfl,fun tp' I'=> ?_,Below.refl _ _,Nat.le_refl _⟩
   rw[VJ s c c0 c1]
   exact .int _ _
end Go.Gv
