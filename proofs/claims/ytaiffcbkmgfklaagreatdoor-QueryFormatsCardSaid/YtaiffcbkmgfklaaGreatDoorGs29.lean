/- A part of the framework and of the walks: T26 T28 T27 V17 W61 W68. -/
import Derived.Below
import Derived.Test.YtaiffcbkmgfklaaGreatDoorGs28
import Derived.Test.YtaiffcbkmgfklaaGreatDoorGs22
import Derived.Test.YtaiffcbkmgfklaaGreatDoorGs25
set_option linter.unusedSimpArgs false
set_option linter.unusedVariables false
set_option linter.unusedSectionVars false
set_option maxRecDepth 100000

namespace Go.Gv
open Cod (enc dec)
section
variable {X Y Z:Type}
def Qu (M:Nat→X→Res) (B:vi X) (er:Y→D) (b:Nat) (post:X→Y→Prop) (r:D) (H:ae):Prop:= ∃x y,FrzTo (fun i=> if i=0∨i∈B.ids then none else H i) r (er y)∧H 0=some (M b x)∧(∀p∈B.hp x,H p.1=some p.2)∧post x y
def qce (M:Nat→X→Res) (B:Nat→vi X) (A:lB Z) (er:Y→D) (pre:X→Z→Prop) (post:X→Z→X→Y→Prop):PT:=fun d ds H K=> ∃id b x z ds',ds= .bptr id b 0::ds'∧A.dec ds'=some z∧H id=some (M b x)∧(∀p∈ (B b).hp x,H p.1=some p.2)∧id∉ (B b).ids∧pre x z∧
 ∀x' y,post x z x' y→K (er y) (aq (ig ((B b).hp x') H) id (some (M b x')))
theorem XO (M:Nat→X→Res) (B:Nat→vi X) (A:lB Z) (er:Y→D) (pre:X→Z→Prop) (post:X→Z→X→Y→Prop):uD (qce M B A er pre post):=fun d ds H K K' hk ⟨id,b,x,z,ds',h1,h2,h3,h4,h5,h6,h7⟩=> ⟨id,b,x,z,ds',h1,h2,h3,h4,h5,h6,fun x' y hp=> hk _ _ (h7 x' y hp)⟩
def qhy (M:Nat→X→Res) (B:Nat→vi X) (A:lB Z) (er:Y→D) (pre:X→Z→Prop) (post:X→Z→X→Y→Prop):Spc:= .gen _ (XO M B A er pre post)
theorem Qn {M:Nat→X→Res} {B:Nat→vi X} {A:lB Z} {er:Y→D} {pre:X→Z→Prop} {post:X→Z→X→Y→Prop} {N:Nat} (h1i: ∀b,0∉ (B b).ids) (hN: ∀z,(A.view z).length+1≤N) {V: (D→ae→Prop)→List D→ae→Prop}
 (hw: ∀b x z,pre x z→V (fun r H'=> Qu M (B b) er b (post x z) r H') (.bptr 0 b 0::A.view z) (aq (ig ((B b).hp x) cZ) 0 (some (M b x)))):
 ∀ (ds:List D) (H:ae) (d:Nat) (K:D→ae→Prop),qce M B A er pre post d ds H K→ds.length≤N∧
  ∃ (ds':List D) (H0:ae) (ι:Nat→Nat),LeL ds ds'∧(∀i r,H0 i=some r→H (ι i)=some r)∧(∀i j r s,H0 i=some r→H0 j=some s→ι i=ι j→i=j)∧
   ∃Q:D→ae→Prop,V Q ds' H0∧ ∀r H',Q r H'→ ∃ (r':D) (Hf Hc:ae) (κ:Nat→Option Nat),FrzTo Hf r r'∧(∀j q,Hf j=some q→H' j=some q∧ ∀i,κ i≠some j)∧K r' Hc∧
    (∀i s,Hc i=some s→match κ i with | some j=> H' j=some s | none=> H i=some s∧ ∀k q,H0 k=some q→ι k≠i)∧
    (∀i j k s q,Hc i=some s→Hc j=some q→κ i=some k→κ j=some k→i=j):=by
 rintro ds H d K ⟨id,b,x,z,ds',rfl,hd,hid,hhp,hni,hp,hK⟩
 have hl:=A.le ds' z hd
 have h0: ∀i r,aq (ig ((B b).hp x) cZ) 0 (some (M b x)) i=some r→i=0∧r=M b x∨i≠0∧(i,r) ∈ (B b).hp x:=by
  intro i r h
  by_cases e:i=0
  ·subst e
   simp only[aq,if_true] at h
   cases h
   exact .inl ⟨rfl,rfl⟩
  ·simp only[aq,e,if_false] at h
   exact .inr ⟨e,AO h⟩
 have hk: ∀ {x:X} {i:Nat} {r:Res},(i,r) ∈ (B b).hp x→i∈ (B b).ids:=by
  intro x i r h
  rw[← (B b).keys x]
  exact List.mem_map.2 ⟨_,h,rfl⟩
 refine⟨by simp only[List.length_cons];rw[hl.1];exact hN z, .bptr 0 b 0::A.view z,aq (ig ((B b).hp x) cZ) 0 (some (M b x)),fun i=> if i=0 then id else i, .cons (.bptr _ _ _ _) hl,fun i r h=> ?_,fun i j r s h h' e=> ?_,_,hw b x z hp,?_⟩
 ·rcases h0 i r h with⟨rfl,rfl⟩ | ⟨e,hm⟩
  ·exact hid
  ·simp only[e,if_false]
   exact hhp _ hm
 ·rcases h0 i r h with⟨rfl,rfl⟩ | ⟨e1,hm⟩
  ·rcases h0 j s h' with⟨rfl,rfl⟩ | ⟨e2,hm2⟩
   ·rfl
   ·simp only[e2,if_true,if_false] at e
    subst e
    exact absurd (hk hm2) hni
  ·rcases h0 j s h' with⟨rfl,rfl⟩ | ⟨e2,hm2⟩
   ·simp only[e1,if_true,if_false] at e
    subst e
    exact absurd (hk hm) hni
   ·simpa only[e1,e2,if_false] using e
 ·rintro r H' ⟨x',y,hfr,hj,hhp',hpost⟩
  refine⟨er y,fun i=> if i=0∨i∈ (B b).ids then none else H' i,aq (ig ((B b).hp x') H) id (some (M b x')),fun i=> if i=id then some 0 else if i∈ (B b).ids then some i else none,hfr,fun j q h=> ?_,hK x' y hpost,fun i s hi=> ?_,fun i j' k s q hi hj' e1 e2=> ?_⟩
  ·by_cases e:j=0∨j∈ (B b).ids
   ·simp[e] at h
   ·simp only[e,if_false] at h
    refine⟨h,fun i hh=> e ?_⟩
    by_cases e1:i=id
    ·simp only[e1,if_true] at hh
     cases hh
     exact .inl rfl
    ·simp only[e1,if_false] at hh
     by_cases e2:i∈ (B b).ids
     ·simp only[e2,if_true] at hh
      cases hh
      exact .inr e2
     ·simp[e2] at hh
  ·by_cases e:i=id
   ·subst e
    simp only[aq,if_true] at hi
    cases hi
    simpa using hj
   ·simp only[aq,e,if_false] at hi ⊢
    by_cases e2:i∈ (B b).ids
    ·simp only[e2,if_true]
     exact hhp' _ (AP (by rw[(B b).keys];exact e2) hi)
    ·simp only[e2,if_false]
     rw[AN (by rw[(B b).keys];exact e2)] at hi
     refine⟨hi,fun k q h he=> ?_⟩
     rcases h0 k q h with⟨rfl,rfl⟩ | ⟨e3,hm⟩
     ·simp only[if_true] at he
      exact e he.symm
     ·simp only[e3,if_false] at he
      subst he
      exact e2 (hk hm)
  ·by_cases c1:i=id
   ·by_cases c2:j'=id
    ·exact c1.trans c2.symm
    ·simp only[c1,if_true] at e1
     cases e1
     simp only[c2,if_false] at e2
     by_cases c3:j'∈ (B b).ids
     ·simp only[c3,if_true] at e2
      cases e2
      exact absurd c3 (h1i b)
     ·simp[c3] at e2
   ·simp only[c1,if_false] at e1
    by_cases c3:i∈ (B b).ids
    ·simp only[c3,if_true] at e1
     cases e1
     by_cases c2:j'=id
     ·simp only[c2,if_true] at e2
      cases e2
      exact absurd c3 (h1i b)
     ·simp only[c2,if_false] at e2
      by_cases c4:j'∈ (B b).ids
      ·simp only[c4,if_true] at e2
       cases e2
       rfl
      ·simp[c4] at e2
    ·simp[c3] at e1
variable {P:Program} {S:Nat→Spc} {f:Nat} {im:List Nat} {cc:CC} {rs:List aK} {N:Nat}
def ZY (cc:CC) (rs:List aK) (S:Nat→Spc) (M:Nat→X→Res) (B:Nat→vi X) (A:lB Z) (er:Y→D) (pre:X→Z→Prop) (post:X→Z→X→Y→Prop):Prop:=
 ∀b x z,pre x z→vc S cc (vO rs fun r H'=> Qu M (B b) er b (post x z) r H') (eS (.bptr 0 b 0::A.view z)) (aq (ig ((B b).hp x) cZ) 0 (some (M b x)))
theorem N1 {M:Nat→X→Res} {B:Nat→vi X} {A:lB Z} {er:Y→D} {pre:X→Z→Prop} {post:X→Z→X→Y→Prop} (h1i: ∀b,0∉ (B b).ids) (hS: ∀f,Tri P f (S f).pt) (h:aS P f im cc rs N) (hN: ∀z,(A.view z).length+1≤N) (hw:ZY cc rs S M B A er pre post):Tri P f (qhy M B A er pre post).pt:=by
 obtain⟨Ea,enter,fn,code,h1,h2,h3,h4,h5⟩:=h
 exact nt hS Ea h1 h2 enter h3 h4 h5 (Qn h1i hN (V:=fun Q ds H=> vc S cc (vO rs Q) (eS ds) H) hw)
theorem Q2 {fn:Func} {M:Nat→X→Res} {B:Nat→vi X} {A:lB Z} {er:Y→D} {pre:X→Z→Prop} {post:X→Z→X→Y→Prop} (h1i: ∀b,0∉ (B b).ids) (hce:fp P f) (hN':fn.ntmps=N) (hrs:fn.results.toList.mapM (fC P)=some rs) (hN: ∀z,(A.view z).length+1≤N)
 {V: (D→ae→Prop)→List D→ae→Prop}
 (hrun: ∀ (E:pR) (ds':List D) (H0:ae) (Q:D→ae→Prop) (vs:List Value) (w:World) (R:Ending→World→Prop),E.ds= []→E.N=N→vs.length=ds'.length→St E (eS ds') H0 { tmps:=vs.toArray++Array.replicate (fn.ntmps -vs.toArray.size) undef,defers:= [] } w→V Q ds' H0→
   (∀ (a':Act) (w':World) (σ':Sg) (H':ae) (dl:List Deferred),St { E with ds:=dl } σ' H' a' w'→(l8 rs σ' H' fun ds=> Q (dt ds) H')→ ∃v,(results fn a'.tmps).run P w'= .ok v w'∧R (.returned v) w')→Calls P f vs.toArray w R)
 (hw: ∀b x z,pre x z→V (fun r H'=> Qu M (B b) er b (post x z) r H') (.bptr 0 b 0::A.view z) (aq (ig ((B b).hp x) cZ) 0 (some (M b x)))):Tri P f (qhy M B A er pre post).pt:=
 yH hce hN' hrs hrun (Qn h1i hN hw)
end
theorem Bs {σ:Sg} {H:ae} : ∀ {rs:List aK} {F G:List D→Prop},(∀ds,F ds→G ds)→l8 rs σ H F→l8 rs σ H G
 | [],F,G,hFG,h=> hFG _ h
 | .tmp t::rs,F,G,hFG,h=> Bs (rs:=rs) (fun ds h=> hFG _ h) h
 | .cell t agg sz::rs,F,G,hFG,h=> vP (fun d h=> Bs (rs:=rs) (fun ds h=> hFG _ h) h) h
structure qaG where
 u:Bool
 v:Value
 s:ByteArray
def pv (b:Nat) (u:Bool):Value:= .pointer (if u then some ⟨b,0,none⟩ else none)
def bD (s:ByteArray):List D:=s.data.toList.map fun c=> .v (.int .u8 c.toNat)
def qcv (el:Nat) (b:Nat):vi qaG:=⟨[900],fun x=> [.v (pv b x.u), .own 900 x.v],fun x=> [(900, .row x.v el 1 (bD x.s))],fun _=> rfl⟩
@[simp] theorem qcu (el b:Nat): (qcv el b).ids= [900]:=id rfl
@[simp] theorem Sx (el b:Nat) (x:qaG): (qcv el b).hp x= [(900, .row x.v el 1 (bD x.s))]:=id rfl
theorem YN {a b:UInt8} (h: (a.toNat:Int)=b.toNat):a=b:=UInt8.toNat_inj.1 (by omega)
theorem ZW {s t:ByteArray} (h:bD s=bD t):s=t:=by
 obtain⟨⟨s⟩⟩:=s
 obtain⟨⟨t⟩⟩:=t
 simp only[bD] at h
 have:s=t:=by
  induction s generalizing t with
  | nil=> cases t with
    | nil=> rfl
    | cons b t=> simp at h
  | cons a s ih=> cases t with
    | nil=> simp at h
    | cons b t=>
      simp only[List.map_cons,List.cons.injEq,D.v.injEq,Value.int.injEq,true_and] at h
      rw[YN h.1,ih t h.2]
 rw[this]
def qer (el b:Nat) (x:qaG):Res:= .tbox el b [.v (pv b x.u), .own 900 x.v]
@[simp] theorem Sw (el b:Nat) (x:qaG):qer el b x= .tbox el b [.v (pv b x.u), .own 900 x.v]:=id rfl
def mi:Nat:=1000000
section
variable {Z:Type}
def QD (tw el:Nat) (A:lB Z) (r:D) (T:Z→Option ByteArray):Spc:=qhy (Y:=Unit) (qer tw) (qcv el) A (fun _=> r) (fun x z=> ∃t,T z=some t∧x.s.size+t.size≤mi) (fun x z x' _=> ∃t,T z=some t∧x'.s=x.s++t)
def YH (tw el:Nat) (r:D) (T:Z→Option ByteArray) (i b:Nat) (q q9:Option Res) (o:Option Z) (H:ae) (K:D→ae→Prop):Prop:=
 ∃x:qaG,q=some (.tbox tw b [.v (pv b x.u), .own 900 x.v])∧q9=some (.row x.v el 1 (bD x.s))∧i≠900∧mW o fun z=> mW (T z) fun t=> x.s.size+t.size≤mi∧ ∀u v,K r (aq (aq H 900 (some (.row v el 1 (bD (x.s++t))))) i (some (.tbox tw b [.v (pv b u), .own 900 v])))
@[congr] theorem qes {tw el:Nat} {r:D} {T:Z→Option ByteArray} {i b:Nat} {q q' q9 q9':Option Res} {o o':Option Z} {H:ae} {K:D→ae→Prop} (h1:q=q') (h2:q9=q9') (h3:o=o'):YH tw el r T i b q q9 o H K=YH tw el r T i b q' q9' o' H K:=by subst h1;subst h2;subst h3;rfl
theorem Nt (i:Nat) (r:Res) (H:ae):ig [(i,r)] H=aq H i (some r):=rfl
@[simp] theorem qet (tw el:Nat) (A:lB Z) (r:D) (T:Z→Option ByteArray) (d i b:Nat) (ds:List D) (H:ae) (K:D→ae→Prop): (QD tw el A r T).pt d (.bptr i b 0::ds) H K=YH tw el r T i b (H i) (H 900) (A.dec ds) H K:=by
 refine propext ⟨fun h=> ?_,fun h=> ?_⟩
 ·obtain⟨id,b',x,z,ds',h1,h2,h3,h4,h5,⟨t,h6,h7⟩,h8⟩:=h
  cases h1
  refine⟨x,h3,h4 (900,_) (by simp),by simpa using h5,?_⟩
  rw[h2]
  show mW (T z) _
  rw[h6]
  refine⟨h7,fun u v=> ?_⟩
  have:=h8 ⟨u,v,x.s++t⟩ () ⟨t,h6,rfl⟩
  simpa only[Sx,Sw,Nt] using this
 ·obtain⟨x,h1,h2,h3,h4⟩:=h
  cases hz:A.dec ds with
  | none=> rw[hz] at h4;exact h4.elim
  | some z=>
    rw[hz] at h4
    have h4:mW (T z) _:=h4
    cases ht:T z with
    | none=> rw[ht] at h4;exact h4.elim
    | some t=>
      rw[ht] at h4
      refine⟨i,b,x,z,ds,rfl,hz,h1,fun p hp=> ?_,by simpa using h3,⟨t,ht,h4.1⟩,fun x' y hq=> ?_⟩
      ·simp at hp
       subst hp
       exact h2
      ·obtain⟨t',h5,h6⟩:=hq
       rw[ht] at h5
       cases h5
       have:=h4.2 x'.u x'.v
       rw[←h6] at this
       simpa only[Sx,Sw,Nt] using this
@[simp] theorem qh2 (tw el:Nat) (r:D) (T:Z→Option ByteArray) (i b:Nat) (u:Bool) (v:Value) (s:ByteArray) (o:Option Z) (H:ae) (K:D→ae→Prop):
 YH tw el r T i b (some (.tbox tw b [.v (pv b u), .own 900 v])) (some (.row v el 1 (bD s))) o H K=(i≠900∧mW o fun z=> mW (T z) fun t=> s.size+t.size≤mi∧ ∀u v,K r (aq (aq H 900 (some (.row v el 1 (bD (s++t))))) i (some (.tbox tw b [.v (pv b u), .own 900 v])))):=by
 refine propext ⟨fun⟨x,h1,h2,h3,h4⟩=> ?_,fun h=> ⟨⟨u,v,s⟩,rfl,rfl,h⟩⟩
 simp only[Option.some.injEq,Res.row.injEq,true_and] at h2
 have:=ZW h2.2
 subst this
 exact⟨h3,h4⟩
def Z8 (tw el b:Nat) (s:ByteArray) (r:D) (d:D) (H:ae):Prop:= ∃u v,FrzTo cZ d r∧H 0=some (.tbox tw b [.v (pv b u), .own 900 v])∧H 900=some (.row v el 1 (bD s))
def nj (cc:CC) (rs:List aK) (S:Nat→Spc) (tw el:Nat) (A:lB Z) (r:D) (T:Z→Option ByteArray):Prop:=
 ∀b u v s z t,T z=some t→s.size+t.size≤mi→vc S cc (vO rs fun d H'=> Z8 tw el b (s++t) r d H') (eS (.bptr 0 b 0::A.view z)) (aq (aq cZ 900 (some (.row v el 1 (bD s)))) 0 (some (.tbox tw b [.v (pv b u), .own 900 v])))
theorem qgN {H:ae} {d e:D} (h:FrzTo cZ d e):FrzTo H d e:=by
 induction h with
 | same d=> exact .same d
 | any d=> exact .any d
 | nil n=> exact .nil n
 | own i j x=> exact .own i j x
 | nilown j=> exact .nilown j
 | bptr i j b off=> exact .bptr i j b off
 | row h=> cases h
 | sub h=> cases h
 | list hl hk _ ih=> exact .list hl hk ih
 | box h=> cases h
 | agg hl _ ih=> exact .agg hl ih
 | tup hl _ ih=> exact .tup hl ih
variable {P:Program} {S:Nat→Spc} {f:Nat} {im:List Nat} {cc:CC} {rs:List aK} {N:Nat}
theorem Xv {tw el b:Nat} {s t:ByteArray} {r d:D} {H:ae} {z:Z} {T:Z→Option ByteArray} (ht:T z=some t) (h:Z8 tw el b (s++t) r d H):Qu (Y:=Unit) (qer tw) (qcv el b) (fun _=> r) b (fun x' _=> ∃t,T z=some t∧x'.s=s++t) d H:=by
 obtain⟨u,v,h1,h2,h3⟩:=h
 exact⟨⟨u,v,s++t⟩,(),qgN h1,h2,fun p hp=> by simp at hp;subst hp;exact h3,t,ht,rfl⟩
theorem jl {tw el:Nat} {A:lB Z} {r:D} {T:Z→Option ByteArray} (hS: ∀f,Tri P f (S f).pt) (h:aS P f im cc rs N) (hN: ∀z,(A.view z).length+1≤N) (hw:nj cc rs S tw el A r T):Tri P f (QD tw el A r T).pt:=by
 refine N1 (by simp) hS h hN ?_
 rintro b ⟨u,v,s⟩ z ⟨t,ht,hl⟩
 refine rD cc _ _ (fun e σ H h=> ?_) (hw b u v s z t ht hl)
 cases e with
 | ex i=> exact h
 | _=>
   simp only[vO] at h ⊢
   exact Bs (fun ds h=> Xv ht h) h
end
end Go.Gv

namespace Go.Gv
open Cod (enc dec)
section
variable {tw el:Nat}
def qgH (tw el:Nat) (G:Nat→Nat→List D→Option ByteArray) (r:D):PT:=fun d ds H K=> ∃ (id b:Nat) (x:qaG) (t:ByteArray),G id b ds=some t∧H id=some (.tbox tw b [.v (pv b x.u), .own 900 x.v])∧H 900=some (.row x.v el 1 (bD x.s))∧id≠900∧x.s.size+t.size≤mi∧
 ∀u v,K r (aq (aq H 900 (some (.row v el 1 (bD (x.s++t))))) id (some (.tbox tw b [.v (pv b u), .own 900 v])))
theorem Xg (tw el:Nat) (G:Nat→Nat→List D→Option ByteArray) (r:D):uD (qgH tw el G r):=fun d ds H K K' hk ⟨id,b,x,t,h1,h2,h3,h4,h5,h6⟩=> ⟨id,b,x,t,h1,h2,h3,h4,h5,fun u v=> hk _ _ (h6 u v)⟩
def qdv (tw el:Nat) (G:Nat→Nat→List D→Option ByteArray) (r:D):Spc:= .gen _ (Xg tw el G r)
def qct (tw el id b:Nat) (s:ByteArray) (r d:D) (H:ae):Prop:= ∃u v,FrzTo cZ d r∧H id=some (.tbox tw b [.v (pv b u), .own 900 v])∧H 900=some (.row v el 1 (bD s))
def CW (cc:CC) (rs:List aK) (S:Nat→Spc) (tw el:Nat) (G:Nat→Nat→List D→Option ByteArray) (r:D):Prop:=
 ∀id b u v s ds t,id≠900→G id b ds=some t→s.size+t.size≤mi→vc S cc (vO rs fun d H'=> qct tw el id b (s++t) r d H') (eS ds) (aq (aq cZ 900 (some (.row v el 1 (bD s)))) id (some (.tbox tw b [.v (pv b u), .own 900 v])))
variable {P:Program} {S:Nat→Spc} {f:Nat} {im:List Nat} {cc:CC} {rs:List aK} {N:Nat}
theorem LeL.refl (ds:List D):LeL ds ds:=⟨rfl,fun k d d' h h'=> by rw[h] at h';cases h';exact .same _⟩
theorem io {G:Nat→Nat→List D→Option ByteArray} {r:D} (hS: ∀f,Tri P f (S f).pt) (h:aS P f im cc rs N) (hN: ∀id b ds t,G id b ds=some t→ds.length≤N) (hw:CW cc rs S tw el G r):Tri P f (qdv tw el G r).pt:=by
 obtain⟨Ea,enter,fn,code,h1,h2,h3,h4,h5⟩:=h
 refine nt hS Ea h1 h2 enter h3 h4 h5 ?_
 rintro ds H d K ⟨id,b,⟨u,v,s⟩,t,g1,g2,g3,g4,g5,g6⟩
 simp only at g2 g3 g5 g6
 have hH0: ∀i q,aq (aq cZ 900 (some (.row v el 1 (bD s)))) id (some (.tbox tw b [.v (pv b u), .own 900 v])) i=some q→(i=id∧q= .tbox tw b [.v (pv b u), .own 900 v])∨(i=900∧q= .row v el 1 (bD s)):=by
  intro i q h
  by_cases e:i=id
  ·subst e
   simp only[aq,if_true] at h
   cases h
   exact .inl ⟨rfl,rfl⟩
  ·by_cases e9:i=900
   ·subst e9
    simp[aq,e] at h
    exact .inr ⟨rfl,h.symm⟩
   ·simp[aq,e,e9,cZ] at h
 refine⟨hN id b ds t g1,ds,aq (aq cZ 900 (some (.row v el 1 (bD s)))) id (some (.tbox tw b [.v (pv b u), .own 900 v])),fun i=> i,LeL.refl ds,fun i q h=> ?_,fun i j q q' _ _ e=> e,_,hw id b u v s ds t g4 g1 g5,?_⟩
 ·rcases hH0 i q h with⟨rfl,rfl⟩ | ⟨rfl,rfl⟩
  ·exact g2
  ·exact g3
 ·rintro d' H' ⟨u',v',k1,k2,k3⟩
  refine⟨r,cZ,aq (aq H 900 (some (.row v' el 1 (bD (s++t))))) id (some (.tbox tw b [.v (pv b u'), .own 900 v'])),fun i=> if i=id then some id else if i=900 then some 900 else none,k1,fun j q h=> by simp[cZ] at h,g6 u' v',fun i q hi=> ?_,fun i j k q q' hi hj e1 e2=> ?_⟩
  ·by_cases e:i=id
   ·subst e
    simp only[aq,if_true] at hi ⊢
    cases hi
    exact k2
   ·by_cases e9:i=900
    ·subst e9
     simp[aq,e] at hi ⊢
     subst hi
     exact k3
    ·simp only[aq,e,e9,if_false] at hi ⊢
     refine⟨hi,fun k q hk he=> ?_⟩
     rcases hH0 k q hk with⟨rfl,rfl⟩ | ⟨rfl,rfl⟩
     ·exact e he.symm
     ·exact e9 he.symm
  ·by_cases c1:i=id
   ·by_cases c2:j=id
    ·exact c1.trans c2.symm
    ·simp only[c1,if_true] at e1
     cases e1
     simp only[c2,if_false] at e2
     by_cases c3:j=900
     ·simp[c3] at e2
      exact absurd e2.symm g4
     ·simp[c3] at e2
   ·simp only[c1,if_false] at e1
    by_cases c3:i=900
    ·simp only[c3,if_true] at e1
     cases e1
     by_cases c2:j=id
     ·simp[c2] at e2
      exact absurd e2 g4
     ·simp only[c2,if_false] at e2
      by_cases c4:j=900
      ·exact c3.trans c4.symm
      ·simp[c4] at e2
    ·simp[c3] at e1
theorem PP {G:Nat→Nat→List D→Option ByteArray} {r:D} {i b d:Nat} {ds:List D} {H:ae} {K:D→ae→Prop} (h:YH tw el r (fun t:ByteArray=> some t) i b (H i) (H 900) (G i b ds) H K): (qdv tw el G r).pt d ds H K:=by
 obtain⟨x,h1,h2,h3,h4⟩:=h
 cases hg:G i b ds with
 | none=> rw[hg] at h4;exact h4.elim
 | some t=>
   rw[hg] at h4
   have h4:x.s.size+t.size≤mi∧_:=h4
   exact⟨i,b,x,t,hg,h1,h2,h3,h4.1,h4.2⟩
end
end Go.Gv

namespace Go.Gv
open Go.RowKit
open Cod (enc dec)
theorem EN {P:Program} {f:Nat} {X Y:Type} {A:lB X} {pre:X→Prop} {er:Y→D} {post:X→Y→Prop} (hce:fp P f)
 (h: ∀ (tp I:Nat→Prop) (w:World) (vs:List Value) (x:X),pre x→(∀p∈vC,∃ (el:Nat) (z:Nat×Nat),w.heap[p.1]?=some (.cells p.2 el z))→(∀b,I b→b < w.heap.size)→vs.length=(A.view x).length→
   (∀ (k:Nat) (v:Value) (d:D),vs[k]?=some v→(A.view x)[k]?=some d→R tp I w v d)→
   Calls P f vs.toArray w fun e w'=> ∃v y,e= .returned v∧post x y∧(∀tp' I',R tp' I' w' v (er y))∧Below w.heap.size w w'∧w.drawn≤w'.drawn):Tri P f (cY A pre er post).pt:=by
 intro O tp w vs ds H d K hO htl hsat hlen hargs hA
 rw[tj] at hA
 cases hd:A.dec ds with
 | none=> rw[hd] at hA;exact hA.elim
 | some x=>
   rw[hd] at hA
   obtain⟨hp,hK⟩:=hA
   have hle:=A.le ds x hd
   refine⟨hce,(h tp (cL O tp H w) w vs x hp (fun p hp=> (htl.2 p hp).2.2) (fun b hb=> hb.1) (by rw[hlen,hle.1]) (fun k v d h1 h2=> ?_)).mono ?_⟩
   ·have hlt:k < ds.length:=by rw[←hlen];exact(List.getElem?_eq_some_iff.1 h1).1
    have he:=List.getElem?_eq_getElem hlt
    exact(hle.2 k _ d he h2).R (H:=cZ) (fun i r h=> by cases h) (fun _ h=> h) (fun i r b h=> by cases h) (hargs k _ _ h1 he)
   ·rintro e w' ⟨v,y,rfl,hy,hR,hb,hdr⟩
    have hmove: ∀y e,R tp (cL O tp H w) w y e→R tp (cL O tp H w') w' y e:=fun y e hr=>
     hr.mono (fun _ h=> h) (fun b hb'=> ⟨⟨Nat.lt_of_lt_of_le hb'.1 hb.size,hb'.2⟩,hb.block b hb'.1⟩) (fun b hb'=> .same (hb.block b (htl.1 b hb')))
    exact⟨v,er y,H,tp,rfl,hK y hy,fun _ h=> h,fun _ h=> .inl h,fun b h=> Nat.lt_of_lt_of_le (htl.1 b h) hb.size,
     ⟨hb.os,hb.tape,hb.output,hb.size,fun b h1 _ _=> hb.block b h1,fun b h=> .same (hb.block b (htl.1 b h)),hdr⟩,fun _ h=> .inl h,
     ⟨hsat.dis,hsat.out,fun i r h1=> (hsat.ok i r h1).conv hmove fun b h2=> hb.block b ((hsat.ok i r h1).lt h2)⟩,hR _ _⟩
theorem ID {P:Program} {f:Nat} {X Y:Type} {A:lB X} {pre:X→Prop} {er:Y→D} {post:X→Y→Prop} (hce:fp P f)
 (h: ∀ (tp I:Nat→Prop) (w:World) (vs:List Value) (x:X),pre x→(∀b,I b→b < w.heap.size)→vs.length=(A.view x).length→
   (∀ (k:Nat) (v:Value) (d:D),vs[k]?=some v→(A.view x)[k]?=some d→R tp I w v d)→
   Calls P f vs.toArray w fun e w'=> ∃v y,e= .returned v∧post x y∧(∀tp' I',R tp' I' w' v (er y))∧Below w.heap.size w w'∧w.drawn≤w'.drawn):Tri P f (cY A pre er post).pt:=
 EN hce fun tp I w vs x hp _ hI hl hr=> h tp I w vs x hp hI hl hr
theorem LG {tp I:Nat→Prop} {w:World} {x y:Value} (h:R tp I w x (.v y)):x=y:=by cases h;rfl
end Go.Gv

namespace Go.Gv
theorem Tx {s x:B} {j:Nat} (h:j≤s.size):j5 (s.extract j s.size) 0 x=j5 s j x:=by
 unfold j5
 rw[Bool.eq_iff_iff,decide_eq_true_eq,decide_eq_true_eq,Nat.zero_add,ByteArray.size_extract]
 refine⟨fun⟨h1,h2⟩=> ⟨by omega,?_⟩,fun⟨h1,h2⟩=> ⟨by omega,?_⟩⟩
 ·rw[ByteArray.extract_extract,show min (j+x.size) s.size=j+x.size by omega,Nat.add_zero] at h2
  exact h2
 ·rw[ByteArray.extract_extract]
  rw[show min (j+x.size) s.size=j+x.size by omega,Nat.add_zero]
  exact h2
def twoL:List B:= [⟨#[60,47]⟩,⟨#[33,61]⟩,⟨#[58,58]⟩,⟨#[37,99]⟩]
def oneS:B:=⟨#[91,93,40,41,123,125,60,62,124,38,33,61,58,46,44,63,42,43,45]⟩
theorem LS:signsL=twoL++oneS.data.toList.map fun c=> ⟨#[c]⟩:=rfl
theorem L8 {s:B} {j:Nat} {c d:UInt8} (h:s.data[j]?=some c):j5 s j ⟨#[d]⟩=decide (c=d):=by
 have hj:j < s.size:=(Array.getElem?_eq_some_iff.1 h).1
 unfold j5
 have e:s.extract j (j+1)=⟨#[c]⟩:=by
  apply ByteArray.ext
  rw[ByteArray.data_extract]
  apply Array.ext_getElem?
  intro k
  rw[Array.getElem?_extract]
  rcases k with _ | k
  ·simp[h]
   intro h2
   have:s.data.size=s.size:=rfl
   omega
  ·simp
   omega
 show decide (j+1≤s.size∧s.extract j (j+1)=⟨#[d]⟩)=_
 rw[e,Bool.eq_iff_iff,decide_eq_true_eq,decide_eq_true_eq]
 refine⟨fun⟨_,h2⟩=> ?_,fun h2=> ⟨by omega,by rw[h2]⟩⟩
 have:=congrArg (fun b:B=> b.data[0]?) h2
 simpa using this
theorem K5 {s:B} {j:Nat} {c:UInt8} (h:s.data[j]?=some c):s.extract j (j+1)=⟨#[c]⟩:=by
 have:=L8 (d:=c) h
 unfold j5 at this
 rw[decide_eq_true (rfl:c=c),decide_eq_true_eq] at this
 exact this.2
theorem UU {s:B} {j:Nat} (h: ∀x∈twoL,j5 s j x=false):signsL.find? (j5 s j)=(oneS.data.toList.map fun c=> (⟨#[c]⟩:B)).find? (j5 s j):=by
 rw[LS,List.find?_append]
 have:twoL.find? (j5 s j)=none:=List.find?_eq_none.2 fun x hx=> by rw[h x hx];simp
 rw[this]
 rfl
theorem Xu {s x:B} {j k:Nat} (hk:twoL[k]?=some x) (h: ∀y∈twoL.take k,j5 s j y=false) (hx:j5 s j x=true):signsL.find? (j5 s j)=some x:=by
 rw[LS,List.find?_append]
 have e:twoL=twoL.take k++x::twoL.drop (k+1):=by rw[←ek hk,List.take_append_drop]
 rw[e,List.find?_append]
 have: (twoL.take k).find? (j5 s j)=none:=List.find?_eq_none.2 fun x hx=> by rw[h x hx];simp
 rw[this,List.find?_cons,hx]
 rfl
theorem MS {s:B} {j:Nat} {c:UInt8} (h:s.data[j]?=some c): ∀l:List UInt8,(l.map fun c=> (⟨#[c]⟩:B)).find? (j5 s j)=if c∈l then some ⟨#[c]⟩ else none
 | []=> rfl
 | d::l=> by
   rw[List.map_cons,List.find?_cons,L8 h,MS h l]
   by_cases e:c=d
   ·subst e;simp
   ·simp[e]
theorem Ur (s:B) (c:UInt8):0≤ON s ⟨c.toNat⟩ ↔c∈s.data.toList:=by
 unfold ON
 cases h:s.data.toList.findIdx? (fun x=> decide ((x.toNat:Int)=(⟨c.toNat⟩:U8).val)) with
 | none=>
   rw[List.findIdx?_eq_none_iff] at h
   refine⟨fun h'=> absurd h' (by decide),fun h'=> ?_⟩
   have:=h c h'
   simp at this
 | some k=>
   refine⟨fun _=> ?_,fun _=> Int.natCast_nonneg k⟩
   obtain⟨hk,h1,_⟩:=List.findIdx?_eq_some_iff_getElem.1 h
   simp at h1
   have h1: ((s.data.toList[k]).toNat:Int)=c.toNat:=by simpa using h1
   have:s.data.toList[k]=c:=UInt8.toNat_inj.1 (Int.ofNat_inj.1 h1)
   rw[←this]
   exact List.getElem_mem hk
end Go.Gv

namespace Go.Gv
open Cod (enc dec)
variable {S S0:Nat→Spc}
theorem Ue {s:B} {i:Nat} (h:cN s i=s.size):ge s i=(⟨0,E0,s.size⟩,(s.size:Int)):=by
 have:s.data[cN s i]?=none:=by
  rw[h]
  exact Array.getElem?_eq_none (Nat.le_refl _)
 unfold ge
 simp only[this]
 rw[h]
theorem Xe {s:B} {i j:Nat} {c:UInt8} (hj:cN s i=j) (h:s.data[j]?=some c):ge s i=
 if pW ⟨c.toNat⟩ then(⟨2,s.extract j (u6 s j),j⟩,(u6 s j:Int))
 else if o8 ⟨c.toNat⟩ then(⟨3,s.extract j (sX s j),j⟩,(sX s j:Int))
 else if c.toNat=34 then(if(Ac s j).2 < 0 then(⟨1,E0,j⟩,(s.size:Int)) else(⟨4,(Ac s j).1,j⟩,(Ac s j).2))
 else match signsL.find? (j5 s j) with
  | some x=> (⟨5,x,j⟩,j+x.size)
  | none=> (⟨1,E0,j⟩,(j:Int)):=by
 unfold ge
 simp only[hj,h]
 rfl
abbrev yL:Spc:=cY (a2 B Int) (fun x=> (0≤x.2∧x.2 < x.1.size)∧x.1.size≤100000) (DX (Y:=B) (Z:=Int)) fun x y=> y=Ac x.1 x.2.toNat
abbrev zU:Spc:=cY (a2 B Int) (fun x=> (0≤x.2∧x.2≤x.1.size)∧x.1.size≤100000) (DX (Y:=VM) (Z:=Int)) fun x y=> y=ge x.1 x.2.toNat
theorem Lz (a1':S0 hY=Be) (a2':S0 fY=EZ) (a3':S0 cA=nu) (h1:S kf=J1 S0) (h2:S fe=qi) (h3:S cA=nu) (h4:S kg=yL) (h5:S fG=ml) (h6:S fF=s_indexByte):
 Walk uz tK S (a2 B Int) (fun x=> (0≤x.2∧x.2≤x.1.size)∧x.1.size≤100000) (DX (Y:=VM) (Z:=Int)) fun x y=> y=ge x.1 x.2.toNat:=by
 rintro⟨s,i⟩ ⟨⟨h0,hi⟩,hbig⟩
 simp only at h0 hi hbig
 have f1:FunIs S0 (.clo hY []) Cy:=sV a1' fun _=> trivial
 have f2:FunIs S0 (.clo fY []) oU:=sV a2' fun _=> trivial
 have f3:FunIs S0 (.clo cA []) o8:=sV a3' fun _=> trivial
 have r1:Nx S0 (s,i, .clo hY [],()):=⟨⟨_,f1⟩,h0,hi⟩
 simp[uz,tK,h1,r1]
 intro b y hy
 have hy:y=jK Cy s i.toNat:=hy Cy f1
 have hj:jK Cy s i.toNat=cN s i.toNat:=zX _ _ _
 have hr:=oJ Cy (s:=s) (i:=i.toNat) (by omega)
 rw[hj] at hy hr
 obtain⟨j,hjj⟩: ∃j,j=cN s i.toNat:=⟨_,rfl⟩
 rw[←hjj] at hy hr
 subst hy
 refine jr (X:=Unit) [0,1,4] [4] (fun _=> j < s.size∧(s.size:Int)≤9223372036854775807) (fun _=> []) (fun _=> []) ?_ ?_
 ·simp
  refine fun hsz=> ⟨fun he=> ⟨⟨0,E0,j⟩, .same _,?_⟩,fun h=> ⟨by omega,hsz⟩⟩
  have he:j=s.size:=by omega
  rw[Ue (by rw[←hjj];exact he),he]
 ·rintro - ⟨hlt,hsz⟩
  obtain⟨c,hc⟩: ∃c,s.data[j]?=some c:=⟨s.data[j]'hlt,Array.getElem?_eq_getElem hlt⟩
  have hl:=Xe hjj.symm hc
  have r2:Nx S0 (s,(j:Int), .clo fY [],()):=⟨⟨_,f2⟩,by show(0:Int)≤j;omega,by show(j:Int)≤s.size;omega⟩
  have r3:Nx S0 (s,(j:Int), .clo cA [],()):=⟨⟨_,f3⟩,by show(0:Int)≤j;omega,by show(j:Int)≤s.size;omega⟩
  have hgc:s.data[j]'hlt=c:=by
   have:=Array.getElem?_eq_some_iff.1 hc
   exact this.2
  simp[hlt,hc,hgc]
  refine jr (X:=Unit) [0,1,4,6] [4] (fun _=> pW ⟨c.toNat⟩=false∧o8 ⟨c.toNat⟩=false∧c.toNat≠34) (fun _=> []) (fun _=> []) ?_ ?_
  ·have e2: ∀y:Int,Qr S0 (s,(j:Int), .clo fY [],()) y→y=u6 s j:=fun y hy=> by
    have:y=jK oU s j:=hy oU f2
    rw[this];exact congrArg _ (zY _ _ _)
   have e3: ∀y:Int,Qr S0 (s,(j:Int), .clo cA [],()) y→y=sX s j:=fun y hy=> by
    have:y=jK o8 s j:=hy o8 f3
    rw[this];exact congrArg _ (xf _ _ _)
   have g2:j≤u6 s j∧u6 s j≤s.size:=by
    have:=oJ oU hr.2
    rwa [show jK oU s j=u6 s j from zY _ _ _] at this
   have g3:j≤sX s j∧sX s j≤s.size:=by
    have:=oJ o8 hr.2
    rwa [show jK o8 s j=sX s j from xf _ _ _] at this
   simp[h1,h2,h3,h4,r2,r3,hlt,hbig,DX, -Bool.forall_bool]
   refine⟨fun hb y hy=> ?_,fun hb=> ⟨fun hd y hy=> ?_,fun hd=> ⟨fun hq=> ?_,fun hq=> ?_⟩⟩⟩
   ·have:=e2 y hy
    subst this
    refine⟨by omega,by omega,⟨2,s.extract j (u6 s j),j⟩, .same _,?_⟩
    rw[hl,if_pos hb]
   ·have:=e3 y hy
    subst this
    refine⟨by omega,by omega,⟨3,s.extract j (sX s j),j⟩, .same _,?_⟩
    rw[hl,if_neg (by rw[hb];simp),if_pos hd]
   ·have hq':c.toNat=34:=by omega
    refine⟨fun hn _=> ⟨⟨1,E0,j⟩, .same _,?_⟩,fun hn=> ⟨⟨4,(Ac s j).1,j⟩, .same _,?_⟩⟩
    ·rw[hl,if_neg (by rw[hb];simp),if_neg (by rw[hd];simp),if_pos hq',if_pos hn]
    ·rw[hl,if_neg (by rw[hb];simp),if_neg (by rw[hd];simp),if_pos hq',if_neg (by omega)]
   ·exact⟨hb,hd,by omega⟩
  ·rintro - ⟨n1,n2,n3⟩
   have hl:ge s i.toNat=match signsL.find? (j5 s j) with
    | some x=> (⟨5,x,j⟩,j+x.size)
    | none=> (⟨1,E0,j⟩,(j:Int)):=by
    rw[hl,if_neg (by rw[n1];simp),if_neg (by rw[n2];simp),if_neg n3]
   refine jr (X:=Unit) [0,1,4,6] [4] (fun _=> ∀x∈twoL,j5 s j x=false) (fun _=> []) (fun _=> []) ?_ ?_
   ·simp
    have hjs:j≤s.size:=hr.2
    have two: ∀x∈twoL,x.size=2:=fun x hx=> by simp[twoL] at hx;rcases hx with rfl | rfl | rfl | rfl <;> rfl
    refine aw (X:=Unit) [0,1,4,6,71] [4] 4 (fun k _=> ∀y∈twoL.take k,j5 s j y=false) (fun _=> []) (fun _=> []) () (by simp) (by simp) (by omega) (by simp) (by simp) (by simp) (by simp) (by simp) ?_ ?_
    ·rintro k -hk hP
     have key: ∀x,twoL[k]?=some x→(j5 (s.extract j s.size) 0 x=true→InR .i64 ((j:Int) +2)∧ ∃y:VM,y=⟨5,x,j⟩∧(y,(j:Int) +2)=ge s i.toNat)∧(j5 (s.extract j s.size) 0 x=false→ ∀y∈twoL.take (k+1),j5 s j y=false):=fun x hx=> by
      rw[Tx hjs]
      refine⟨fun h=> ?_,fun h y hy=> ?_⟩
      ·have h2:=two x (List.mem_of_getElem? hx)
       have h3:j+x.size≤s.size:=by unfold j5 at h;exact(of_decide_eq_true h).1
       refine⟨by simp only[InR];omega,_,rfl,?_⟩
       rw[hl,Xu hx hP h]
       show _=(_,(j:Int) +x.size)
       rw[h2]
       rfl
      ·rw[dq hx] at hy
       rcases List.mem_append.1 hy with hy | hy
       ·exact hP y hy
       ·rw[List.mem_singleton.1 hy];exact h
     obtain rfl | rfl | rfl | rfl:k=0∨k=1∨k=2∨k=3:=by omega
     ·have key:=key _ rfl
      simp[h5,hjs, -Bool.forall_bool]
      refine⟨fun h=> ?_,fun h=> key.2 h⟩
      obtain⟨k1,y,rfl,k2⟩:=key.1 h
      exact⟨k1,_, .same _,k2⟩
     ·have key:=key _ rfl
      simp[h5,hjs, -Bool.forall_bool]
      refine⟨fun h=> ?_,fun h=> key.2 h⟩
      obtain⟨k1,y,rfl,k2⟩:=key.1 h
      exact⟨k1,_, .same _,k2⟩
     ·have key:=key _ rfl
      simp[h5,hjs, -Bool.forall_bool]
      refine⟨fun h=> ?_,fun h=> key.2 h⟩
      obtain⟨k1,y,rfl,k2⟩:=key.1 h
      exact⟨k1,_, .same _,k2⟩
     ·have key:=key _ rfl
      simp[h5,hjs, -Bool.forall_bool]
      refine⟨fun h=> ?_,fun h=> key.2 h⟩
      obtain⟨k1,y,rfl,k2⟩:=key.1 h
      exact⟨k1,_, .same _,k2⟩
    ·rintro -hP
     simp
     exact fun x hx=> hP x (by rw[show twoL.take 4=twoL from rfl];exact hx)
   ·rintro -htw
    have hf:signsL.find? (j5 s j)=if c∈oneS.data.toList then some ⟨#[c]⟩ else none:=by rw[UU htw,MS hc]
    rw[hf] at hl
    have hm:=Ur oneS c
    unfold oneS at hm hl
    have c256: (c.toNat:Int) < 256:=by have:=c.toNat_lt;omega
    simp[h6,c256]
    refine⟨fun h=> ⟨by simp only[InR];omega,by omega,by omega,by simp only[InR];omega,⟨5,s.extract j (j+1),j⟩, .same _,?_⟩,fun h=> ⟨⟨1,E0,j⟩, .same _,?_⟩⟩
    ·rw[hl,if_pos (hm.1 h),K5 hc]
     rfl
    ·rw[hl,if_neg (fun h'=> by have:=hm.2 h';omega)]
end Go.Gv

namespace Go.Gv
open Cod (enc dec)
variable {S S0:Nat→Spc}
def Se (l:List UInt8):List D:=l.map fun c=> .v (.int .u8 c.toNat)
theorem Vu (c:UInt8):Lb (.v (.int .u8 c.toNat))=some c:=by simp[Lb]
theorem Ee (l:List UInt8):XM (Se l)=true:=by
 simp[XM,Se,List.all_eq_true]
 intro c _
 rw[Vu];rfl
theorem XK (l:List UInt8):XL (Se l)=⟨l.toArray⟩:=by
 unfold XL Se
 rw[List.map_map]
 congr 2
 conv=> rhs;rw[←List.map_id l]
 refine List.map_congr_left fun c _=> ?_
 simp only[Function.comp]
 rw[Vu];rfl
theorem tM: ∀ (n m:Nat) (s:B) (j:Nat) (v:B),s.size -j≤n→s.size -j≤m→pO n s j v=pO m s j v
 | 0,0,s,j,v,_,_=> rfl
 | 0,m+1,s,j,v,h,_=> by
   have:s.data[j]?=none:=Array.getElem?_eq_none (by show s.size≤j;omega)
   simp only[pO,this]
 | n+1,0,s,j,v,_,h=> by
   have:s.data[j]?=none:=Array.getElem?_eq_none (by show s.size≤j;omega)
   simp only[pO,this]
 | n+1,m+1,s,j,v,h,h'=> by
   simp only[pO]
   rw[tM n m s (j+1) _ (by omega) (by omega),tM n m s (j+2) _ (by omega) (by omega)]
theorem Bu {s:B} {j:Nat} {v:B} {c:UInt8} (hc:s.data[j]?=some c):yV s j v=if c.toNat=34 then(match s.data[j+1]? with
 | some d=> if d.toNat=34 then yV s (j+2) (v++s.extract (j+1) (j+2)) else some (j,v)
 | none=> some (j,v)) else yV s (j+1) (v++s.extract j (j+1)):=by
 have hlt:j < s.size:=(Array.getElem?_eq_some_iff.1 hc).1
 unfold yV
 rw[tM (s.size -j) (s.size - (j+1) +1) s j v (by omega) (by omega)]
 simp only[pO,hc]
 rw[tM (s.size - (j+2)) (s.size - (j+1)) s (j+2) _ (by omega) (by omega)]
 by_cases h:c.toNat=34
 ·rw[if_pos h,if_pos h]
  cases s.data[j+1]? <;> rfl
 ·rw[if_neg h,if_neg h]
theorem Tq {s:B} {j:Nat} {v:B} (h:s.size≤j):yV s j v=none:=by
 unfold yV
 rw[show s.size -j=0 by omega]
 rfl
theorem L6 (l:List UInt8) (c:UInt8): (⟨l.toArray⟩:B) ++ ⟨#[c]⟩=⟨(l++ [c]).toArray⟩:=by
 show ByteArray.append _ _=_
 apply ByteArray.ext
 show((⟨l.toArray⟩:B) ++ (⟨#[c]⟩:B)).data=_
 rw[ByteArray.data_append]
 simp
theorem Et:Walk pD pn S (a2 B Int) (fun x=> (0≤x.2∧x.2 < x.1.size)∧x.1.size≤100000) (DX (Y:=B) (Z:=Int)) fun x y=> y=Ac x.1 x.2.toNat:=by
 rintro⟨s,i⟩ ⟨⟨h0,hi⟩,hb⟩
 simp only at h0 hi hb
 simp[pD,pn]
 refine⟨by simp only[InR];omega,?_⟩
 refine jL (X:=Nat×Value×List UInt8) [0] [] (fun x=> i.toNat < x.1∧x.2.2.length≤x.1∧x.1≤s.size+1∧yV s x.1 ⟨x.2.2.toArray⟩=yV s (i.toNat+1) ⟨#[]⟩) (fun x=> [(6, .own 43 x.2.1),(7,enc (x.1:Int))]) (fun x=> [(43, .row x.2.1 vy 1 (Se x.2.2))]) (fun x=> s.size+1 -x.1) (i.toNat+1, .slice none 0 0, []) ⟨by omega,by simp,by omega,rfl⟩ (by simp;omega) (by simp[isNilRow,Se]) ?_
 rintro⟨k,v,l⟩ ⟨hk,hl,hks,hq⟩
 simp only at hk hl hks hq
 simp
 have hlen: (Se l).length=l.length:=by simp[Se]
 have done: ∀ {c:UInt8},s.data[k]?=some c→c.toNat=34→(∀d,s.data[k+1]?=some d→d.toNat≠34)→(XL (Se l),(k:Int) +1)=Ac s i.toNat:=by
  intro c hc h34 hno
  unfold Ac
  rw[←hq,Bu hc,if_pos h34,XK]
  cases hd:s.data[k+1]? with
  | none=> rfl
  | some d=>
    simp only
    rw[if_neg (hno d hd)]
 have more: ∀ (v:Value) (a:Nat) (c:UInt8),k < a→a≤s.size+1→yV s a ⟨(l++ [c]).toArray⟩=yV s (i.toNat+1) ⟨#[]⟩→ ∀z:Int,z=a→
  ∃ (a:Nat) (a_1:Value) (b:List UInt8),(i.toNat < a∧b.length≤a∧a≤s.size+1∧yV s a ⟨b.toArray⟩=yV s (i.toNat+1) ⟨#[]⟩)∧
   ((v=a_1∧z= ↑a)∧(v=a_1∧Se l++ [D.v (Value.int IntKind.u8 ↑c.toNat)]=Se b∨isNilRow (Res.row a_1 vy 1 (Se b))))∧s.size+1 -a < s.size+1 -k:=by
  intro v a c h1 h2 h3 z hz
  exact⟨a,v,l++ [c],⟨by omega,by simp;omega,h2,h3⟩,⟨⟨rfl,hz⟩, .inl ⟨rfl,by simp[Se]⟩⟩,by omega⟩
 refine fun hsz=> ⟨fun hlt=> ⟨hlt,fun c hc=> ⟨fun h34=> ⟨by simp only[InR];omega,fun _=> ⟨fun hne=> ⟨by simp only[InR];omega,by omega,by omega,fun d hd=> ⟨fun hn=> ⟨Ee l,by simp only[InR];omega,?_⟩,fun hy=> ⟨by simp only[InR];omega,by omega,by omega,fun d' hd'=> ⟨by omega,fun v=> ⟨by simp only[InR];omega,?_⟩⟩⟩⟩⟩,fun he=> ⟨Ee l,by simp only[InR];omega,?_⟩⟩⟩,fun h34=> ⟨hlt,fun c' hc'=> ⟨by omega,fun v=> ⟨by simp only[InR];omega,?_⟩⟩⟩⟩⟩,fun hge=> ?_⟩
 ·exact done hc (by omega) fun d' hd'=> by rw[hd] at hd';cases hd';omega
 ·rw[hd] at hd'
  cases hd'
  refine more v (k+2) d (by omega) (by omega) ?_ _ (by omega)
  rw[←hq,Bu hc,if_pos (by omega),hd]
  simp only
  rw[if_pos (by omega),K5 hd,L6]
 ·exact done hc (by omega) fun d' hd'=> by
   have:=(Array.getElem?_eq_some_iff.1 hd').1
   have:k+1 < s.size:=this
   omega
 ·rw[hc] at hc'
  cases hc'
  refine more v (k+1) c (by omega) (by omega) ?_ _ (by omega)
  rw[←hq,Bu hc,if_neg (by omega),K5 hc,L6]
 ·unfold Ac
  rw[←hq,Tq hge]
end Go.Gv
