/- A part of the framework and of the walks: W42 T21 T22 V6 W43 V7 V8 V12 V13. -/
import Derived.Test.YtaiffcbkmgfklaaGreatDoorGs18
import Derived.Test.YtaiffcbkmgfklaaGreatDoorGs19
import Derived.Test.YtaiffcbkmgfklaaGreatDoorGs20
set_option linter.unusedSimpArgs false
set_option linter.unusedVariables false
set_option maxRecDepth 100000
set_option linter.unusedSectionVars false

namespace Go.Gv
open Cod (enc dec)
variable {S S0:Nat→Spc}
abbrev kJ:Spc:=cY (a1 Int) XU (enc (X:=B)) (fun _ y=> y∈pQ)
theorem QR (h1:S oo=xe):Walk Cq Br S (a1 Int) XU (enc (X:=B)) (fun _ y=> y∈pQ):=by
 rintro n -
 simp[Cq,Br,h1]
 have h3:=Mk n 3 (by omega)
 refine⟨h3.1,h3.2,?_⟩
 have:If n 3=0∨If n 3=1∨If n 3=2:=by omega
 rcases this with h | h | h <;> simp[h,pQ,qcg,XR,qeb]
def Jl (n:Nat) (x:List Int×Int×List B):Prop:=x.2.1.toNat < n∧ -10≤x.2.1∧x.2.1≤100∧x.2.2.length≤1000
theorem gR {q:Cond→Prop} {H:ae} {op:Int} {n a v l:B} {f:Bool} {d:D} (ks:List Cond) (hd:FrzTo H d (enc ks)) (hq:q ⟨op,n,a,v,l,f,ks⟩):Fin enc q (.agg [.v (.int .i64 op), .v (.string n), .v (.string a), .v (.string v), .v (.string l), .v (.bool f),d]) H:=by
 refine gj (⟨op,n,a,v,l,f,ks⟩:Cond) ?_ hq
 rw[M0]
 refine .agg rfl fun k x y hx hy=> ?_
 rcases k with _ | _ | _ | _ | _ | _ | _ | k
 ·cases hx;cases hy;exact .same _
 ·cases hx;cases hy;exact .same _
 ·cases hx;cases hy;exact .same _
 ·cases hx;cases hy;exact .same _
 ·cases hx;cases hy;exact .same _
 ·cases hx;cases hy;exact .same _
 ·cases hx;cases hy;exact hd
 ·simp at hx
theorem qaV (a b c d e f g h:B):D.list 1 [.v (.string a), .v (.string b), .v (.string c), .v (.string d), .v (.string e), .v (.string f), .v (.string g), .v (.string h)]= .list 1 (LP [a,b,c,d,e,f,g,h]):=id rfl
theorem X0 (a b c d:B):D.list 1 [.v (.string a), .v (.string b), .v (.string c), .v (.string d)]= .list 1 (LP [a,b,c,d]):=id rfl
theorem xk {q:Pat→Prop} {H:ae} {op o:Int} {n a v l lb rg:B} {f:Bool} {cd d:D} {mn mx:Int} (cks:List Cond) (ks:List Pat) (hc:FrzTo H cd (enc cks)) (hd:FrzTo H d (enc ks)) (hq:q ⟨op,⟨o,n,a,v,l,f,cks⟩,lb,rg,mn,mx,ks⟩):
 Fin enc q (.agg [.v (.int .i64 op), .v (.int .i64 o), .v (.string n), .v (.string a), .v (.string v), .v (.string l), .v (.bool f),cd, .v (.string lb), .v (.string rg), .v (.int .i64 mn), .v (.int .i64 mx),d]) H:=by
 refine gj (⟨op,⟨o,n,a,v,l,f,cks⟩,lb,rg,mn,mx,ks⟩:Pat) ?_ hq
 rw[K2]
 refine .agg rfl fun k x y hx hy=> ?_
 rcases k with _ | _ | _ | _ | _ | _ | _ | _ | _ | _ | _ | _ | _ | k
 ·cases hx;cases hy;exact .same _
 ·cases hx;cases hy;exact .same _
 ·cases hx;cases hy;exact .same _
 ·cases hx;cases hy;exact .same _
 ·cases hx;cases hy;exact .same _
 ·cases hx;cases hy;exact .same _
 ·cases hx;cases hy;exact .same _
 ·cases hx;cases hy;exact hc
 ·cases hx;cases hy;exact .same _
 ·cases hx;cases hy;exact .same _
 ·cases hx;cases hy;exact .same _
 ·cases hx;cases hy;exact .same _
 ·cases hx;cases hy;exact hd
 ·simp at hx
def Qs (n:Nat) (x:List Int×Int×List B):Prop:=x.2.1.toNat < n∧ -10≤x.2.1∧x.2.1≤100∧x.2.2.length≤1000
def qci (x:List Int×Int×List B) (p:Pat):Prop:=WP x.2.2 x.2.1.toNat p∧PD x.2.1.toNat p
end Go.Gv

namespace Go.Gv
end Go.Gv

namespace Go.Gv
open Cod (enc dec)
section
variable {X Y:Type} [Cod X] [Cod Y]
def qgK (pre:X→List Y→Prop) (post:X→List Y→List Y→Prop) (el n:Nat):PT:=fun d ds H K=> ∃id v l a x,ds= [a, .own id v]∧dec a=some x∧H id=some (.row v el n (l.map enc))∧pre x l∧
 ∀v' l',post x l l'→K (.own id v') (aq H id (some (.row v' el n (l'.map enc))))
theorem Xj (pre:X→List Y→Prop) (post:X→List Y→List Y→Prop) (el n:Nat):uD (qgK pre post el n):=fun d ds H K K' hk ⟨id,v,l,a,x,h1,h2,h3,h4,h5⟩=> ⟨id,v,l,a,x,h1,h2,h3,h4,fun v' l' hp=> hk _ _ (h5 v' l' hp)⟩
def Ya (pre:X→List Y→Prop) (post:X→List Y→List Y→Prop) (el n:Nat):Spc:= .gen _ (Xj pre post el n)
def qdx (pre:X→List Y→Prop) (post:X→List Y→List Y→Prop) (el n id:Nat) (v:Value) (o:Option X) (r:Option Res) (H:ae) (K:D→ae→Prop):Prop:= ∃l,r=some (.row v el n (l.map enc))∧mW o fun x=> pre x l∧ ∀v' l',post x l l'→K (.own id v') (aq H id (some (.row v' el n (l'.map enc))))
@[congr] theorem qgJ {pre:X→List Y→Prop} {post:X→List Y→List Y→Prop} {el n id:Nat} {v:Value} {o o':Option X} {r r':Option Res} {H:ae} {K:D→ae→Prop} (h1:o=o') (h2:r=r'):qdx pre post el n id v o r H K=qdx pre post el n id v o' r' H K:=by subst h1;subst h2;rfl
@[simp] theorem qgL (pre:X→List Y→Prop) (post:X→List Y→List Y→Prop) (el n:Nat) (d i:Nat) (a:D) (v:Value) (H:ae) (K:D→ae→Prop): (Ya pre post el n).pt d [a, .own i v] H K=qdx pre post el n i v (dec a) (H i) H K:=by
 refine propext ⟨fun h=> ?_,fun h=> ?_⟩
 ·obtain⟨id,v,l,a,x,h1,h2,h3,h4,h5⟩:=h
  cases h1
  refine⟨l,h3,?_⟩
  rw[h2]
  exact⟨h4,h5⟩
 ·obtain⟨l,h1,h2⟩:=h
  cases hd:dec (X:=X) a with
  | none=> rw[hd] at h2;exact h2.elim
  | some x=> rw[hd] at h2;exact⟨i,v,l,a,x,rfl,hd,h1,h2.1,h2.2⟩
@[simp] theorem qjW (pre:X→List Y→Prop) (post:X→List Y→List Y→Prop) (el n id:Nat) (v:Value) (o:Option X) (l:List Y) (H:ae) (K:D→ae→Prop):qdx pre post el n id v o (some (.row v el n (l.map enc))) H K=mW o fun x=> pre x l∧ ∀v' l',post x l l'→K (.own id v') (aq H id (some (.row v' el n (l'.map enc)))):=by
 refine propext ⟨fun⟨l',h1,h2⟩=> ?_,fun h=> ⟨l,rfl,h⟩⟩
 simp at h1
 subst h1
 exact h2
def Ld (cc:CC) (rs:List aK) (S:Nat→Spc) (pre:X→List Y→Prop) (post:X→List Y→List Y→Prop) (el n:Nat):Prop:=
 ∀v l x,pre x l→vc S cc (vO rs fun r H'=> Z9 el n (post x l) r H') (eS [enc x, .own 1 v]) (aq cZ 1 (some (.row v el n (l.map enc))))
variable {P:Program} {S:Nat→Spc} {f:Nat} {im:List Nat} {cc:CC} {rs:List aK} {N:Nat} {el n:Nat}
theorem yG {pre:X→List Y→Prop} {post:X→List Y→List Y→Prop} (hS: ∀f,Tri P f (S f).pt) (h:aS P f im cc rs N) (hN:2≤N) (hw:Ld cc rs S pre post el n):Tri P f (Ya pre post el n).pt:=by
 obtain⟨Ea,enter,fn,code,h1,h2,h3,h4,h5⟩:=h
 refine nt hS Ea h1 h2 enter h3 h4 h5 ?_
 rintro ds H d K ⟨id,v,l,a,x,rfl,hd,hid,hp,hK⟩
 have hl:=Cod.le _ _ hd
 refine⟨hN, [enc x, .own 1 v],aq cZ 1 (some (.row v el n (l.map enc))),fun _=> id, .cons hl (.cons (.own _ _ _) .nil),fun i r h=> ?_,fun i j r s h h' _=> ?_,_,hw v l x hp,?_⟩
 ·by_cases e:i=1
  ·subst e
   simp only[aq,if_true] at h
   cases h
   exact hid
  ·simp[aq,e] at h
 ·have a:i=1:=by
   by_cases e:i=1
   ·exact e
   ·simp[aq,e] at h
  have b:j=1:=by
   by_cases e:j=1
   ·exact e
   ·simp[aq,e] at h'
  exact a.trans b.symm
 ·rintro r H' ⟨j,v',l',rfl,hj,hpost⟩
  refine⟨.own id v',cZ,aq H id (some (.row v' el n (l'.map enc))),fun i=> if i=id then some j else none, .own _ _ _,fun j q h=> by simp at h,hK v' l' hpost,fun i s hi=> ?_,fun i j' k s q hi hj' e1 e2=> ?_⟩
  ·by_cases e:i=id
   ·subst e
    simp only[aq,if_true] at hi
    cases hi
    simpa using hj
   ·simp only[aq,e,if_false] at hi ⊢
    exact⟨hi,fun k q h he=> e he.symm⟩
  ·have a:i=id:=by
    by_cases e:i=id
    ·exact e
    ·simp[e] at e1
   have b:j'=id:=by
    by_cases e:j'=id
    ·exact e
    ·simp[e] at e2
   exact a.trans b.symm
end
section
variable {X Y Z:Type}
structure vi (X:Type) where
 ids:List Nat
 ce:X→List D
 hp:X→List (Nat×Res)
 keys: ∀x,(hp x).map (·.1)=ids
theorem AO: ∀ {l:List (Nat×Res)} {i:Nat} {s:Res},ig l cZ i=some s→(i,s) ∈l
 | [],i,s,h=> by simp[ig,cZ] at h
 | (j,r)::l,i,s,h=> by
  simp only[ig,aq] at h
  by_cases e:i=j
  ·subst e
   simp only[if_true] at h
   cases h
   simp
  ·simp only[e,if_false] at h
   exact List.mem_cons_of_mem _ (AO h)
theorem AP: ∀ {l:List (Nat×Res)} {H:ae} {i:Nat} {s:Res},i∈l.map (·.1)→ig l H i=some s→(i,s) ∈l
 | (j,r)::l,H,i,s,hi,h=> by
  simp only[ig,aq] at h
  by_cases e:i=j
  ·subst e
   simp only[if_true] at h
   cases h
   simp
  ·simp only[e,if_false] at h
   simp[e] at hi
   refine List.mem_cons_of_mem _ (AP (H:=H) ?_ h)
   simpa using hi
theorem AN: ∀ {l:List (Nat×Res)} {H:ae} {i:Nat},i∉l.map (·.1)→ig l H i=H i
 | [],H,i,_=> rfl
 | (j,r)::l,H,i,hi=> by
  simp only[List.map_cons,List.mem_cons,not_or] at hi
  simp only[ig,aq,hi.1,if_false]
  exact AN hi.2
def qhz (B:vi X) (A:lB Z) (er:Y→D) (pre:X→Z→Prop) (post:X→Z→X→Y→Prop):PT:=fun d ds H K=> ∃id b x z ds',ds= .bptr id b 0::ds'∧A.dec ds'=some z∧H id=some (.box b (B.ce x))∧(∀p∈B.hp x,H p.1=some p.2)∧id∉B.ids∧pre x z∧
 ∀x' y,post x z x' y→K (er y) (aq (ig (B.hp x') H) id (some (.box b (B.ce x'))))
theorem XP (B:vi X) (A:lB Z) (er:Y→D) (pre:X→Z→Prop) (post:X→Z→X→Y→Prop):uD (qhz B A er pre post):=fun d ds H K K' hk ⟨id,b,x,z,ds',h1,h2,h3,h4,h5,h6,h7⟩=> ⟨id,b,x,z,ds',h1,h2,h3,h4,h5,h6,fun x' y hp=> hk _ _ (h7 x' y hp)⟩
def qd9 (B:vi X) (A:lB Z) (er:Y→D) (pre:X→Z→Prop) (post:X→Z→X→Y→Prop):Spc:= .gen _ (XP B A er pre post)
def Yw (B:vi X) (er:Y→D) (b:Nat) (post:X→Y→Prop) (r:D) (H:ae):Prop:= ∃x y,FrzTo (fun i=> if i=0∨i∈B.ids then none else H i) r (er y)∧H 0=some (.box b (B.ce x))∧(∀p∈B.hp x,H p.1=some p.2)∧post x y
def VD (cc:CC) (rs:List aK) (S:Nat→Spc) (B:vi X) (A:lB Z) (er:Y→D) (pre:X→Z→Prop) (post:X→Z→X→Y→Prop):Prop:=
 ∀b x z,pre x z→vc S cc (vO rs fun r H'=> Yw B er b (post x z) r H') (eS (.bptr 0 b 0::A.view z)) (aq (ig (B.hp x) cZ) 0 (some (.box b (B.ce x))))
variable {P:Program} {S:Nat→Spc} {f:Nat} {im:List Nat} {cc:CC} {rs:List aK} {N:Nat}
theorem N2 {B:vi X} {A:lB Z} {er:Y→D} {pre:X→Z→Prop} {post:X→Z→X→Y→Prop} (h1i:0∉B.ids) (hS: ∀f,Tri P f (S f).pt) (h:aS P f im cc rs N) (hN: ∀z,(A.view z).length+1≤N) (hw:VD cc rs S B A er pre post):Tri P f (qd9 B A er pre post).pt:=by
 obtain⟨Ea,enter,fn,code,h1,h2,h3,h4,h5⟩:=h
 refine nt hS Ea h1 h2 enter h3 h4 h5 ?_
 rintro ds H d K ⟨id,b,x,z,ds',rfl,hd,hid,hhp,hni,hp,hK⟩
 have hl:=A.le ds' z hd
 have h0: ∀i r,aq (ig (B.hp x) cZ) 0 (some (.box b (B.ce x))) i=some r→i=0∧r= .box b (B.ce x)∨i≠0∧(i,r) ∈B.hp x:=by
  intro i r h
  by_cases e:i=0
  ·subst e
   simp only[aq,if_true] at h
   cases h
   exact .inl ⟨rfl,rfl⟩
  ·simp only[aq,e,if_false] at h
   exact .inr ⟨e,AO h⟩
 have hk: ∀ {x:X} {i:Nat} {r:Res},(i,r) ∈B.hp x→i∈B.ids:=by
  intro x i r h
  rw[←B.keys x]
  exact List.mem_map.2 ⟨_,h,rfl⟩
 refine⟨by simp only[List.length_cons];rw[hl.1];exact hN z, .bptr 0 b 0::A.view z,aq (ig (B.hp x) cZ) 0 (some (.box b (B.ce x))),fun i=> if i=0 then id else i, .cons (.bptr _ _ _ _) hl,fun i r h=> ?_,fun i j r s h h' e=> ?_,_,hw b x z hp,?_⟩
 ·rcases h0 i r h with⟨rfl,rfl⟩ | ⟨e,hm⟩
  ·exact hid
  ·simp only[e,if_false]
   exact hhp _ hm
 ·rcases h0 i r h with⟨rfl,rfl⟩ | ⟨e1,hm⟩
  ·rcases h0 j s h' with⟨rfl,rfl⟩ | ⟨e2,hm2⟩
   ·rfl
   ·simp only[e2,if_true,if_false] at e
    subst e
    exact absurd (hk hm2) hni
  ·rcases h0 j s h' with⟨rfl,rfl⟩ | ⟨e2,hm2⟩
   ·simp only[e1,if_true,if_false] at e
    subst e
    exact absurd (hk hm) hni
   ·simpa only[e1,e2,if_false] using e
 ·rintro r H' ⟨x',y,hfr,hj,hhp',hpost⟩
  refine⟨er y,fun i=> if i=0∨i∈B.ids then none else H' i,aq (ig (B.hp x') H) id (some (.box b (B.ce x'))),fun i=> if i=id then some 0 else if i∈B.ids then some i else none,hfr,fun j q h=> ?_,hK x' y hpost,fun i s hi=> ?_,fun i j' k s q hi hj' e1 e2=> ?_⟩
  ·by_cases e:j=0∨j∈B.ids
   ·simp[e] at h
   ·simp only[e,if_false] at h
    refine⟨h,fun i hh=> e ?_⟩
    by_cases e1:i=id
    ·simp only[e1,if_true] at hh
     cases hh
     exact .inl rfl
    ·simp only[e1,if_false] at hh
     by_cases e2:i∈B.ids
     ·simp only[e2,if_true] at hh
      cases hh
      exact .inr e2
     ·simp[e2] at hh
  ·by_cases e:i=id
   ·subst e
    simp only[aq,if_true] at hi
    cases hi
    simpa using hj
   ·simp only[aq,e,if_false] at hi ⊢
    by_cases e2:i∈B.ids
    ·simp only[e2,if_true]
     exact hhp' _ (AP (by rw[B.keys];exact e2) hi)
    ·simp only[e2,if_false]
     rw[AN (by rw[B.keys];exact e2)] at hi
     refine⟨hi,fun k q h he=> ?_⟩
     rcases h0 k q h with⟨rfl,rfl⟩ | ⟨e3,hm⟩
     ·simp only[if_true] at he
      exact e he.symm
     ·simp only[e3,if_false] at he
      subst he
      exact e2 (hk hm)
  ·by_cases c1:i=id
   ·by_cases c2:j'=id
    ·exact c1.trans c2.symm
    ·simp only[c1,if_true] at e1
     cases e1
     simp only[c2,if_false] at e2
     by_cases c3:j'∈B.ids
     ·simp only[c3,if_true] at e2
      cases e2
      exact absurd c3 h1i
     ·simp[c3] at e2
   ·simp only[c1,if_false] at e1
    by_cases c3:i∈B.ids
    ·simp only[c3,if_true] at e1
     cases e1
     by_cases c2:j'=id
     ·simp only[c2,if_true] at e2
      cases e2
      exact absurd c3 h1i
     ·simp only[c2,if_false] at e2
      by_cases c4:j'∈B.ids
      ·simp only[c4,if_true] at e2
       cases e2
       rfl
      ·simp[c4] at e2
    ·simp[c3] at e1
def Iy {X:Type} (ce:X→List D):vi X:=⟨[],ce,fun _=> [],fun _=> rfl⟩
end
end Go.Gv

namespace Go.Gv
open Cod (enc dec)
structure Glob where
 op:Int
 a:B
 b:B
 name:B
 arg:B
 val:B
 fold:Bool
 mn:Int
 mx:Int
 args:List B
 kids:List Glob
mutual
def GS:Glob→D
 | .mk p0 p1 p2 p3 p4 p5 p6 p7 p8 p9 ks=> .agg [enc p0,enc p1,enc p2,enc p3,enc p4,enc p5,enc p6,enc p7,enc p8,enc p9, .list 11 (uP ks)]
def uP:List Glob→List D
 | []=> []
 | k::ks=> GS k::uP ks
end
mutual
def Nd:D→Option Glob
 | .agg [x0,x1,x2,x3,x4,x5,x6,x7,x8,x9,x10]=> (dec x0).bind fun p0=> (dec x1).bind fun p1=> (dec x2).bind fun p2=> (dec x3).bind fun p3=> (dec x4).bind fun p4=> (dec x5).bind fun p5=> (dec x6).bind fun p6=> (dec x7).bind fun p7=> (dec x8).bind fun p8=> (dec x9).bind fun p9=> (CQ x10).bind fun ks=> some (.mk p0 p1 p2 p3 p4 p5 p6 p7 p8 p9 ks)
 | _=> none
def CQ:D→Option (List Glob)
 | .list n es=> if n=11 then wW es else none
 | .v (.slice none 0 0)=> some []
 | _=> none
def wW:List D→Option (List Glob)
 | []=> some []
 | d::ds=> (Nd d).bind fun x=> (wW ds).bind fun xs=> some (x::xs)
end
theorem Ck: ∀l:List Glob,uP l=l.map GS
 | []=> rfl
 | _::l=> by rw[uP,Ck l];rfl
theorem Qc: ∀c:Glob,(GS c).kn=true
 | .mk .. => rfl
theorem M2: ∀c:Glob,(GS c).cells.length=11
 | .mk .. => rfl
mutual
theorem Nc: ∀c:Glob,Nd (GS c)=some c
 | .mk p0 p1 p2 p3 p4 p5 p6 p7 p8 p9 ks=> by
   have h:CQ (.list 11 (uP ks))=some ks:=by rw[CQ,if_pos rfl];exact Jg ks
   simp only[GS,Nd,Cod.dec_enc,Option.bind_some,h]
theorem Jg: ∀l:List Glob,wW (uP l)=some l
 | []=> by simp only[uP,wW]
 | c::l=> by simp only[uP,wW,Nc c,Jg l,Option.bind_some]
end
mutual
theorem Qi: ∀ (d:D) (c:Glob),Nd d=some c→FrzTo cZ d (GS c)
 | .agg [x0,x1,x2,x3,x4,x5,x6,x7,x8,x9,x10],c,h=> by
   simp only[Nd,Option.bind_eq_some_iff,Option.some.injEq] at h
   obtain⟨p0,h0,p1,h1,p2,h2,p3,h3,p4,h4,p5,h5,p6,h6,p7,h7,p8,h8,p9,h9,ks,hk,rfl⟩:=h
   rw[GS]
   exact LeL.agg (.cons (Cod.le _ _ h0) (.cons (Cod.le _ _ h1) (.cons (Cod.le _ _ h2) (.cons (Cod.le _ _ h3) (.cons (Cod.le _ _ h4) (.cons (Cod.le _ _ h5) (.cons (Cod.le _ _ h6) (.cons (Cod.le _ _ h7) (.cons (Cod.le _ _ h8) (.cons (Cod.le _ _ h9) ((.cons (Vg x10 ks hk) .nil))))))))))))
theorem Vg: ∀ (d:D) (l:List Glob),CQ d=some l→FrzTo cZ d (.list 11 (uP l))
 | .list n es,l,h=> by
   simp only[CQ] at h
   split at h
   ·rename_i hn
    subst hn
    have hl:=Nb es l h
    refine .list hl.1 (fun e he=> ?_) hl.2
    rw[Ck] at he
    obtain⟨x,hx,rfl⟩:=List.mem_map.1 he
    exact⟨Qc x,M2 x⟩
   ·cases h
 | .v (.slice none 0 0),l,h=> by
   simp only[CQ,Option.some.injEq] at h
   subst h
   exact .nil _
theorem Nb: ∀ (es:List D) (l:List Glob),wW es=some l→LeL es (uP l)
 | [],l,h=> by
   simp only[wW,Option.some.injEq] at h
   subst h
   exact .nil
 | d::ds,l,h=> by
   simp only[wW,Option.bind_eq_some_iff,Option.some.injEq] at h
   obtain⟨x,h1,xs,h2,rfl⟩:=h
   rw[uP]
   exact .cons (Qi d x h1) (Nb ds xs h2)
end
instance:Cod Glob where
 wd:=11
 enc:=GS
 dec:=Nd
 kn:=Qc
 wid:=M2
 dec_enc:=Nc
 le:=Qi
theorem RW (ks:List Glob):D.list 11 (uP ks)=enc ks:=by rw[Ck];rfl
theorem GX: ∀es:List D,wW es=es.mapM (dec (X:=Glob))
 | []=> by simp[wW]
 | d::es=> by
   rw[wW,List.mapM_cons,GX es]
   rfl
theorem Vh: ∀d:D,CQ d=dec (X:=List Glob) d:=fun d=> by
 unfold CQ
 split
 ·rename_i n es
  show _=if n=11 then es.mapM (dec (X:=Glob)) else none
  rw[GX]
 ·rfl
 ·rename_i h1 h2
  show _=(match d with
   | .list n es=> if n=11 then es.mapM (dec (X:=Glob)) else none
   | .v (.slice none 0 0)=> some []
   | _=> none)
  split
  ·exact absurd rfl (h1 _ _)
  ·exact absurd rfl h2
  ·rfl
@[simp] theorem qbP (s:Glob):Glob.mk s.op s.a s.b s.name s.arg s.val s.fold s.mn s.mx s.args s.kids=s:=by cases s;rfl
@[simp] theorem AG (s:Glob):enc s= .agg [enc s.op,enc s.a,enc s.b,enc s.name,enc s.arg,enc s.val,enc s.fold,enc s.mn,enc s.mx,enc s.args,enc s.kids]:=by
 rw[←RW]
 cases s
 show GS _=_
 rw[GS]
@[simp] theorem qcB:Cod.wd Glob=11:=id rfl
@[simp] theorem qbV (x0 x1 x2 x3 x4 x5 x6 x7 x8 x9 x10:D):dec (X:=Glob) (.agg [x0,x1,x2,x3,x4,x5,x6,x7,x8,x9,x10])=((dec x0).bind fun x0=> (dec x1).bind fun x1=> (dec x2).bind fun x2=> (dec x3).bind fun x3=> (dec x4).bind fun x4=> (dec x5).bind fun x5=> (dec x6).bind fun x6=> (dec x7).bind fun x7=> (dec x8).bind fun x8=> (dec x9).bind fun x9=> (dec x10).bind fun x10=> some ⟨x0,x1,x2,x3,x4,x5,x6,x7,x8,x9,x10⟩):=by
 show Nd _=_
 simp only[Nd,Vh]
structure Filt where
 op:Int
 neg:Bool
 reg:B
instance:Cod Filt where
 wd:=3
 enc f:= .agg [enc f.op,enc f.neg,enc f.reg]
 dec | .agg [x0,x1,x2]=> (dec x0).bind fun a=> (dec x1).bind fun b=> (dec x2).bind fun c=> some ⟨a,b,c⟩ | _=> none
 kn _:=rfl
 wid _:=rfl
 dec_enc f:=by simp only[Cod.dec_enc,Option.bind_some]
 le d x h:=by
  split at h
  ·simp only[Option.bind_eq_some_iff,Option.some.injEq] at h
   obtain⟨a,h0,b,h1,c,h2,rfl⟩:=h
   exact LeL.agg (.cons (Cod.le _ _ h0) (.cons (Cod.le _ _ h1) (.cons (Cod.le _ _ h2) .nil)))
  ·cases h
@[simp] theorem qbQ (s:Filt):Filt.mk s.op s.neg s.reg=s:=by cases s;rfl
@[simp] theorem qbR (s:Filt):enc s= .agg [enc s.op,enc s.neg,enc s.reg]:=id rfl
@[simp] theorem qcC:Cod.wd Filt=3:=id rfl
@[simp] theorem qbW (x0 x1 x2:D):dec (X:=Filt) (.agg [x0,x1,x2])=((dec x0).bind fun a=> (dec x1).bind fun b=> (dec x2).bind fun c=> some ⟨a,b,c⟩):=id rfl
structure Qry where
 pat:Pat
 glob:Glob
 filts:List Filt
 strat:Int
def Cn:Pat→List D | .mk op c l r mn mx ks=> enc op:: (w4 c++ [enc l,enc r,enc mn,enc mx,enc ks])
theorem R4: ∀p:Pat,D.agg (Cn p)=enc p
 | .mk .. => (K1 ..).symm
theorem Pc: ∀p:Pat,(Cn p).length=13
 | .mk op c l r mn mx ks=> by simp[Cn,G3]
def G2 (g:Glob):List D:= [enc g.op,enc g.a,enc g.b,enc g.name,enc g.arg,enc g.val,enc g.fold,enc g.mn,enc g.mx,enc g.args,enc g.kids]
theorem R5 (g:Glob):D.agg (G2 g)=enc g:=(AG g).symm
theorem VA {l l':List D} (h:FrzTo cZ (.agg l) (.agg l')):LeL l l':=by
 cases h with
 | same=> exact⟨rfl,fun k x y hx hy=> by rw[hx] at hy;cases hy;exact .same _⟩
 | agg hl h=> exact⟨hl,h⟩
theorem Vc {l:List D} {p:Pat} (h:dec (D.agg l)=some p):LeL l (Cn p):=VA (by rw[R4];exact Cod.le _ _ h)
theorem RZ {l:List D} {p:Glob} (h:dec (D.agg l)=some p):LeL l (G2 p):=VA (by rw[R5];exact Cod.le _ _ h)
def Zw (q:Qry):D:= .agg (Cn q.pat++ (G2 q.glob++ [enc q.filts,enc q.strat]))
def ZF:D→Option Qry
 | .agg [x0,x1,x2,x3,x4,x5,x6,x7,x8,x9,x10,x11,x12,y0,y1,y2,y3,y4,y5,y6,y7,y8,y9,y10,f,s]=> (dec (D.agg [x0,x1,x2,x3,x4,x5,x6,x7,x8,x9,x10,x11,x12])).bind fun p=> (dec (D.agg [y0,y1,y2,y3,y4,y5,y6,y7,y8,y9,y10])).bind fun g=> (dec f).bind fun fs=> (dec s).bind fun st=> some ⟨p,g,fs,st⟩
 | _=> none
instance:Cod Qry where
 wd:=26
 enc:=Zw
 dec:=ZF
 kn _:=rfl
 wid q:=by simp[Zw,D.cells,Pc,G2]
 dec_enc q:=by
  obtain⟨⟨op,⟨o,n,a,v,l,f,cks⟩,lb,rg,mn,mx,ks⟩,g,fs,st⟩:=q
  have h1:=Cod.dec_enc (⟨op,⟨o,n,a,v,l,f,cks⟩,lb,rg,mn,mx,ks⟩:Pat)
  have h2:=Cod.dec_enc g
  rw[K1] at h1
  rw[AG] at h2
  simp only[w4,List.cons_append,List.nil_append] at h1
  simp only[Zw,Cn,w4,G2,List.cons_append,List.nil_append,ZF,h1,h2,Cod.dec_enc,Option.bind_some]
 le d x h:=by
  unfold ZF at h
  split at h
  ·simp only[Option.bind_eq_some_iff,Option.some.injEq] at h
   obtain⟨p,h0,g,h1,fs,h2,st,h3,rfl⟩:=h
   exact LeL.agg ((Vc h0).append ((RZ h1).append (.cons (Cod.le _ _ h2) (.cons (Cod.le _ _ h3) .nil))))
  ·cases h
@[simp] theorem qdK (s:Qry):Qry.mk s.pat s.glob s.filts s.strat=s:=by cases s;rfl
@[simp] theorem AF (s:Qry):enc s= .agg [enc s.pat.op,enc s.pat.cond.op,enc s.pat.cond.name,enc s.pat.cond.arg,enc s.pat.cond.val,enc s.pat.cond.lab,enc s.pat.cond.fold,enc s.pat.cond.kids,enc s.pat.lab,enc s.pat.reg,enc s.pat.mn,enc s.pat.mx,enc s.pat.kids,enc s.glob.op,enc s.glob.a,enc s.glob.b,enc s.glob.name,enc s.glob.arg,enc s.glob.val,enc s.glob.fold,enc s.glob.mn,enc s.glob.mx,enc s.glob.args,enc s.glob.kids,enc s.filts,enc s.strat]:=by
 obtain⟨⟨op,⟨o,n,a,v,l,f,cks⟩,lb,rg,mn,mx,ks⟩,g,fs,st⟩:=s
 rfl
@[simp] theorem qdQ (x0 x1 x2 x3 x4 x5 x6 x7 x8 x9 x10 x11 x12 y0 y1 y2 y3 y4 y5 y6 y7 y8 y9 y10 f s:D):dec (X:=Qry) (.agg [x0,x1,x2,x3,x4,x5,x6,x7,x8,x9,x10,x11,x12,y0,y1,y2,y3,y4,y5,y6,y7,y8,y9,y10,f,s])=((dec (D.agg [x0,x1,x2,x3,x4,x5,x6,x7,x8,x9,x10,x11,x12])).bind fun p=> (dec (D.agg [y0,y1,y2,y3,y4,y5,y6,y7,y8,y9,y10])).bind fun g=> (dec f).bind fun fs=> (dec s).bind fun st=> some ⟨p,g,fs,st⟩):=id rfl
end Go.Gv

namespace Go.Gv
open Cod (enc dec)
variable {S S0:Nat→Spc}
def VK (n:Nat) (x:Cond×List B):Prop:=0 < n∧CS (n -1) x.1
def Pm (n:Nat) (x:Pat×List B):Prop:=0 < n∧PD (n -1) x.1
def Yu (x:Pat) (l:List B):Prop:=l.length+xI x≤1000000
def Hi (n:Nat) (x:List Int×Int×List B):Prop:=x.2.1.toNat < n∧ -10≤x.2.1∧x.2.1≤100∧1≤x.2.2.length∧x.2.2.length≤1000000
theorem jg {q:Glob→Prop} {H:ae} {op mn mx:Int} {a b n g v:B} {f:Bool} {d e:D} (ar:List B) (ks:List Glob) (hd:FrzTo H d (enc ar)) (he:FrzTo H e (enc ks)) (hq:q ⟨op,a,b,n,g,v,f,mn,mx,ar,ks⟩):
 Fin enc q (.agg [.v (.int .i64 op), .v (.string a), .v (.string b), .v (.string n), .v (.string g), .v (.string v), .v (.bool f), .v (.int .i64 mn), .v (.int .i64 mx),d,e]) H:=by
 refine gj (⟨op,a,b,n,g,v,f,mn,mx,ar,ks⟩:Glob) ?_ hq
 rw[AG]
 refine .agg rfl fun k x y hx hy=> ?_
 rcases k with _ | _ | _ | _ | _ | _ | _ | _ | _ | _ | _ | k
 ·cases hx;cases hy;exact .same _
 ·cases hx;cases hy;exact .same _
 ·cases hx;cases hy;exact .same _
 ·cases hx;cases hy;exact .same _
 ·cases hx;cases hy;exact .same _
 ·cases hx;cases hy;exact .same _
 ·cases hx;cases hy;exact .same _
 ·cases hx;cases hy;exact .same _
 ·cases hx;cases hy;exact .same _
 ·cases hx;cases hy;exact hd
 ·cases hx;cases hy;exact he
 ·simp at hx
end Go.Gv

namespace Go.Gv
open Cod (enc dec)
structure qaH where
 kind:Int
 text:B
 pos:Int
instance:Cod qaH where
 wd:=3
 enc t:= .agg [.v (.int .u8 t.kind),enc t.text,enc t.pos]
 dec | .agg [.v (.int .u8 k),x1,x2]=> (dec x1).bind fun b=> (dec x2).bind fun c=> some ⟨k,b,c⟩ | _=> none
 kn _:=rfl
 wid _:=rfl
 dec_enc f:=by simp only[Cod.dec_enc,Option.bind_some]
 le d x h:=by
  split at h
  ·simp only[Option.bind_eq_some_iff,Option.some.injEq] at h
   obtain⟨b,h1,c,h2,rfl⟩:=h
   exact LeL.agg (.cons (.same _) (.cons (Cod.le _ _ h1) (.cons (Cod.le _ _ h2) .nil)))
  ·cases h
structure Pst where
 l:List qaH
 pos:Int
 deep:Int
 e:Int
 fail:Int
def Pst.step (s:Pst):Pst:= { s with pos:=s.pos+1 }
def WX (s:Pst):Option qaH:=if 0≤s.pos∧s.l.length≤1000000 then s.l[s.pos.toNat]? else none
def E0:B:=⟨#[]⟩
section
variable (A:Pst→Option (Pst×Pat))
def vT (op:Int) (l:List Pat):Pat:=match l with
 | [x]=> x
 | l=> ⟨op,Cond0,E0,E0,0,0,l⟩
end
end Go.Gv

namespace Go.Gv
def qbA (s:B) (i:Nat):Bool:=match s.data[i]? with
 | some c=> decide (c.toNat=32∨c.toNat=10)
 | none=> false
def Uo (s:B) (i:Nat):Bool:=match s.data[i]? with
 | some c=> decide (48≤c.toNat∧c.toNat≤57)
 | none=> false
def LR:Nat→B→Nat→Nat
 | 0,_,i=> i
 | n+1,s,i=> if qbA s i then LR n s (i+1) else i
def cN (s:B) (i:Nat):Nat:=LR (s.size -i) s i
def RX:Nat→B→Nat→Nat
 | 0,_,i=> i
 | n+1,s,i=> if Uo s i then RX n s (i+1) else i
def sX (s:B) (i:Nat):Nat:=RX (s.size -i) s i
def signsL:List B:= [⟨#[60,47]⟩,⟨#[33,61]⟩,⟨#[58,58]⟩,⟨#[37,99]⟩,⟨#[91]⟩,⟨#[93]⟩,⟨#[40]⟩,⟨#[41]⟩,⟨#[123]⟩,⟨#[125]⟩,⟨#[60]⟩,⟨#[62]⟩,⟨#[124]⟩,⟨#[38]⟩,⟨#[33]⟩,⟨#[61]⟩,⟨#[58]⟩,⟨#[46]⟩,⟨#[44]⟩,⟨#[63]⟩,⟨#[42]⟩,⟨#[43]⟩,⟨#[45]⟩]
def j5 (s:B) (i:Nat) (x:B):Bool:=decide (i+x.size≤s.size∧s.extract i (i+x.size)=x)
theorem RY {s:B} {i:Nat} (h:i < s.size):sX s i=if Uo s i then sX s (i+1) else i:=by
 unfold sX
 rw[show s.size -i=(s.size - (i+1)) +1 by omega,RX]
end Go.Gv

namespace Go.Gv
open Cod (enc dec)
def yo (t:B):Bool:=t.data.toList.all fun c=> decide (48≤c.toNat∧c.toNat≤57)
def Vp (op:Int) (l:List Cond):Cond:=match l with
 | [x]=> x
 | l=> ⟨op,E0,E0,E0,E0,false,l⟩
section
variable (N:Pst→Option (Pst×Cond)) (O:Pst→Option (Pst×Cond))
end
section
variable (A:Pst→Option (Pst×Pat)) (O:Pst→Option (Pst×Cond))
end
def UO (op:Int) (l:List Glob):Glob:=match l with
 | [x]=> x
 | l=> ⟨op,E0,E0,E0,E0,E0,false,0,0, [],l⟩
section
variable (N:Pst→Option (Pst×Glob)) (O:Pst→Option (Pst×Glob))
def funcsL:List (B×Int):= [(⟨#[98,111,117,110,100]⟩,1),(⟨#[100,105,115,116,97,110,99,101]⟩,4),(⟨#[115,97,109,101]⟩,5),(⟨#[104,101,97,100]⟩,6),(⟨#[97,110,99,101,115,116,111,114]⟩,7),(⟨#[112,97,116,104]⟩,8),(⟨#[110,111,100,101]⟩,9),(⟨#[100,101,112,116,104]⟩,10)]
def l9 (name:B):Int:=match funcsL.find? fun p=> decide (p.1=name) with
 | some p=> p.2
 | none=> 0
end
def filterL:List B:= [E0,⟨#[119,105,116,104,105,110]⟩,⟨#[99,111,110,116,97,105,110,105,110,103]⟩,⟨#[111,118,101,114,108,97,112,112,105,110,103]⟩]
def strategyL:List B:= [⟨#[101,97,99,104]⟩,⟨#[115,104,111,114,116,101,115,116]⟩,⟨#[108,111,110,103,101,115,116]⟩,⟨#[116,114,97,100,105,116,105,111,110,97,108]⟩]
end Go.Gv

namespace Go.Gv
def OF (c:Nat):Bool:=decide (65≤c∧c≤90∨97≤c∧c≤122∨c=95)
def Rv (s:B) (i:Nat):Bool:=match s.data[i]? with
 | some c=> OF c.toNat || decide (48≤c.toNat∧c.toNat≤57∨c.toNat=45)
 | none=> false
def Ro:Nat→B→Nat→Nat
 | 0,_,i=> i
 | n+1,s,i=> if Rv s i then Ro n s (i+1) else i
def u6 (s:B) (i:Nat):Nat:=Ro (s.size -i) s i
def pO:Nat→B→Nat→B→Option (Nat×B)
 | 0,_,_,_=> none
 | n+1,s,j,v=> match s.data[j]? with
   | none=> none
   | some c=> if c.toNat=34 then(match s.data[j+1]? with
      | some d=> if d.toNat=34 then pO n s (j+2) (v++s.extract (j+1) (j+2)) else some (j,v)
      | none=> some (j,v)) else pO n s (j+1) (v++s.extract j (j+1))
def yV (s:B) (j:Nat) (v:B):Option (Nat×B):=pO (s.size -j) s j v
def L5:Qry:=⟨⟨0,Cond0,E0,E0,0,0, []⟩,⟨0,E0,E0,E0,E0,E0,false,0,0, [], []⟩, [],0⟩
end Go.Gv
