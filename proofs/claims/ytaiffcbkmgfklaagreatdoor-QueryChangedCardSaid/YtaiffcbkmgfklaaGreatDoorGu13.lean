/- A part of the framework and of the walks: T22 V6 W43 V7 V8 V12 V13 C2 W2. -/
import Derived.Test.YtaiffcbkmgfklaaGreatDoorGu12
import Derived.Test.YtaiffcbkmgfklaaGreatDoorGu11
import Derived.Test.YtaiffcbkmgfklaaGreatDoorGu10
set_option linter.unusedSimpArgs false
set_option linter.unusedVariables false
set_option linter.unusedSectionVars false
set_option maxRecDepth 100000

namespace Go.Gv
open Cod (enc dec)
section
variable {X Y:Type} [Cod X] [Cod Y]
def qiu (pre:X→List Y→Prop) (post:X→List Y→List Y→Prop) (el n:Nat):PT:=fun d ds H K=> ∃id v l a x,ds= [a, .own id v]∧dec a=some x∧H id=some (.row v el n (l.map enc))∧pre x l∧
 ∀v' l',post x l l'→K (.own id v') (au H id (some (.row v' el n (l'.map enc))))
theorem YG (pre:X→List Y→Prop) (post:X→List Y→List Y→Prop) (el n:Nat):uE (qiu pre post el n):=fun d ds H K K' hk ⟨id,v,l,a,x,h1,h2,h3,h4,h5⟩=> ⟨id,v,l,a,x,h1,h2,h3,h4,fun v' l' hp=> hk _ _ (h5 v' l' hp)⟩
def Zx (pre:X→List Y→Prop) (post:X→List Y→List Y→Prop) (el n:Nat):Spc:= .gen _ (YG pre post el n)
def qeY (pre:X→List Y→Prop) (post:X→List Y→List Y→Prop) (el n id:Nat) (v:Value) (o:Option X) (r:Option Res) (H:ab) (K:D→ab→Prop):Prop:= ∃l,r=some (.row v el n (l.map enc))∧gE o fun x=> pre x l∧ ∀v' l',post x l l'→K (.own id v') (au H id (some (.row v' el n (l'.map enc))))
@[congr] theorem qit {pre:X→List Y→Prop} {post:X→List Y→List Y→Prop} {el n id:Nat} {v:Value} {o o':Option X} {r r':Option Res} {H:ab} {K:D→ab→Prop} (h1:o=o') (h2:r=r'):qeY pre post el n id v o r H K=qeY pre post el n id v o' r' H K:=by subst h1;subst h2;rfl
@[simp] theorem qiv (pre:X→List Y→Prop) (post:X→List Y→List Y→Prop) (el n:Nat) (d i:Nat) (a:D) (v:Value) (H:ab) (K:D→ab→Prop): (Zx pre post el n).pt d [a, .own i v] H K=qeY pre post el n i v (dec a) (H i) H K:=by
 refine propext ⟨fun h=> ?_,fun h=> ?_⟩
 ·obtain⟨id,v,l,a,x,h1,h2,h3,h4,h5⟩:=h
  cases h1
  refine⟨l,h3,?_⟩
  rw[h2]
  exact⟨h4,h5⟩
 ·obtain⟨l,h1,h2⟩:=h
  cases hd:dec (X:=X) a with
  | none=> rw[hd] at h2;exact h2.elim
  | some x=> rw[hd] at h2;exact⟨i,v,l,a,x,rfl,hd,h1,h2.1,h2.2⟩
@[simp] theorem qlF (pre:X→List Y→Prop) (post:X→List Y→List Y→Prop) (el n id:Nat) (v:Value) (o:Option X) (l:List Y) (H:ab) (K:D→ab→Prop):qeY pre post el n id v o (some (.row v el n (l.map enc))) H K=gE o fun x=> pre x l∧ ∀v' l',post x l l'→K (.own id v') (au H id (some (.row v' el n (l'.map enc)))):=by
 refine propext ⟨fun⟨l',h1,h2⟩=> ?_,fun h=> ⟨l,rfl,h⟩⟩
 simp at h1
 subst h1
 exact h2
def L7 (cc:CC) (rs:List aI) (S:Nat→Spc) (pre:X→List Y→Prop) (post:X→List Y→List Y→Prop) (el n:Nat):Prop:=
 ∀v l x,pre x l→vc S cc (uX rs fun r H'=> qbx el n (post x l) r H') (d9 [enc x, .own 1 v]) (au cF 1 (some (.row v el n (l.map enc))))
variable {P:Program} {S:Nat→Spc} {f:Nat} {im:List Nat} {cc:CC} {rs:List aI} {N:Nat} {el n:Nat}
theorem yL {pre:X→List Y→Prop} {post:X→List Y→List Y→Prop} (hS: ∀f,Tri P f (S f).pt) (h:aR P f im cc rs N) (hN:2≤N) (hw:L7 cc rs S pre post el n):Tri P f (Zx pre post el n).pt:=by
 obtain⟨EZ,enter,fn,code,h1,h2,h3,h4,h5⟩:=h
 refine ng hS EZ h1 h2 enter h3 h4 h5 ?_
 rintro ds H d K ⟨id,v,l,a,x,rfl,hd,hid,hp,hK⟩
 have hl:=Cod.le _ _ hd
 refine⟨hN, [enc x, .own 1 v],au cF 1 (some (.row v el n (l.map enc))),fun _=> id, .cons hl (.cons (.own _ _ _) .nil),fun i r h=> ?_,fun i j r s h h' _=> ?_,_,hw v l x hp,?_⟩
 ·by_cases e:i=1
  ·subst e
   simp only[au,if_true] at h
   cases h
   exact hid
  ·simp[au,e] at h
 ·have a:i=1:=by
   by_cases e:i=1
   ·exact e
   ·simp[au,e] at h
  have b:j=1:=by
   by_cases e:j=1
   ·exact e
   ·simp[au,e] at h'
  exact a.trans b.symm
 ·rintro r H' ⟨j,v',l',rfl,hj,hpost⟩
  refine⟨.own id v',cF,au H id (some (.row v' el n (l'.map enc))),fun i=> if i=id then some j else none, .own _ _ _,fun j q h=> by simp at h,hK v' l' hpost,fun i s hi=> ?_,fun i j' k s q hi hj' e1 e2=> ?_⟩
  ·by_cases e:i=id
   ·subst e
    simp only[au,if_true] at hi
    cases hi
    simpa using hj
   ·simp only[au,e,if_false] at hi ⊢
    exact⟨hi,fun k q h he=> e he.symm⟩
  ·have a:i=id:=by
    by_cases e:i=id
    ·exact e
    ·simp[e] at e1
   have b:j'=id:=by
    by_cases e:j'=id
    ·exact e
    ·simp[e] at e2
   exact a.trans b.symm
end
section
variable {X Y Z:Type}
structure uH (X:Type) where
 ids:List Nat
 ce:X→List D
 hp:X→List (Nat×Res)
 keys: ∀x,(hp x).map (·.1)=ids
theorem BG: ∀ {l:List (Nat×Res)} {i:Nat} {s:Res},gG l cF i=some s→(i,s) ∈l
 | [],i,s,h=> by simp[gG,cF] at h
 | (j,r)::l,i,s,h=> by
  simp only[gG,au] at h
  by_cases e:i=j
  ·subst e
   simp only[if_true] at h
   cases h
   simp
  ·simp only[e,if_false] at h
   exact List.mem_cons_of_mem _ (BG h)
theorem BH: ∀ {l:List (Nat×Res)} {H:ab} {i:Nat} {s:Res},i∈l.map (·.1)→gG l H i=some s→(i,s) ∈l
 | (j,r)::l,H,i,s,hi,h=> by
  simp only[gG,au] at h
  by_cases e:i=j
  ·subst e
   simp only[if_true] at h
   cases h
   simp
  ·simp only[e,if_false] at h
   simp[e] at hi
   refine List.mem_cons_of_mem _ (BH (H:=H) ?_ h)
   simpa using hi
theorem BF: ∀ {l:List (Nat×Res)} {H:ab} {i:Nat},i∉l.map (·.1)→gG l H i=H i
 | [],H,i,_=> rfl
 | (j,r)::l,H,i,hi=> by
  simp only[List.map_cons,List.mem_cons,not_or] at hi
  simp only[gG,au,hi.1,if_false]
  exact BF hi.2
def qji (B:uH X) (A:ix Z) (er:Y→D) (pre:X→Z→Prop) (post:X→Z→X→Y→Prop):PT:=fun d ds H K=> ∃id b x z ds',ds= .bptr id b 0::ds'∧A.dec ds'=some z∧H id=some (.box b (B.ce x))∧(∀p∈B.hp x,H p.1=some p.2)∧id∉B.ids∧pre x z∧
 ∀x' y,post x z x' y→K (er y) (au (gG (B.hp x') H) id (some (.box b (B.ce x'))))
theorem Za (B:uH X) (A:ix Z) (er:Y→D) (pre:X→Z→Prop) (post:X→Z→X→Y→Prop):uE (qji B A er pre post):=fun d ds H K K' hk ⟨id,b,x,z,ds',h1,h2,h3,h4,h5,h6,h7⟩=> ⟨id,b,x,z,ds',h1,h2,h3,h4,h5,h6,fun x' y hp=> hk _ _ (h7 x' y hp)⟩
def qdG (B:uH X) (A:ix Z) (er:Y→D) (pre:X→Z→Prop) (post:X→Z→X→Y→Prop):Spc:= .gen _ (Za B A er pre post)
def Xh (B:uH X) (er:Y→D) (b:Nat) (post:X→Y→Prop) (r:D) (H:ab):Prop:= ∃x y,FrzTo (fun i=> if i=0∨i∈B.ids then none else H i) r (er y)∧H 0=some (.box b (B.ce x))∧(∀p∈B.hp x,H p.1=some p.2)∧post x y
def WY (cc:CC) (rs:List aI) (S:Nat→Spc) (B:uH X) (A:ix Z) (er:Y→D) (pre:X→Z→Prop) (post:X→Z→X→Y→Prop):Prop:=
 ∀b x z,pre x z→vc S cc (uX rs fun r H'=> Xh B er b (post x z) r H') (d9 (.bptr 0 b 0::A.view z)) (au (gG (B.hp x) cF) 0 (some (.box b (B.ce x))))
variable {P:Program} {S:Nat→Spc} {f:Nat} {im:List Nat} {cc:CC} {rs:List aI} {N:Nat}
theorem FF {B:uH X} {A:ix Z} {er:Y→D} {pre:X→Z→Prop} {post:X→Z→X→Y→Prop} (h1i:0∉B.ids) (hS: ∀f,Tri P f (S f).pt) (h:aR P f im cc rs N) (hN: ∀z,(A.view z).length+1≤N) (hw:WY cc rs S B A er pre post):Tri P f (qdG B A er pre post).pt:=by
 obtain⟨EZ,enter,fn,code,h1,h2,h3,h4,h5⟩:=h
 refine ng hS EZ h1 h2 enter h3 h4 h5 ?_
 rintro ds H d K ⟨id,b,x,z,ds',rfl,hd,hid,hhp,hni,hp,hK⟩
 have hl:=A.le ds' z hd
 have h0: ∀i r,au (gG (B.hp x) cF) 0 (some (.box b (B.ce x))) i=some r→i=0∧r= .box b (B.ce x)∨i≠0∧(i,r) ∈B.hp x:=by
  intro i r h
  by_cases e:i=0
  ·subst e
   simp only[au,if_true] at h
   cases h
   exact .inl ⟨rfl,rfl⟩
  ·simp only[au,e,if_false] at h
   exact .inr ⟨e,BG h⟩
 have hk: ∀ {x:X} {i:Nat} {r:Res},(i,r) ∈B.hp x→i∈B.ids:=by
  intro x i r h
  rw[←B.keys x]
  exact List.mem_map.2 ⟨_,h,rfl⟩
 refine⟨by simp only[List.length_cons];rw[hl.1];exact hN z, .bptr 0 b 0::A.view z,au (gG (B.hp x) cF) 0 (some (.box b (B.ce x))),fun i=> if i=0 then id else i, .cons (.bptr _ _ _ _) hl,fun i r h=> ?_,fun i j r s h h' e=> ?_,_,hw b x z hp,?_⟩
 ·rcases h0 i r h with⟨rfl,rfl⟩ | ⟨e,hm⟩
  ·exact hid
  ·simp only[e,if_false]
   exact hhp _ hm
 ·rcases h0 i r h with⟨rfl,rfl⟩ | ⟨e1,hm⟩
  ·rcases h0 j s h' with⟨rfl,rfl⟩ | ⟨e2,hm2⟩
   ·rfl
   ·simp only[e2,if_true,if_false] at e
    subst e
    exact absurd (hk hm2) hni
  ·rcases h0 j s h' with⟨rfl,rfl⟩ | ⟨e2,hm2⟩
   ·simp only[e1,if_true,if_false] at e
    subst e
    exact absurd (hk hm) hni
   ·simpa only[e1,e2,if_false] using e
 ·rintro r H' ⟨x',y,hfr,hj,hhp',hpost⟩
  refine⟨er y,fun i=> if i=0∨i∈B.ids then none else H' i,au (gG (B.hp x') H) id (some (.box b (B.ce x'))),fun i=> if i=id then some 0 else if i∈B.ids then some i else none,hfr,fun j q h=> ?_,hK x' y hpost,fun i s hi=> ?_,fun i j' k s q hi hj' e1 e2=> ?_⟩
  ·by_cases e:j=0∨j∈B.ids
   ·simp[e] at h
   ·simp only[e,if_false] at h
    refine⟨h,fun i hh=> e ?_⟩
    by_cases e1:i=id
    ·simp only[e1,if_true] at hh
     cases hh
     exact .inl rfl
    ·simp only[e1,if_false] at hh
     by_cases e2:i∈B.ids
     ·simp only[e2,if_true] at hh
      cases hh
      exact .inr e2
     ·simp[e2] at hh
  ·by_cases e:i=id
   ·subst e
    simp only[au,if_true] at hi
    cases hi
    simpa using hj
   ·simp only[au,e,if_false] at hi ⊢
    by_cases e2:i∈B.ids
    ·simp only[e2,if_true]
     exact hhp' _ (BH (by rw[B.keys];exact e2) hi)
    ·simp only[e2,if_false]
     rw[BF (by rw[B.keys];exact e2)] at hi
     refine⟨hi,fun k q h he=> ?_⟩
     rcases h0 k q h with⟨rfl,rfl⟩ | ⟨e3,hm⟩
     ·simp only[if_true] at he
      exact e he.symm
     ·simp only[e3,if_false] at he
      subst he
      exact e2 (hk hm)
  ·by_cases c1:i=id
   ·by_cases c2:j'=id
    ·exact c1.trans c2.symm
    ·simp only[c1,if_true] at e1
     cases e1
     simp only[c2,if_false] at e2
     by_cases c3:j'∈B.ids
     ·simp only[c3,if_true] at e2
      cases e2
      exact absurd c3 h1i
     ·simp[c3] at e2
   ·simp only[c1,if_false] at e1
    by_cases c3:i∈B.ids
    ·simp only[c3,if_true] at e1
     cases e1
     by_cases c2:j'=id
     ·simp only[c2,if_true] at e2
      cases e2
      exact absurd c3 h1i
     ·simp only[c2,if_false] at e2
      by_cases c4:j'∈B.ids
      ·simp only[c4,if_true] at e2
       cases e2
       rfl
      ·simp[c4] at e2
    ·simp[c3] at e1
def yo {X:Type} (ce:X→List D):uH X:=⟨[],ce,fun _=> [],fun _=> rfl⟩
end
end Go.Gv

namespace Go.Gv
open Cod (enc dec)
structure Glob where
 op:Int
 a:B
 b:B
 name:B
 arg:B
 val:B
 fold:Bool
 mn:Int
 mx:Int
 args:List B
 kids:List Glob
mutual
def HF:Glob→D
 | .mk p0 p1 p2 p3 p4 p5 p6 p7 p8 p9 ks=> .agg [enc p0,enc p1,enc p2,enc p3,enc p4,enc p5,enc p6,enc p7,enc p8,enc p9, .list 11 (uQ ks)]
def uQ:List Glob→List D
 | []=> []
 | k::ks=> HF k::uQ ks
end
mutual
def N2:D→Option Glob
 | .agg [x0,x1,x2,x3,x4,x5,x6,x7,x8,x9,x10]=> (dec x0).bind fun p0=> (dec x1).bind fun p1=> (dec x2).bind fun p2=> (dec x3).bind fun p3=> (dec x4).bind fun p4=> (dec x5).bind fun p5=> (dec x6).bind fun p6=> (dec x7).bind fun p7=> (dec x8).bind fun p8=> (dec x9).bind fun p9=> (D2 x10).bind fun ks=> some (.mk p0 p1 p2 p3 p4 p5 p6 p7 p8 p9 ks)
 | _=> none
def D2:D→Option (List Glob)
 | .list n es=> if n=11 then w8 es else none
 | .v (.slice none 0 0)=> some []
 | _=> none
def w8:List D→Option (List Glob)
 | []=> some []
 | d::ds=> (N2 d).bind fun x=> (w8 ds).bind fun xs=> some (x::xs)
end
theorem Do: ∀l:List Glob,uQ l=l.map HF
 | []=> rfl
 | _::l=> by rw[uQ,Do l];rfl
theorem Q6: ∀c:Glob,(HF c).kn=true
 | .mk .. => rfl
theorem NS: ∀c:Glob,(HF c).cells.length=11
 | .mk .. => rfl
mutual
theorem N1: ∀c:Glob,N2 (HF c)=some c
 | .mk p0 p1 p2 p3 p4 p5 p6 p7 p8 p9 ks=> by
   have h:D2 (.list 11 (uQ ks))=some ks:=by rw[D2,if_pos rfl];exact JW ks
   simp only[HF,N2,Cod.dec_enc,Option.bind_some,h]
theorem JW: ∀l:List Glob,w8 (uQ l)=some l
 | []=> by simp only[uQ,w8]
 | c::l=> by simp only[uQ,w8,N1 c,JW l,Option.bind_some]
end
mutual
theorem Rc: ∀ (d:D) (c:Glob),N2 d=some c→FrzTo cF d (HF c)
 | .agg [x0,x1,x2,x3,x4,x5,x6,x7,x8,x9,x10],c,h=> by
   simp only[N2,Option.bind_eq_some_iff,Option.some.injEq] at h
   obtain⟨p0,h0,p1,h1,p2,h2,p3,h3,p4,h4,p5,h5,p6,h6,p7,h7,p8,h8,p9,h9,ks,hk,rfl⟩:=h
   rw[HF]
   exact LeL.agg (.cons (Cod.le _ _ h0) (.cons (Cod.le _ _ h1) (.cons (Cod.le _ _ h2) (.cons (Cod.le _ _ h3) (.cons (Cod.le _ _ h4) (.cons (Cod.le _ _ h5) (.cons (Cod.le _ _ h6) (.cons (Cod.le _ _ h7) (.cons (Cod.le _ _ h8) (.cons (Cod.le _ _ h9) ((.cons (WA x10 ks hk) .nil))))))))))))
theorem WA: ∀ (d:D) (l:List Glob),D2 d=some l→FrzTo cF d (.list 11 (uQ l))
 | .list n es,l,h=> by
   simp only[D2] at h
   split at h
   ·rename_i hn
    subst hn
    have hl:=N0 es l h
    refine .list hl.1 (fun e he=> ?_) hl.2
    rw[Do] at he
    obtain⟨x,hx,rfl⟩:=List.mem_map.1 he
    exact⟨Q6 x,NS x⟩
   ·cases h
 | .v (.slice none 0 0),l,h=> by
   simp only[D2,Option.some.injEq] at h
   subst h
   exact .nil _
theorem N0: ∀ (es:List D) (l:List Glob),w8 es=some l→LeL es (uQ l)
 | [],l,h=> by
   simp only[w8,Option.some.injEq] at h
   subst h
   exact .nil
 | d::ds,l,h=> by
   simp only[w8,Option.bind_eq_some_iff,Option.some.injEq] at h
   obtain⟨x,h1,xs,h2,rfl⟩:=h
   rw[uQ]
   exact .cons (Rc d x h1) (N0 ds xs h2)
end
instance:Cod Glob where
 wd:=11
 enc:=HF
 dec:=N2
 kn:=Q6
 wid:=NS
 dec_enc:=N1
 le:=Rc
theorem SX (ks:List Glob):D.list 11 (uQ ks)=enc ks:=by rw[Do];rfl
theorem HK: ∀es:List D,w8 es=es.mapM (dec (X:=Glob))
 | []=> by simp[w8]
 | d::es=> by
   rw[w8,List.mapM_cons,HK es]
   rfl
theorem WB: ∀d:D,D2 d=dec (X:=List Glob) d:=fun d=> by
 unfold D2
 split
 ·rename_i n es
  show _=if n=11 then es.mapM (dec (X:=Glob)) else none
  rw[HK]
 ·rfl
 ·rename_i h1 h2
  show _=(match d with
   | .list n es=> if n=11 then es.mapM (dec (X:=Glob)) else none
   | .v (.slice none 0 0)=> some []
   | _=> none)
  split
  ·exact absurd rfl (h1 _ _)
  ·exact absurd rfl h2
  ·rfl
@[simp] theorem qdh (s:Glob):Glob.mk s.op s.a s.b s.name s.arg s.val s.fold s.mn s.mx s.args s.kids=s:=by cases s;rfl
@[simp] theorem Bu (s:Glob):enc s= .agg [enc s.op,enc s.a,enc s.b,enc s.name,enc s.arg,enc s.val,enc s.fold,enc s.mn,enc s.mx,enc s.args,enc s.kids]:=by
 rw[←SX]
 cases s
 show HF _=_
 rw[HF]
@[simp] theorem qd1:Cod.wd Glob=11:=id rfl
@[simp] theorem qdm (x0 x1 x2 x3 x4 x5 x6 x7 x8 x9 x10:D):dec (X:=Glob) (.agg [x0,x1,x2,x3,x4,x5,x6,x7,x8,x9,x10])=((dec x0).bind fun x0=> (dec x1).bind fun x1=> (dec x2).bind fun x2=> (dec x3).bind fun x3=> (dec x4).bind fun x4=> (dec x5).bind fun x5=> (dec x6).bind fun x6=> (dec x7).bind fun x7=> (dec x8).bind fun x8=> (dec x9).bind fun x9=> (dec x10).bind fun x10=> some ⟨x0,x1,x2,x3,x4,x5,x6,x7,x8,x9,x10⟩):=by
 show N2 _=_
 simp only[N2,WB]
structure jT where
 op:Int
 neg:Bool
 reg:B
instance:Cod jT where
 wd:=3
 enc f:= .agg [enc f.op,enc f.neg,enc f.reg]
 dec | .agg [x0,x1,x2]=> (dec x0).bind fun a=> (dec x1).bind fun b=> (dec x2).bind fun c=> some ⟨a,b,c⟩ | _=> none
 kn _:=rfl
 wid _:=rfl
 dec_enc f:=by simp only[Cod.dec_enc,Option.bind_some]
 le d x h:=by
  split at h
  ·simp only[Option.bind_eq_some_iff,Option.some.injEq] at h
   obtain⟨a,h0,b,h1,c,h2,rfl⟩:=h
   exact LeL.agg (.cons (Cod.le _ _ h0) (.cons (Cod.le _ _ h1) (.cons (Cod.le _ _ h2) .nil)))
  ·cases h
@[simp] theorem qdi (s:jT):enc s= .agg [enc s.op,enc s.neg,enc s.reg]:=id rfl
@[simp] theorem qd2:Cod.wd jT=3:=id rfl
structure Qry where
 pat:Pat
 glob:Glob
 filts:List jT
 strat:Int
def Dt:Pat→List D | .mk op c l r mn mx ks=> enc op:: (xd c++ [enc l,enc r,enc mn,enc mx,enc ks])
theorem Td: ∀p:Pat,D.agg (Dt p)=enc p
 | .mk .. => (LT ..).symm
theorem P9: ∀p:Pat,(Dt p).length=13
 | .mk op c l r mn mx ks=> by simp[Dt,HV]
def HU (g:Glob):List D:= [enc g.op,enc g.a,enc g.b,enc g.name,enc g.arg,enc g.val,enc g.fold,enc g.mn,enc g.mx,enc g.args,enc g.kids]
theorem Te (g:Glob):D.agg (HU g)=enc g:=(Bu g).symm
theorem WU {l l':List D} (h:FrzTo cF (.agg l) (.agg l')):LeL l l':=by
 cases h with
 | same=> exact⟨rfl,fun k x y hx hy=> by rw[hx] at hy;cases hy;exact .same _⟩
 | agg hl h=> exact⟨hl,h⟩
theorem Ww {l:List D} {p:Pat} (h:dec (D.agg l)=some p):LeL l (Dt p):=WU (by rw[Td];exact Cod.le _ _ h)
theorem SZ {l:List D} {p:Glob} (h:dec (D.agg l)=some p):LeL l (HU p):=WU (by rw[Te];exact Cod.le _ _ h)
def qaT (q:Qry):D:= .agg (Dt q.pat++ (HU q.glob++ [enc q.filts,enc q.strat]))
def qa2:D→Option Qry
 | .agg [x0,x1,x2,x3,x4,x5,x6,x7,x8,x9,x10,x11,x12,y0,y1,y2,y3,y4,y5,y6,y7,y8,y9,y10,f,s]=> (dec (D.agg [x0,x1,x2,x3,x4,x5,x6,x7,x8,x9,x10,x11,x12])).bind fun p=> (dec (D.agg [y0,y1,y2,y3,y4,y5,y6,y7,y8,y9,y10])).bind fun g=> (dec f).bind fun fs=> (dec s).bind fun st=> some ⟨p,g,fs,st⟩
 | _=> none
instance:Cod Qry where
 wd:=26
 enc:=qaT
 dec:=qa2
 kn _:=rfl
 wid q:=by simp[qaT,D.cells,P9,HU]
 dec_enc q:=by
  obtain⟨⟨op,⟨o,n,a,v,l,f,cks⟩,lb,rg,mn,mx,ks⟩,g,fs,st⟩:=q
  have h1:=Cod.dec_enc (⟨op,⟨o,n,a,v,l,f,cks⟩,lb,rg,mn,mx,ks⟩:Pat)
  have h2:=Cod.dec_enc g
  rw[LT] at h1
  rw[Bu] at h2
  simp only[xd,List.cons_append,List.nil_append] at h1
  simp only[qaT,Dt,xd,HU,List.cons_append,List.nil_append,qa2,h1,h2,Cod.dec_enc,Option.bind_some]
 le d x h:=by
  unfold qa2 at h
  split at h
  ·simp only[Option.bind_eq_some_iff,Option.some.injEq] at h
   obtain⟨p,h0,g,h1,fs,h2,st,h3,rfl⟩:=h
   exact LeL.agg ((Ww h0).append ((SZ h1).append (.cons (Cod.le _ _ h2) (.cons (Cod.le _ _ h3) .nil))))
  ·cases h
@[simp] theorem qfd (s:Qry):Qry.mk s.pat s.glob s.filts s.strat=s:=by cases s;rfl
@[simp] theorem Bt (s:Qry):enc s= .agg [enc s.pat.op,enc s.pat.cond.op,enc s.pat.cond.name,enc s.pat.cond.arg,enc s.pat.cond.val,enc s.pat.cond.lab,enc s.pat.cond.fold,enc s.pat.cond.kids,enc s.pat.lab,enc s.pat.reg,enc s.pat.mn,enc s.pat.mx,enc s.pat.kids,enc s.glob.op,enc s.glob.a,enc s.glob.b,enc s.glob.name,enc s.glob.arg,enc s.glob.val,enc s.glob.fold,enc s.glob.mn,enc s.glob.mx,enc s.glob.args,enc s.glob.kids,enc s.filts,enc s.strat]:=by
 obtain⟨⟨op,⟨o,n,a,v,l,f,cks⟩,lb,rg,mn,mx,ks⟩,g,fs,st⟩:=s
 rfl
@[simp] theorem qfl (x0 x1 x2 x3 x4 x5 x6 x7 x8 x9 x10 x11 x12 y0 y1 y2 y3 y4 y5 y6 y7 y8 y9 y10 f s:D):dec (X:=Qry) (.agg [x0,x1,x2,x3,x4,x5,x6,x7,x8,x9,x10,x11,x12,y0,y1,y2,y3,y4,y5,y6,y7,y8,y9,y10,f,s])=((dec (D.agg [x0,x1,x2,x3,x4,x5,x6,x7,x8,x9,x10,x11,x12])).bind fun p=> (dec (D.agg [y0,y1,y2,y3,y4,y5,y6,y7,y8,y9,y10])).bind fun g=> (dec f).bind fun fs=> (dec s).bind fun st=> some ⟨p,g,fs,st⟩):=id rfl
end Go.Gv

namespace Go.Gv
open Cod (enc dec)
variable {S S0:Nat→Spc}
def Xe (n:Nat) (x:Cond×List B):Prop:=0 < n∧CS (n -1) x.1
def Ql (n:Nat) (x:Pat×List B):Prop:=0 < n∧PD (n -1) x.1
def ZI (x:Pat) (l:List B):Prop:=l.length+xM x≤1000000
def Ia (n:Nat) (x:List Int×Int×List B):Prop:=x.2.1.toNat < n∧ -10≤x.2.1∧x.2.1≤100∧1≤x.2.2.length∧x.2.2.length≤1000000
theorem ip {q:Glob→Prop} {H:ab} {op mn mx:Int} {a b n g v:B} {f:Bool} {d e:D} (ar:List B) (ks:List Glob) (hd:FrzTo H d (enc ar)) (he:FrzTo H e (enc ks)) (hq:q ⟨op,a,b,n,g,v,f,mn,mx,ar,ks⟩):
 Fin enc q (.agg [.v (.int .i64 op), .v (.string a), .v (.string b), .v (.string n), .v (.string g), .v (.string v), .v (.bool f), .v (.int .i64 mn), .v (.int .i64 mx),d,e]) H:=by
 refine fK (⟨op,a,b,n,g,v,f,mn,mx,ar,ks⟩:Glob) ?_ hq
 rw[Bu]
 refine .agg rfl fun k x y hx hy=> ?_
 rcases k with _ | _ | _ | _ | _ | _ | _ | _ | _ | _ | _ | k
 ·cases hx;cases hy;exact .same _
 ·cases hx;cases hy;exact .same _
 ·cases hx;cases hy;exact .same _
 ·cases hx;cases hy;exact .same _
 ·cases hx;cases hy;exact .same _
 ·cases hx;cases hy;exact .same _
 ·cases hx;cases hy;exact .same _
 ·cases hx;cases hy;exact .same _
 ·cases hx;cases hy;exact .same _
 ·cases hx;cases hy;exact hd
 ·cases hx;cases hy;exact he
 ·simp at hx
end Go.Gv

namespace Go.Gv
open Cod (enc dec)
structure Dy where
 kind:Int
 text:B
 pos:Int
instance:Cod Dy where
 wd:=3
 enc t:= .agg [.v (.int .u8 t.kind),enc t.text,enc t.pos]
 dec | .agg [.v (.int .u8 k),x1,x2]=> (dec x1).bind fun b=> (dec x2).bind fun c=> some ⟨k,b,c⟩ | _=> none
 kn _:=rfl
 wid _:=rfl
 dec_enc f:=by simp only[Cod.dec_enc,Option.bind_some]
 le d x h:=by
  split at h
  ·simp only[Option.bind_eq_some_iff,Option.some.injEq] at h
   obtain⟨b,h1,c,h2,rfl⟩:=h
   exact LeL.agg (.cons (.same _) (.cons (Cod.le _ _ h1) (.cons (Cod.le _ _ h2) .nil)))
  ·cases h
@[simp] theorem qfh (s:Dy):enc s= .agg [.v (.int .u8 s.kind),enc s.text,enc s.pos]:=id rfl
@[simp] theorem qf3:Cod.wd Dy=3:=id rfl
structure Pst where
 l:List Dy
 pos:Int
 deep:Int
 e:Int
 fail:Int
@[simp] theorem qfe (s:Pst):Pst.mk s.l s.pos s.deep s.e s.fail=s:=by cases s;rfl
def dF (s:Pst):List D:= [enc s.l,enc s.pos,enc s.deep,enc s.e,enc s.fail]
@[simp] theorem qdx (s:Pst):dF s= [enc s.l,enc s.pos,enc s.deep,enc s.e,enc s.fail]:=id rfl
def Pst.step (s:Pst):Pst:= { s with pos:=s.pos+1 }
def ub (s:Pst):Option Dy:=if 0≤s.pos∧s.l.length≤1000000 then s.l[s.pos.toNat]? else none
def DV (s:Pst) (k:Int) (t:B):Option Bool:=if s.e≠0 then some false else(ub s).map fun x=> decide (x.kind=k∧x.text=t)
def fT (s:Pst) (t:B):Option (Pst×Bool):=(DV s 111 t).map fun b=> if b then(s.step,true) else(s,false)
def P5 (n:Int) (c:UInt8):Int:=min (10*n+ ((c.toNat:Int) -48)) 1000000
def E0:B:=⟨#[]⟩
section
variable (A:Pst→Option (Pst×Pat))
def sX (op:Int) (l:List Pat):Pat:=match l with
 | [x]=> x
 | l=> ⟨op,Cond0,E0,E0,0,0,l⟩
end
end Go.Gv

namespace Go.Gv
def VD (s:B) (i:Nat):Bool:=match s.data[i]? with
 | some c=> decide (c.toNat=32∨c.toNat=10)
 | none=> false
def PJ (s:B) (i:Nat):Bool:=match s.data[i]? with
 | some c=> decide (48≤c.toNat∧c.toNat≤57)
 | none=> false
def FN:Nat→B→Nat→Nat
 | 0,_,i=> i
 | n+1,s,i=> if VD s i then FN n s (i+1) else i
def bV (s:B) (i:Nat):Nat:=FN (s.size -i) s i
def P6:Nat→B→Nat→Nat
 | 0,_,i=> i
 | n+1,s,i=> if PJ s i then P6 n s (i+1) else i
def oU (s:B) (i:Nat):Nat:=P6 (s.size -i) s i
def signsL:List B:= [⟨#[60,47]⟩,⟨#[33,61]⟩,⟨#[58,58]⟩,⟨#[37,99]⟩,⟨#[91]⟩,⟨#[93]⟩,⟨#[40]⟩,⟨#[41]⟩,⟨#[123]⟩,⟨#[125]⟩,⟨#[60]⟩,⟨#[62]⟩,⟨#[124]⟩,⟨#[38]⟩,⟨#[33]⟩,⟨#[61]⟩,⟨#[58]⟩,⟨#[46]⟩,⟨#[44]⟩,⟨#[63]⟩,⟨#[42]⟩,⟨#[43]⟩,⟨#[45]⟩]
def iH (s:B) (i:Nat) (x:B):Bool:=decide (i+x.size≤s.size∧s.extract i (i+x.size)=x)
theorem yP {s:B} {i:Nat} (h:i < s.size):bV s i=if VD s i then bV s (i+1) else i:=by
 unfold bV
 rw[show s.size -i=(s.size - (i+1)) +1 by omega,FN]
theorem Jm {s:B} {i:Nat} (h:s.size≤i):bV s i=i:=by
 unfold bV
 rw[show s.size -i=0 by omega,FN]
theorem Dr {s:B} {i:Nat} (h:i < s.size):oU s i=if PJ s i then oU s (i+1) else i:=by
 unfold oU
 rw[show s.size -i=(s.size - (i+1)) +1 by omega,P6]
theorem Wv {s:B} {i:Nat} (h:s.size≤i):oU s i=i:=by
 unfold oU
 rw[show s.size -i=0 by omega,P6]
end Go.Gv

namespace Go.Gv
open Cod (enc dec)
def vp (s:Pst) (e a:Int):Pst:=if s.e=0 then { s with e:=e,fail:=a } else s
def j4 (s:Pst):Option Pst:=(ub s).map fun t=> vp s 3 t.pos
def Nd (s:Pst):Option Dy:=if 0≤s.pos∧s.pos≤1000000∧s.l.length≤1000000 then s.l[(min (s.pos+1) (s.l.length -1)).toNat]? else none
def bv (s:Pst) (k:Int) (t:B):Option (Pst×B):=(ub s).bind fun x=> if s.e≠0 then some (s,E0) else if x.kind≠k∨k=111∧x.text≠t then some (vp s 3 x.pos,E0) else some (s.step,x.text)
def jV (s:Pst) (k:Int):Option Bool:=if s.e≠0 then some false else(ub s).map fun x=> decide (x.kind=k)
def ej (n:Int) (c:UInt8):Int:=min (10*n+ ((c.toNat:Int) +208) % 256) 1000000
def qH (t:B):Bool:=t.data.toList.all fun c=> decide (48≤c.toNat∧c.toNat≤57)
def gg (s:Pst) (limit a:Int):Option (Pst×Int):=(bv s 100 E0).bind fun r=>
 if qH r.2=true then some (if limit < r.2.data.toList.foldl ej 0 then vp r.1 8 a else r.1,r.2.data.toList.foldl ej 0) else none
def DH (t:B):Bool:=decide (t=⟨#[115,116,114,97,116,101,103,121]⟩∨t=⟨#[119,105,116,104,105,110]⟩∨t=⟨#[99,111,110,116,97,105,110,105,110,103]⟩∨t=⟨#[111,118,101,114,108,97,112,112,105,110,103]⟩)
def rP (s:Pst):Option Bool:=(ub s).bind fun x=> if s.e≠0 then some false else
 if x.kind=110 then(Nd s).map fun n=> decide (n.kind=111∧n.text=⟨#[58]⟩) || (decide (0 < s.deep) || !DH x.text)
 else some (decide (x.kind=115∨x.kind=111∧(x.text=⟨#[91]⟩∨x.text=⟨#[60]⟩∨x.text=⟨#[60,47]⟩∨x.text=⟨#[40]⟩)))
def Ti (op:Int) (l:List Cond):Cond:=match l with
 | [x]=> x
 | l=> ⟨op,E0,E0,E0,E0,false,l⟩
section
variable (N:Pst→Option (Pst×Cond)) (O:Pst→Option (Pst×Cond))
def m8:Nat→Pst→List Cond→Option (Pst×List Cond)
 | 0,_,_=> none
 | k+1,s,acc=> (fT s ⟨#[38]⟩).bind fun w=> if w.2 then(N w.1).bind fun r=> m8 k r.1 (acc++ [r.2]) else some (w.1,acc)
def andG (s:Pst):Option (Pst×Cond):=(N s).bind fun r=> (m8 N 500 r.1 [r.2]).map fun q=> (q.1,Ti 7 q.2)
def pJ:Nat→Pst→List Cond→Option (Pst×List Cond)
 | 0,_,_=> none
 | k+1,s,acc=> (fT s ⟨#[124]⟩).bind fun w=> if w.2 then(andG N w.1).bind fun r=> pJ k r.1 (acc++ [r.2]) else some (w.1,acc)
def orG (s:Pst):Option (Pst×Cond):=(andG N s).bind fun r=> (pJ N 500 r.1 [r.2]).map fun q=> (q.1,Ti 8 q.2)
def tB (s:Pst) (name:B):Option (Pst×Cond):=(bv s 115 E0).bind fun v=> (fT v.1 ⟨#[37,99]⟩).map fun w=> (w.1,⟨2,name,E0,v.2,E0,w.2, []⟩)
def AD (s:Pst):Option (Pst×Cond):=(bv s 110 E0).bind fun n=> (fT n.1 ⟨#[44]⟩).bind fun c=>
 if c.2 then(bv c.1 110 E0).bind fun a=> (bv a.1 111 ⟨#[61]⟩).bind fun u=> (bv u.1 115 E0).bind fun v=> (bv v.1 111 ⟨#[41]⟩).map fun z=> (z.1,⟨5,n.2,a.2,v.2,E0,false, []⟩)
 else(bv c.1 111 ⟨#[41]⟩).map fun z=> (z.1,⟨5,n.2,E0,E0,E0,false, []⟩)
def BA (s:Pst) (name:B):Option (Pst×Cond):=(fT s ⟨#[33,61]⟩).bind fun w=> if w.2 then(tB w.1 name).map fun v=> (v.1,⟨6,E0,E0,E0,E0,false, [v.2]⟩) else
 (DV w.1 110 ⟨#[99,111,110,116,97,105,110,115]⟩).bind fun b=> if b then(bv w.1.step 115 E0).map fun v=> (v.1,⟨3,name,E0,v.2,E0,false, []⟩) else
 (bv w.1 111 ⟨#[61]⟩).bind fun u=> (jV u.1 110).bind fun k=> if k then(bv u.1 110 E0).bind fun l=> (bv l.1 111 ⟨#[46]⟩).bind fun d=> (bv d.1 110 E0).map fun a=> (a.1,⟨4,name,a.2,E0,l.2,false, []⟩)
 else tB u.1 name
def notG (s:Pst):Option (Pst×Cond):=(fT s ⟨#[33]⟩).bind fun w=> if w.2 then(N w.1).map fun r=> (r.1,⟨6,E0,E0,E0,E0,false, [r.2]⟩) else
 (fT w.1 ⟨#[40]⟩).bind fun u=> if u.2 then(O u.1).bind fun x=> (bv x.1 111 ⟨#[41]⟩).map fun z=> (z.1,x.2) else
 (bv u.1 110 E0).bind fun n=> if n.2=⟨#[105,110]⟩ then(fT n.1 ⟨#[40]⟩).bind fun v=> if v.2 then AD v.1 else BA v.1 n.2 else BA n.1 n.2
end
def rv:Nat→Pst→Option (Pst×Cond)
 | 0=> fun _=> none
 | n+1=> notG (rv n) (orG (rv n))
section
variable (A:Pst→Option (Pst×Pat)) (O:Pst→Option (Pst×Cond))
def yN (s:Pst) (label:B):Option (Pst×Pat):=(jV s 115).bind fun k=> if k then(tB s E0).map fun v=> (v.1,⟨1,v.2,label,E0,0,0, []⟩) else
 (bv s 111 ⟨#[91]⟩).bind fun u=> (fT u.1 ⟨#[93]⟩).bind fun w=> if w.2 then some (w.1,⟨1,⟨1,E0,E0,E0,E0,false, []⟩,label,E0,0,0, []⟩) else
 (O w.1).bind fun x=> (bv x.1 111 ⟨#[93]⟩).map fun z=> (z.1,⟨1,x.2,label,E0,0,0, []⟩)
def BB (s:Pst) (op:Int):Option (Pst×Pat):=(bv s 110 E0).bind fun n=> (bv n.1 111 ⟨#[62]⟩).map fun z=> (z.1,⟨op,Cond0,E0,n.2,0,0, []⟩)
def itemG (s:Pst):Option (Pst×Pat):=
 (fT s ⟨#[40]⟩).bind fun r=>
   if r.2 then(if 0≤r.1.deep∧r.1.deep≤1000 then(A { r.1 with deep:=r.1.deep+1 }).bind fun q=> if 0≤q.1.deep∧q.1.deep≤1000000 then(bv { q.1 with deep:=q.1.deep -1 } 111 ⟨#[41]⟩).map fun w=> (w.1,q.2) else none else none)
   else(fT r.1 ⟨#[60]⟩).bind fun b=> if b.2 then BB b.1 2 else(fT b.1 ⟨#[60,47]⟩).bind fun c=> if c.2 then BB c.1 3 else
   (jV c.1 110).bind fun k=> if k then(bv c.1 110 E0).bind fun n=> (bv n.1 111 ⟨#[58]⟩).bind fun u=> yN O u.1 n.2 else yN O c.1 E0
def X8 (s:Pst) (a:Int):Option (Pst×Option (Int×Int)):=(fT s ⟨#[63]⟩).bind fun w=> if w.2 then some (w.1,some (0,1)) else
 (fT w.1 ⟨#[42]⟩).bind fun w=> if w.2 then some (w.1,some (0, -1)) else
 (fT w.1 ⟨#[43]⟩).bind fun w=> if w.2 then some (w.1,some (1, -1)) else
 (fT w.1 ⟨#[123]⟩).bind fun w=> if w.2 then
   (gg w.1 16 a).bind fun lo=> (fT lo.1 ⟨#[44]⟩).bind fun c=>
     if c.2 then(jV c.1 100).bind fun k=> if k then(gg c.1 16 a).bind fun hi=> (bv (if hi.2 < lo.2 then vp hi.1 8 a else hi.1) 111 ⟨#[125]⟩).map fun z=> (z.1,some (lo.2,hi.2))
      else(bv c.1 111 ⟨#[125]⟩).map fun z=> (z.1,some (lo.2, -1))
     else(bv c.1 111 ⟨#[125]⟩).map fun z=> (z.1,some (lo.2,lo.2))
 else some (w.1,none)
def mB:Nat→Pst→Pat→Option (Pst×Pat)
 | 0,_,_=> none
 | k+1,s,x=> if s.e≠0 then some (s,x) else(ub s).bind fun t=> (X8 s t.pos).bind fun r=> match r.2 with
   | none=> some (r.1,x)
   | some m=> mB k r.1 ⟨6,Cond0,E0,E0,m.1,m.2, [x]⟩
def repG (s:Pst):Option (Pst×Pat):=(itemG A O s).bind fun r=> mB 500 r.1 r.2
def md:Nat→Pst→List Pat→Option (Pst×List Pat)
 | 0,_,_=> none
 | k+1,s,acc=> (rP s).bind fun b=> if b then(repG A O s).bind fun r=> md k r.1 (acc++ [r.2]) else some (s,acc)
def seqG (s:Pst):Option (Pst×Pat):=(repG A O s).bind fun r=> (md A O 500 r.1 [r.2]).map fun q=> (q.1,sX 4 q.2)
def m9:Nat→Pst→List Pat→Option (Pst×List Pat)
 | 0,_,_=> none
 | k+1,s,acc=> (fT s ⟨#[124]⟩).bind fun w=> if w.2 then(seqG A O w.1).bind fun r=> m9 k r.1 (acc++ [r.2]) else some (w.1,acc)
def altG (s:Pst):Option (Pst×Pat):=(seqG A O s).bind fun r=> (m9 A O 500 r.1 [r.2]).map fun q=> (q.1,sX 5 q.2)
end
def BD:Nat→Pst→Option (Pst×Pat)
 | 0=> fun _=> none
 | n+1=> altG (BD n) (orG (rv (n+1)))
def SO (op:Int) (l:List Glob):Glob:=match l with
 | [x]=> x
 | l=> ⟨op,E0,E0,E0,E0,E0,false,0,0, [],l⟩
section
variable (N:Pst→Option (Pst×Glob)) (O:Pst→Option (Pst×Glob))
def jN:Nat→Pst→List Glob→Option (Pst×List Glob)
 | 0,_,_=> none
 | k+1,s,acc=> (fT s ⟨#[38]⟩).bind fun w=> if w.2 then(N w.1).bind fun r=> jN k r.1 (acc++ [r.2]) else some (w.1,acc)
def gandG (s:Pst):Option (Pst×Glob):=(N s).bind fun r=> (jN N 500 r.1 [r.2]).map fun q=> (q.1,SO 12 q.2)
def mG:Nat→Pst→List Glob→Option (Pst×List Glob)
 | 0,_,_=> none
 | k+1,s,acc=> (fT s ⟨#[124]⟩).bind fun w=> if w.2 then(gandG N w.1).bind fun r=> mG k r.1 (acc++ [r.2]) else some (w.1,acc)
def gorG (s:Pst):Option (Pst×Glob):=(gandG N s).bind fun r=> (mG N 500 r.1 [r.2]).map fun q=> (q.1,SO 13 q.2)
def L4 (s:Pst):Option (Pst×Int):=(ub s).bind fun t=> gg s 100000 t.pos
def signedG (s:Pst):Option (Pst×Int):=(fT s ⟨#[45]⟩).bind fun w=> (L4 w.1).map fun n=> (n.1,if w.2 then -n.2 else n.2)
def jS:Nat→Pst→List B→Option (Pst×List B)
 | 0,_,_=> none
 | k+1,s,acc=> (fT s ⟨#[44]⟩).bind fun w=> if w.2 then(bv w.1 115 E0).bind fun r=> jS k r.1 (acc++ [r.2]) else some (w.1,acc)
def vT (s:Pst) (op:Int) (a b:B):Option (Pst×Glob):=
 if op=4 then(bv s 111 ⟨#[44]⟩).bind fun u=> (signedG u.1).bind fun lo=> (bv lo.1 111 ⟨#[44]⟩).bind fun v=> (signedG v.1).map fun hi=> (hi.1,⟨op,a,b,E0,E0,E0,false,lo.2,hi.2, [], []⟩)
 else if op=10 then(bv s 111 ⟨#[44]⟩).bind fun u=> (L4 u.1).bind fun lo=> (bv lo.1 111 ⟨#[44]⟩).bind fun v=> (L4 v.1).map fun hi=> (hi.1,⟨op,a,b,E0,E0,E0,false,lo.2,hi.2, [], []⟩)
 else if op=5∨op=9 then(bv s 111 ⟨#[44]⟩).bind fun u=> (bv u.1 110 E0).map fun n=> (n.1,⟨op,a,b,n.2,E0,E0,false,0,0, [], []⟩)
 else if op=8 then(jS 500 s []).map fun l=> (l.1,⟨op,a,b,E0,E0,E0,false,0,0,l.2, []⟩)
 else some (s,⟨op,a,b,E0,E0,E0,false,0,0, [], []⟩)
def callG (s:Pst) (op:Int):Option (Pst×Glob):=(bv s 110 E0).bind fun a=>
 if op≠1∧op≠10 then(bv a.1 111 ⟨#[44]⟩).bind fun u=> (bv u.1 110 E0).bind fun b=> (vT b.1 op a.2 b.2).bind fun x=> (bv x.1 111 ⟨#[41]⟩).map fun z=> (z.1,x.2)
 else(vT a.1 op a.2 E0).bind fun x=> (bv x.1 111 ⟨#[41]⟩).map fun z=> (z.1,x.2)
def funcsL:List (B×Int):= [(⟨#[98,111,117,110,100]⟩,1),(⟨#[100,105,115,116,97,110,99,101]⟩,4),(⟨#[115,97,109,101]⟩,5),(⟨#[104,101,97,100]⟩,6),(⟨#[97,110,99,101,115,116,111,114]⟩,7),(⟨#[112,97,116,104]⟩,8),(⟨#[110,111,100,101]⟩,9),(⟨#[100,101,112,116,104]⟩,10)]
def sm (name:B):Int:=match funcsL.find? fun p=> decide (p.1=name) with
 | some p=> p.2
 | none=> 0
def zT (s:Pst) (name:B):Option (Pst×Glob):=(bv s 111 ⟨#[46]⟩).bind fun d=> (bv d.1 110 E0).bind fun n=> (bv n.1 111 ⟨#[61]⟩).bind fun u=> (jV u.1 110).bind fun k=>
 if k then(bv u.1 110 E0).bind fun b=> (bv b.1 111 ⟨#[46]⟩).bind fun v=> (bv v.1 110 E0).map fun g=> (g.1,⟨3,name,b.2,n.2,g.2,E0,false,0,0, [], []⟩)
 else(bv u.1 115 E0).bind fun v=> (fT v.1 ⟨#[37,99]⟩).map fun f=> (f.1,⟨2,name,E0,n.2,E0,v.2,f.2,0,0, [], []⟩)
def gnotG (s:Pst):Option (Pst×Glob):=(fT s ⟨#[33]⟩).bind fun w=> if w.2 then(N w.1).map fun r=> (r.1,⟨11,E0,E0,E0,E0,E0,false,0,0, [], [r.2]⟩) else
 (fT w.1 ⟨#[40]⟩).bind fun u=> if u.2 then(O u.1).bind fun x=> (bv x.1 111 ⟨#[41]⟩).map fun z=> (z.1,x.2) else
 (bv u.1 110 E0).bind fun n=> if 0 < sm n.2 then(fT n.1 ⟨#[40]⟩).bind fun v=> if v.2 then callG v.1 (sm n.2) else zT v.1 n.2 else zT n.1 n.2
end
def td:Nat→Pst→Option (Pst×Glob)
 | 0=> fun _=> none
 | n+1=> gnotG (td n) (gorG (td n))
def filterL:List B:= [E0,⟨#[119,105,116,104,105,110]⟩,⟨#[99,111,110,116,97,105,110,105,110,103]⟩,⟨#[111,118,101,114,108,97,112,112,105,110,103]⟩]
def dc:List B:= [⟨#[101,97,99,104]⟩,⟨#[115,104,111,114,116,101,115,116]⟩,⟨#[108,111,110,103,101,115,116]⟩,⟨#[116,114,97,100,105,116,105,111,110,97,108]⟩]
def sC (s:Pst):List B→Int→Option Int
 | [],_=> some (-1)
 | w::l,i=> (DV s 110 w).bind fun b=> if b then some i else sC s l (i+1)
def fy:Nat→Pst→List jT→Option (Pst×List jT)
 | 0,_,_=> none
 | k+1,s,acc=> if s.e≠0 then some (s,acc) else(fT s ⟨#[33]⟩).bind fun w=> (sC w.1 (filterL.drop 1) 1).bind fun op=>
   if op= -1 then(if w.2 then(j4 w.1).map fun z=> (z,acc) else some (w.1,acc))
   else(bv w.1.step 110 E0).bind fun n=> fy k n.1 (acc++ [⟨op,w.2,n.2⟩])
def rY (s:Pst):Option (Pst×Int):=(DV s 110 ⟨#[115,116,114,97,116,101,103,121]⟩).bind fun b=> if b then(sC s.step dc 0).bind fun k=> if k= -1 then(j4 s.step).map fun z=> (z, -1) else some (s.step.step,k) else some (s,0)
def queryG (l:List Dy):Option (Pst×Qry):=(BD 500 ⟨l,0,0,0,0⟩).bind fun p=> (fT p.1 ⟨#[58,58]⟩).bind fun c=>
 (if c.2 then gorG (td 500) c.1 else some (c.1,⟨0,E0,E0,E0,E0,E0,false,0,0, [], []⟩)).bind fun g=> (fy 500 g.1 []).bind fun f=> (rY f.1).bind fun z=>
 (jV z.1 101).bind fun b=> if b∨z.1.e≠0 then some (z.1,⟨p.2,g.2,f.2,z.2⟩) else(j4 z.1).map fun w=> (w,⟨p.2,g.2,f.2,z.2⟩)
end Go.Gv

namespace Go.Gv
def A6 (c:Nat):Bool:=decide (65≤c∧c≤90∨97≤c∧c≤122∨c=95)
def Lt (s:B) (i:Nat):Bool:=match s.data[i]? with
 | some c=> A6 c.toNat || decide (48≤c.toNat∧c.toNat≤57∨c.toNat=45)
 | none=> false
def Py:Nat→B→Nat→Nat
 | 0,_,i=> i
 | n+1,s,i=> if Lt s i then Py n s (i+1) else i
def om (s:B) (i:Nat):Nat:=Py (s.size -i) s i
def kI:Nat→B→Nat→B→Option (Nat×B)
 | 0,_,_,_=> none
 | n+1,s,j,v=> match s.data[j]? with
   | none=> none
   | some c=> if c.toNat=34 then(match s.data[j+1]? with
      | some d=> if d.toNat=34 then kI n s (j+2) (v++s.extract (j+1) (j+2)) else some (j,v)
      | none=> some (j,v)) else kI n s (j+1) (v++s.extract j (j+1))
def nA (s:B) (j:Nat) (v:B):Option (Nat×B):=kI (s.size -j) s j v
def RY (s:B) (i:Nat):Option (Nat×Dy):=match s.data[i]? with
 | none=> none
 | some c=>
   if A6 c.toNat then some (om s i,⟨110,s.extract i (om s i),i⟩)
   else if 48≤c.toNat∧c.toNat≤57 then some (oU s i,⟨100,s.extract i (oU s i),i⟩)
   else if c.toNat=34 then(nA s (i+1) ⟨#[]⟩).map fun r=> (r.1+1,⟨115,r.2,i⟩)
   else(signsL.find? (iH s i)).map fun x=> (i+x.size,⟨111,s.extract i (i+x.size),i⟩)
def yQ:Nat→B→Nat→List Dy→Option (List Dy)
 | 0,_,_,_=> none
 | k+1,s,i,out=> if bV s i=s.size then some (out++ [⟨101,E0,s.size⟩]) else match RY s (bV s i) with
   | none=> some (out++ [⟨120,E0,bV s i⟩])
   | some r=> if r.1≤s.size∧bV s i < r.1 then yQ k s r.1 (out++ [r.2]) else none
def FT (s:B):Option (List Dy):=yQ (s.size+1) s 0 []
def vX:Qry:=⟨⟨0,Cond0,E0,E0,0,0, []⟩,⟨0,E0,E0,E0,E0,E0,false,0,0, [], []⟩, [],0⟩
def sj (s:B):Option (Qry×Int×Int):=if 400 < s.size then some (vX,0,2) else
 (FT s).bind fun l=> (queryG l).map fun r=> if r.1.e≠0 then(vX,r.1.fail,r.1.e) else(r.2,0,0)
end Go.Gv

namespace Go.Gv
open Go.Proofs
def nN:CC:=oX [oB 2 (.box ag true (oT 0)),oB 3 (.box ZY true (oT 1)),oB 4 (.mv (.const ob))] [2,3] [] (oX [oC 5 1 3,oB 6 (.cmp .leq (oT 5) (oN 100)),oA 7 6,oH 8 7 (.faddr 12 (oT 2)),oH 9 7 (.load false 1 (oT 8)),oH 10 7 (.clo eJ [oT 3]),oH 11 7 (.call aP [oT 9,oT 10]),oH 12 7 (.not (oT 11)),
 oB 13 (.pick (oT 7) (oT 12) (.const ob)),oA 4 13] [4] [] (.ret))
def nt:List aI:= [.tmp 4]
def C0:List Nat:= [3,2]
theorem CD:aR Tryz.prog du C0 nN nt 14:=aA ay (by kernel_rfl)
def lH:CC:=oX [oB 2 (.box ag true (oT 0)),oB 3 (.mv (.const ob))] [1,2] [] (oX [oD 4 13 2,oC 5 1 1,oB 6 (.arith .add (oT 5) (oN 1)),oZ 7 du [oT 4,oT 6],oB 8 (.not (oT 7)),oA 3 8] [3] [] (.ret))
def lj:List aI:= [.tmp 3]
def zP:List Nat:= [2]
theorem zt:aR Tryz.prog eJ zP lH lj 9:=aA ay (by kernel_rfl)
def ss:CC:=oX [oB 1 (.box aH true (oT 0)),oB 2 (.mv (.const ob))] [1] [] (oX [oE 3 0 1,oC 4 1 3,oB 5 (.eql false false [.int] (oT 4) (oN 0)),oA 6 5,oH 7 6 (.faddr 1 (oT 1)),oH 8 6 (.load false 1 (oT 7)),oH 9 6 (.eql false false [.str] (oT 8) (oS ⟨#[]⟩)),oB 10 (.pick (oT 6) (oT 9) (.const ob)),oA 11 10,oH 12 11 (.faddr 2 (oT 1)),oH 13 11 (.load false 1 (oT 12)),
 oH 14 11 (.eql false false [.str] (oT 13) (oS ⟨#[]⟩)),oB 15 (.pick (oT 11) (oT 14) (.const ob)),oA 16 15,oH 17 16 (.faddr 3 (oT 1)),oH 18 16 (.load false 1 (oT 17)),oH 19 16 (.eql false false [.str] (oT 18) (oS ⟨#[]⟩)),oB 20 (.pick (oT 16) (oT 19) (.const ob)),oA 21 20,oH 22 21 (.faddr 4 (oT 1)),oH 23 21 (.load false 1 (oT 22)),oH 24 21 (.eql false false [.str] (oT 23) (oS ⟨#[]⟩)),
 oB 25 (.pick (oT 21) (oT 24) (.const ob)),oA 26 25,oH 27 26 (.faddr 5 (oT 1)),oH 28 26 (.load false 1 (oT 27)),oH 29 26 (.not (oT 28)),oB 30 (.pick (oT 26) (oT 29) (.const ob)),oA 31 30,oH 32 31 (.faddr 6 (oT 1)),oH 33 31 (.load false 1 (oT 32)),oH 34 31 (.len (oT 33)),oH 35 31 (.eql false false [.int] (oT 34) (oN 0)),oB 36 (.pick (oT 31) (oT 35) (.const ob)),oA 2 36] [2] [] (.ret))
def r9:List aI:= [.tmp 2]
def I0:List Nat:= [1]
theorem IP:aR Tryz.prog mJ I0 ss r9 37:=aA ay (by kernel_rfl)
def sw:CC:=oX [oB 1 (.box ag true (oT 0)),oB 2 (.mv (.const ob))] [1] [] (oX [oB 3 (.mv (.const ob)),oB 4 (.mv (.const ob)),oB 5 (.mv (.const ob))] [1,3,4,5] [] (oX [oB 6 (.mv (oN 0)),oB 7 (.mv (oN 0))] [1,3,4,5,6,7] [] (.seq (oX [oE 8 0 1,oC 9 1 8] [1,3,4,5,6,7,9] [] (.block 0 (oX [oB 11 (.eql false false [.int] (oT 9) (oN 1)),
 oA 10 11] [1,3,4,5,6,7,9,10] [] (.ite (oT 10) (.reg [oB 3 (.mv (.const (.bool true)))]) (.seq (oX [oB 13 (.eql false false [.int] (oT 9) (oN 2)),oA 12 13] [1,3,4,5,6,7,9,12] [] (.ite (oT 12) (.skip) (.reg [oB 14 (.eql false false [.int] (oT 9) (oN 3)),oA 12 14]))) (.keep [1,3,4,5,6,7,9,12] [] (.ite (oT 12) (.reg [oB 4 (.mv (.const (.bool true)))]) (.seq (oX [
 oB 16 (.eql false false [.int] (oT 9) (oN 4)),oA 15 16] [1,3,4,5,9,15] [] (.ite (oT 15) (.skip) (.reg [oB 17 (.eql false false [.int] (oT 9) (oN 5)),oA 15 17]))) (.keep [1,3,4,5,9,15] [] (.ite (oT 15) (.regd [oE 18 12 1,oC 19 1 18,oB 20 (.len (oT 19)),oB 6 (.mv (oN 2))] [oA 7 20]) (oX [oB 22 (.eql false false [.int] (oT 9) (oN 6)),oA 21 22] [1,3,4,21] [] (.ite (oT 21) (oX [
 oB 5 (.mv (.const (.bool true)))] [1,3,4,5] [] (.reg [oB 6 (.mv (oN 1)),oB 7 (.mv (oN 1))])) (oX [oB 2 (.mv (.const ob))] [2] [] (.ret)))))))))))))) (.keep [1,3,4,5,6,7] [] (oX [oA 23 3,oA 24 23,oI 25 24 (.faddr 1 (oT 1)),oI 26 24 (.load true 7 (oT 25)),oI 27 24 (.call mJ [oT 26]),oI 28 24 (.mv (oT 27)),oH 29 28 (.faddr 8 (oT 1)),oH 30 28 (.load false 1 (oT 29)),
 oH 31 28 (.eql false false [.str] (oT 30) (oS ⟨#[]⟩)),oI 32 24 (.pick (oT 28) (oT 31) (.const ob)),oB 33 (.pick (oT 24) (.const (.bool true)) (oT 32)),oA 34 33,oH 35 34 (.mv (oT 4)),oH 36 34 (.mv (oT 35)),oI 37 36 (.faddr 9 (oT 1)),oI 38 36 (.load false 1 (oT 37)),oI 39 36 (.eql false false [.str] (oT 38) (oS ⟨#[]⟩)),oH 40 34 (.pick (oT 36) (.const (.bool true)) (oT 39)),
 oB 41 (.pick (oT 34) (oT 40) (.const ob)),oA 42 41,oH 43 42 (.mv (oT 5)),oH 44 42 (.mv (oT 43)),oI 45 44 (.faddr 10 (oT 1)),oI 46 44 (.load false 1 (oT 45)),oI 47 44 (.eql false false [.int] (oT 46) (oN 0)),oI 48 44 (.mv (oT 47)),oH 49 48 (.faddr 11 (oT 1)),oH 50 48 (.load false 1 (oT 49)),oH 51 48 (.eql false false [.int] (oT 50) (oN 0)),oI 52 44 (.pick (oT 48) (oT 51) (.const ob)),
 oH 53 42 (.pick (oT 44) (.const (.bool true)) (oT 52)),oB 54 (.pick (oT 42) (oT 53) (.const ob)),oA 55 54,oH 56 55 (.faddr 12 (oT 1)),oH 57 55 (.load false 1 (oT 56)),oH 58 55 (.len (oT 57)),oH 59 55 (.mv (oT 6)),oH 60 55 (.cmp .geq (oT 58) (oT 59)),oB 61 (.pick (oT 55) (oT 60) (.const ob)),oA 62 61,oH 63 62 (.faddr 12 (oT 1)),oH 64 62 (.load false 1 (oT 63)),oH 65 62 (.len (oT 64)),
 oH 66 62 (.mv (oT 7)),oH 67 62 (.cmp .leq (oT 65) (oT 66)),oB 68 (.pick (oT 62) (oT 67) (.const ob)),oA 2 68] [2] [] (.ret))))))
def se:List aI:= [.tmp 2]
def I3:List Nat:= [1]
theorem IS:aR Tryz.prog hU I3 sw se 69:=aA ay (by kernel_rfl)
def qT:CC:=oX [oB 2 (.box ag true (oT 0)),oB 3 (.box vE true (oT 1)),oB 4 (.mv (.const ob))] [2,3] [] (oX [oC 5 1 3,oD 6 13 2,oB 7 (.callv (oT 5) [oT 6]),oA 8 7,oH 9 8 (.faddr 12 (oT 2)),oH 10 8 (.load false 1 (oT 9)),oH 11 8 (.clo f6 [oT 3]),oH 12 8 (.call aP [oT 10,oT 11]),oH 13 8 (.not (oT 12)),
 oB 14 (.pick (oT 8) (oT 13) (.const ob)),oA 4 14] [4] [] (.ret))
def qn:List aI:= [.tmp 4]
def Hi:List Nat:= [3,2]
theorem GK:aR Tryz.prog cv Hi qT qn 15:=aA ay (by kernel_rfl)
def nO:CC:=oX [oB 2 (.box ag true (oT 0)),oB 3 (.mv (.const ob))] [1,2] [] (oX [oD 4 13 2,oC 5 1 1,oZ 6 cv [oT 4,oT 5],oB 7 (.not (oT 6)),oA 3 7] [3] [] (.ret))
def nu:List aI:= [.tmp 3]
def C1:List Nat:= [2]
theorem CE:aR Tryz.prog f6 C1 nO nu 8:=aA ay (by kernel_rfl)
def qP:CC:=oX [oB 1 (.box ag true (oT 0)),oB 2 (.mv (.const ob))] [1] [] (oX [oE 4 0 1,oC 5 1 4,oB 6 (.eql false false [.int] (oT 5) (oN 2)),oA 7 6,oI 8 7 (.faddr 0 (oT 1)),oI 9 7 (.load false 1 (oT 8)),oI 10 7 (.eql false false [.int] (oT 9) (oN 3)),oB 11 (.pick (oT 7) (.const (.bool true)) (oT 10)),oA 3 11] [1,3] [] (oX [oA 12 3,oB 13 (.not (oT 12)),
 oA 14 13,oI 15 14 (.faddr 9 (oT 1)),oI 16 14 (.load false 1 (oT 15)),oI 17 14 (.call ei [oT 16]),oB 18 (.pick (oT 14) (.const (.bool true)) (oT 17)),oA 19 18,oH 20 19 (.faddr 8 (oT 1)),oH 21 19 (.load false 1 (oT 20)),oH 22 19 (.eql false false [.str] (oT 21) (oS ⟨#[]⟩)),oH 23 19 (.mv (oT 22)),oI 24 23 (.faddr 8 (oT 1)),oI 25 23 (.load false 1 (oT 24)),
 oI 26 23 (.call ei [oT 25]),oH 27 19 (.pick (oT 23) (.const (.bool true)) (oT 26)),oB 28 (.pick (oT 19) (oT 27) (.const ob)),oA 2 28] [2] [] (.ret)))
def qj:List aI:= [.tmp 2]
def Hd:List Nat:= [1]
theorem GD:aR Tryz.prog gB Hd qP qj 29:=aA ay (by kernel_rfl)
def pp:CC:=oX [oB 1 (.box ag true (oT 0)),oB 2 (.mv (.const ob))] [1] [] (oX [oE 3 0 1,oC 4 1 3,oB 5 (.eql true false [.int] (oT 4) (oN 6)),oA 6 5,oI 7 6 (.faddr 10 (oT 1)),oI 8 6 (.load false 1 (oT 7)),oI 9 6 (.cmp .geq (oT 8) (oN 0)),oI 10 6 (.mv (oT 9)),oH 11 10 (.faddr 10 (oT 1)),oH 12 10 (.load false 1 (oT 11)),oH 13 10 (.cmp .leq (oT 12) (oN 16)),
 oI 14 6 (.pick (oT 10) (oT 13) (.const ob)),oI 15 6 (.mv (oT 14)),oH 16 15 (.faddr 11 (oT 1)),oH 17 15 (.load false 1 (oT 16)),oH 18 15 (.eql false false [.int] (oT 17) (oN (-1))),oH 19 15 (.mv (oT 18)),oI 20 19 (.faddr 11 (oT 1)),oI 21 19 (.load false 1 (oT 20)),oI 22 19 (.faddr 10 (oT 1)),oI 23 19 (.load false 1 (oT 22)),oI 24 19 (.cmp .geq (oT 21) (oT 23)),oI 25 19 (.mv (oT 24)),
 oH 26 25 (.faddr 11 (oT 1)),oH 27 25 (.load false 1 (oT 26)),oH 28 25 (.cmp .leq (oT 27) (oN 16)),oI 29 19 (.pick (oT 25) (oT 28) (.const ob)),oH 30 15 (.pick (oT 19) (.const (.bool true)) (oT 29)),oI 31 6 (.pick (oT 15) (oT 30) (.const ob)),oB 32 (.pick (oT 6) (.const (.bool true)) (oT 31)),oA 2 32] [2] [] (.ret))
def o9:List aI:= [.tmp 2]
def EE:List Nat:= [1]
theorem Es:aR Tryz.prog fM EE pp o9 33:=aA ay (by kernel_rfl)
def qY:CC:=oX [oB 1 (.box ag true (oT 0)),oB 2 (.mv (.const ob))] [1] [] (oX [oD 3 13 1,oZ 4 du [oT 3,oN 1],oA 5 4,oH 6 5 (.load true 13 (oT 1)),oH 7 5 (.call cv [oT 6,.func hU]),oB 8 (.pick (oT 5) (oT 7) (.const ob)),oA 2 8] [2] [] (.ret))
def qs:List aI:= [.tmp 2]
def Hn:List Nat:= [1]
theorem GP:aR Tryz.prog ft Hn qY qs 9:=aA ay (by kernel_rfl)
def qO:CC:=oX [oB 1 (.box ag true (oT 0)),oB 2 (.mv (.const ob))] [1] [] (oX [oD 3 13 1,oZ 4 ft [oT 3],oA 5 4,oH 6 5 (.load true 13 (oT 1)),oH 7 5 (.call cv [oT 6,.func gB]),oB 8 (.pick (oT 5) (oT 7) (.const ob)),oA 9 8,oH 10 9 (.load true 13 (oT 1)),oH 11 9 (.call cv [oT 10,.func fM]),
 oB 12 (.pick (oT 9) (oT 11) (.const ob)),oA 2 12] [2] [] (.ret))
def qi:List aI:= [.tmp 2]
def Hb:List Nat:= [1]
theorem GB:aR Tryz.prog kN Hb qO qi 13:=aA ay (by kernel_rfl)
-- query_size range i=9 n=8 c=10 i2=18 id=0: live [1:p, 3:n, 7:] changed [3] res []
def su:CC:=oX [oB 1 (.box ag true (oT 0)),oB 2 (.mv (oN 0))] [1] [] (oX [oB 3 (.mv (oN 0))] [1,3] [] (.seq (oX [oE 6 12 1,oC 7 1 6,oB 8 (.len (oT 7)),oB 9 (.mv (oN 0))] [1,3,7,8,9] [] (bi 0 9 8 10 1 (oX [oB 11 (.iaddr 13 (oT 7) (oT 9)),oD 12 13 11,oB 5 (.alloc ag [oi,oi,oe,oe,oe,oe,ob,on,oe,oe,oi,oi,on]),oF 13 5 12] [1,3,5,7,8,9] [5] (.reg [oA 13 3,
 oD 14 13 5,oZ 15 ff [oT 14],oB 16 (.arith .add (oT 13) (oT 15)),oB 17 (.mm false [oT 16,oN 1000]),oA 3 17])) 18)) (.keep [1,3] [] (.seq (.block 2 (oX [oE 20 12 1,oC 21 1 20,oB 22 (.len (oT 21)),oB 23 (.eql false false [.int] (oT 22) (oN 0)),oA 19 23] [1,3,19] [] (.ite (oT 19) (oX [oB 2 (.mv (oN 1))] [2] [] (.ret)) (oX [oE 25 0 1,oC 26 1 25,
 oB 27 (.eql true false [.int] (oT 26) (oN 6)),oA 28 27,oI 29 28 (.faddr 11 (oT 1)),oI 30 28 (.load false 1 (oT 29)),oI 31 28 (.eql false false [.int] (oT 30) (oN 0)),oB 32 (.pick (oT 28) (.const (.bool true)) (oT 31)),oA 24 32] [1,3,24] [] (.ite (oT 24) (oX [oA 33 3,oA 2 33] [2] [] (.ret)) (oX [oE 35 11 1,oC 36 1 35,oB 37 (.cmp .lss (oT 36) (oN 0)),
 oA 34 37] [1,3,34] [] (.ite (oT 34) (oX [oA 38 3,oE 39 10 1,oC 40 1 39,oB 41 (.arith .add (oT 40) (oN 1)),oB 42 (.arith .mul (oT 38) (oT 41)),oB 43 (.mm false [oT 42,oN 1000]),oA 2 43] [2] [] (.ret)) (.skip)))))))) (.keep [1,3] [] (oX [oA 44 3,oE 45 11 1,oC 46 1 45,oB 47 (.arith .mul (oT 44) (oT 46)),oB 48 (.mm false [oT 47,oN 1000]),oA 2 48] [2] [] (.ret)))))))
def sa:List aI:= [.tmp 2]
def I1:List Nat:= [1]
theorem IQ:aR Tryz.prog ff I1 su sa 49:=aA ay (by kernel_rfl)
def sx:CC:=oX [oB 1 (.box ag true (oT 0)),oB 2 (.mv (oN 0))] [1] [] (.seq (oX [oD 3 13 1,oZ 4 kN [oT 3],oB 5 (.not (oT 4))] [1,5] [] (.ite (oT 5) (oX [oB 2 (.mv (oN 0))] [2] [] (.ret)) (.skip))) (.keep [1] [] (oX [oD 6 13 1,oZ 7 ff [oT 6],oA 2 7] [2] [] (.ret))))
def sf:List aI:= [.tmp 2]
def I4:List Nat:= [1]
theorem IT:aR Tryz.prog mL I4 sx sf 8:=aA ay (by kernel_rfl)
-- query_width range i=71 n=70 c=72 i2=104 id=2: live [1:p, 6:lo, 7:hi, 69:] changed [6, 7] res []
-- markup_ValidName range i=20 n=19 c=21 i2=28 id=0: live [0:s] changed [] res []
def kG:CC:=oX [oB 2 (.mv (.const ob))] [0] [] (.seq (oX [oA 4 0,oB 5 (.slen (oT 4)),oB 6 (.cmp .lss (oT 5) (oN 1)),oA 7 6,oI 8 7 (.mv (oT 0)),oI 9 7 (.slen (oT 8)),oI 10 7 (.cmp .gtr (oT 9) (oN 32)),oB 11 (.pick (oT 7) (.const (.bool true)) (oT 10)),oA 12 11,oI 13 12 (.mv (oT 0)),oI 14 12 (.sidx (oT 13) (oN 0)),oI 15 12 (.call d6 [oT 14]),
 oI 16 12 (.not (oT 15)),oB 17 (.pick (oT 12) (.const (.bool true)) (oT 16))] [0,17] [] (.ite (oT 17) (oX [oB 2 (.mv (.const ob))] [2] [] (.ret)) (.skip))) (.keep [0] [] (.seq (oX [oA 18 0,oB 19 (.slen (oT 18)),oB 20 (.mv (oN 0))] [0,19,20] [] (bi 0 20 19 21 1 (oX [oA 22 20,oA 3 22] [0,3,19,20] [] (oX [oA 23 0,oA 24 3,oB 25 (.sidx (oT 23) (oT 24)),oZ 26 iq [oT 25],
 oB 27 (.not (oT 26))] [0,19,20,27] [] (.ite (oT 27) (oX [oB 2 (.mv (.const ob))] [2] [] (.ret)) (.skip)))) 28)) (.keep [] [] (oX [oB 2 (.mv (.const (.bool true)))] [2] [] (.ret))))))
def kp:List aI:= [.tmp 2]
def yk:List Nat:= []
theorem xY:aR Tryz.prog ei yk kG kp 29:=aA ay (by kernel_rfl)
def nQ:CC:=oX [oB 2 (.mv (.const ob))] [0] [] (oX [oA 3 0,oB 4 (.cmp .geq (oT 3) (.const (.int .u8 65))),oA 5 4,oH 6 5 (.mv (oT 0)),oH 7 5 (.cmp .leq (oT 6) (.const (.int .u8 90))),oB 8 (.pick (oT 5) (oT 7) (.const ob)),oA 9 8,oI 10 9 (.mv (oT 0)),oI 11 9 (.cmp .geq (oT 10) (.const (.int .u8 97))),oI 12 9 (.mv (oT 11)),oH 13 12 (.mv (oT 0)),
 oH 14 12 (.cmp .leq (oT 13) (.const (.int .u8 122))),oI 15 9 (.pick (oT 12) (oT 14) (.const ob)),oB 16 (.pick (oT 9) (.const (.bool true)) (oT 15)),oA 17 16,oI 18 17 (.mv (oT 0)),oI 19 17 (.eql false false [.int] (oT 18) (.const (.int .u8 95))),oB 20 (.pick (oT 17) (.const (.bool true)) (oT 19)),oA 2 20] [2] [] (.ret))
def ny:List aI:= [.tmp 2]
def Da:List Nat:= []
theorem CG:aR Tryz.prog d6 Da nQ ny 21:=aA ay (by kernel_rfl)
def nP:CC:=oX [oB 2 (.mv (.const ob))] [0] [] (oX [oA 3 0,oZ 4 d6 [oT 3],oA 5 4,oI 6 5 (.mv (oT 0)),oI 7 5 (.cmp .geq (oT 6) (.const (.int .u8 48))),oI 8 5 (.mv (oT 7)),oH 9 8 (.mv (oT 0)),oH 10 8 (.cmp .leq (oT 9) (.const (.int .u8 57))),oI 11 5 (.pick (oT 8) (oT 10) (.const ob)),oB 12 (.pick (oT 5) (.const (.bool true)) (oT 11)),oA 13 12,
 oI 14 13 (.mv (oT 0)),oI 15 13 (.eql false false [.int] (oT 14) (.const (.int .u8 45))),oB 16 (.pick (oT 13) (.const (.bool true)) (oT 15)),oA 2 16] [2] [] (.ret))
def nw:List aI:= [.tmp 2]
def C7:List Nat:= []
theorem CF:aR Tryz.prog iq C7 nP nw 17:=aA ay (by kernel_rfl)
def en:CC:=oX [oB 4 (.mv (.const ob))] [0,1] [] (oX [oA 5 0,oA 6 1,oZ 7 dN [oT 5,oT 6],oB 8 (.cmp .geq (oT 7) (oN 0)),oA 4 8] [4] [] (.ret))
def ed:List aI:= [.tmp 4]
def nF:List Nat:= []
theorem nD:aR Tryz.prog aP nF en ed 9:=aA ay (by kernel_rfl)
-- slices_IndexFunc_Pattern range i=8 n=7 c=9 i2=18 id=0: live [0:s, 1:f] changed [] res []
def fh:CC:=oX [oB 4 (.mv (oN 0))] [0,1] [] (.seq (oX [oA 6 0,oB 7 (.len (oT 6)),oB 8 (.mv (oN 0))] [0,1,7,8] [] (bi 0 8 7 9 1 (oX [oA 10 8,oA 5 10] [0,1,5,7,8] [] (oX [oA 11 1,oA 12 0,oA 13 5,oB 14 (.iaddr 13 (oT 12) (oT 13)),oD 15 13 14,oB 16 (.callv (oT 11) [oT 15])] [0,1,5,7,8,16] [] (.ite (oT 16) (oX [oA 17 5,oA 4 17] [4] [] (.ret))
 (.skip)))) 18)) (.keep [] [] (oX [oB 4 (.mv (oN (-1)))] [4] [] (.ret))))
def fa:List aI:= [.tmp 4]
def pO:List Nat:= []
theorem pK:aR Tryz.prog dN pO fh fa 19:=aA ay (by kernel_rfl)
-- r22_Same range i=58 n=57 c=59 i2=73 id=0: live [2:a, 3:b] changed [] res []
def xg:CC:=oX [oB 2 (.box aH true (oT 0)),oB 3 (.box aH true (oT 1)),oB 4 (.mv (.const ob))] [2,3] [] (.seq (oX [oE 6 0 2,oC 7 1 6,oE 8 0 3,oC 9 1 8,oB 10 (.eql true false [.int] (oT 7) (oT 9)),oA 11 10,oI 12 11 (.faddr 1 (oT 2)),oI 13 11 (.load false 1 (oT 12)),oI 14 11 (.faddr 1 (oT 3)),oI 15 11 (.load false 1 (oT 14)),
 oI 16 11 (.eql true false [.str] (oT 13) (oT 15)),oB 17 (.pick (oT 11) (.const (.bool true)) (oT 16)),oA 18 17,oI 19 18 (.faddr 2 (oT 2)),oI 20 18 (.load false 1 (oT 19)),oI 21 18 (.faddr 2 (oT 3)),oI 22 18 (.load false 1 (oT 21)),oI 23 18 (.eql true false [.str] (oT 20) (oT 22)),oB 24 (.pick (oT 18) (.const (.bool true)) (oT 23)),oA 25 24,oI 26 25 (.faddr 3 (oT 2)),
 oI 27 25 (.load false 1 (oT 26)),oI 28 25 (.faddr 3 (oT 3)),oI 29 25 (.load false 1 (oT 28)),oI 30 25 (.eql true false [.str] (oT 27) (oT 29)),oB 31 (.pick (oT 25) (.const (.bool true)) (oT 30)),oA 32 31,oI 33 32 (.faddr 4 (oT 2)),oI 34 32 (.load false 1 (oT 33)),oI 35 32 (.faddr 4 (oT 3)),oI 36 32 (.load false 1 (oT 35)),oI 37 32 (.eql true false [.str] (oT 34) (oT 36)),
 oB 38 (.pick (oT 32) (.const (.bool true)) (oT 37)),oA 39 38,oI 40 39 (.faddr 5 (oT 2)),oI 41 39 (.load false 1 (oT 40)),oI 42 39 (.faddr 5 (oT 3)),oI 43 39 (.load false 1 (oT 42)),oI 44 39 (.eql true false [.bool] (oT 41) (oT 43)),oB 45 (.pick (oT 39) (.const (.bool true)) (oT 44)),oA 46 45,oI 47 46 (.faddr 6 (oT 2)),oI 48 46 (.load false 1 (oT 47)),oI 49 46 (.len (oT 48)),
 oI 50 46 (.faddr 6 (oT 3)),oI 51 46 (.load false 1 (oT 50)),oI 52 46 (.len (oT 51)),oI 53 46 (.eql true false [.int] (oT 49) (oT 52)),oB 54 (.pick (oT 46) (.const (.bool true)) (oT 53))] [2,3,54] [] (.ite (oT 54) (oX [oB 4 (.mv (.const ob))] [4] [] (.ret)) (.skip))) (.keep [2,3] [] (.seq (oX [oE 55 6 2,oC 56 1 55,oB 57 (.len (oT 56)),
 oB 58 (.mv (oN 0))] [2,3,57,58] [] (bi 0 58 57 59 1 (oX [oA 60 58,oA 5 60] [2,3,5,57,58] [] (.seq (.regd [oE 61 6 2,oC 62 1 61,oA 63 5,oB 64 (.iaddr 7 (oT 62) (oT 63)),oD 65 7 64,oE 66 6 3,oC 67 1 66,oA 68 5,oB 69 (.iaddr 7 (oT 67) (oT 68)),oD 70 7 69] [oZ 71 eN [oT 65,oT 70],oB 72 (.not (oT 71))]) (.keep [2,3,57,58,72] [] (.ite (oT 72) (oX [
 oB 4 (.mv (.const ob))] [4] [] (.ret)) (.skip))))) 73)) (.keep [] [] (oX [oB 4 (.mv (.const (.bool true)))] [4] [] (.ret))))))
def vR:List aI:= [.tmp 4]
def Nv:List Nat:= [2,3]
theorem M9:aR Tryz.prog eN Nv xg vR 74:=aA ay (by kernel_rfl)
def uv:CC:=oX [oB 2 (.box ag true (oT 0)),oB 4 (.mv (.const ob))] [1,2] [] (.seq (oX [oA 6 1,oB 7 (.cmp .gtr (oT 6) (oN 100))] [2,7] [] (.ite (oT 7) (oX [oB 4 (.mv (.const ob))] [4] [] (.ret)) (.skip))) (.keep [2] [] (oX [oE 8 1 2,oD 9 7 8,oB 10 (.build [oi,oe,oe,oe,oe,ob,on] []),oZ 11 eN [oT 9,oT 10],oA 12 11,oH 13 12 (.faddr 8 (oT 2)),
 oH 14 12 (.load false 1 (oT 13)),oH 15 12 (.eql false false [.str] (oT 14) (oS ⟨#[]⟩)),oB 16 (.pick (oT 12) (oT 15) (.const ob)),oA 5 16] [2,5] [] (.seq (oX [oE 17 0 2,oC 18 1 17] [2,5,18] [] (.block 0 (oX [oB 20 (.eql false false [.int] (oT 18) (oN 1)),oA 19 20] [2,5,18,19] [] (.ite (oT 19) (oX [oE 21 9 2,oC 22 1 21,oB 23 (.eql false false [.str] (oT 22) (oS ⟨#[]⟩)),oA 24 23,
 oH 25 24 (.faddr 10 (oT 2)),oH 26 24 (.load false 1 (oT 25)),oH 27 24 (.eql false false [.int] (oT 26) (oN 0)),oB 28 (.pick (oT 24) (oT 27) (.const ob)),oA 29 28,oH 30 29 (.faddr 11 (oT 2)),oH 31 29 (.load false 1 (oT 30)),oH 32 29 (.eql false false [.int] (oT 31) (oN 0)),oB 33 (.pick (oT 29) (oT 32) (.const ob)),oA 34 33,oH 35 34 (.faddr 12 (oT 2)),oH 36 34 (.load false 1 (oT 35)),
 oH 37 34 (.len (oT 36)),oH 38 34 (.eql false false [.int] (oT 37) (oN 0)),oB 39 (.pick (oT 34) (oT 38) (.const ob)),oA 4 39] [4] [] (.ret)) (.seq (oX [oB 41 (.eql false false [.int] (oT 18) (oN 2)),oA 40 41] [2,5,18,40] [] (.ite (oT 40) (.skip) (.reg [oB 42 (.eql false false [.int] (oT 18) (oN 3)),oA 40 42]))) (.keep [2,5,18,40] [] (.ite (oT 40) (oX [oA 43 5,oA 44 43,
 oH 45 44 (.faddr 10 (oT 2)),oH 46 44 (.load false 1 (oT 45)),oH 47 44 (.eql false false [.int] (oT 46) (oN 0)),oB 48 (.pick (oT 44) (oT 47) (.const ob)),oA 49 48,oH 50 49 (.faddr 11 (oT 2)),oH 51 49 (.load false 1 (oT 50)),oH 52 49 (.eql false false [.int] (oT 51) (oN 0)),oB 53 (.pick (oT 49) (oT 52) (.const ob)),oA 54 53,oH 55 54 (.faddr 12 (oT 2)),oH 56 54 (.load false 1 (oT 55)),
 oH 57 54 (.len (oT 56)),oH 58 54 (.eql false false [.int] (oT 57) (oN 0)),oB 59 (.pick (oT 54) (oT 58) (.const ob)),oA 4 59] [4] [] (.ret)) (.seq (oX [oB 61 (.eql false false [.int] (oT 18) (oN 4)),oA 60 61] [2,5,18,60] [] (.ite (oT 60) (.skip) (.reg [oB 62 (.eql false false [.int] (oT 18) (oN 5)),oA 60 62]))) (.keep [2,5,18,60] [] (.ite (oT 60) (oX [oA 63 5,oA 64 63,
 oH 65 64 (.faddr 9 (oT 2)),oH 66 64 (.load false 1 (oT 65)),oH 67 64 (.eql false false [.str] (oT 66) (oS ⟨#[]⟩)),oB 68 (.pick (oT 64) (oT 67) (.const ob)),oA 69 68,oH 70 69 (.faddr 10 (oT 2)),oH 71 69 (.load false 1 (oT 70)),oH 72 69 (.eql false false [.int] (oT 71) (oN 0)),oB 73 (.pick (oT 69) (oT 72) (.const ob)),oA 74 73,oH 75 74 (.faddr 11 (oT 2)),oH 76 74 (.load false 1 (oT 75)),
 oH 77 74 (.eql false false [.int] (oT 76) (oN 0)),oB 78 (.pick (oT 74) (oT 77) (.const ob)),oA 79 78,oH 80 79 (.faddr 12 (oT 2)),oH 81 79 (.load false 1 (oT 80)),oH 82 79 (.len (oT 81)),oH 83 79 (.cmp .geq (oT 82) (oN 2)),oB 84 (.pick (oT 79) (oT 83) (.const ob)),oA 4 84] [4] [] (.ret)) (oX [oB 86 (.eql false false [.int] (oT 18) (oN 6)),oA 85 86] [2,5,85] [] (.ite (oT 85) (oX [
 oA 87 5,oA 88 87,oH 89 88 (.faddr 9 (oT 2)),oH 90 88 (.load false 1 (oT 89)),oH 91 88 (.eql false false [.str] (oT 90) (oS ⟨#[]⟩)),oB 92 (.pick (oT 88) (oT 91) (.const ob)),oA 93 92,oH 94 93 (.faddr 12 (oT 2)),oH 95 93 (.load false 1 (oT 94)),oH 96 93 (.len (oT 95)),oH 97 93 (.eql false false [.int] (oT 96) (oN 1)),oB 98 (.pick (oT 93) (oT 97) (.const ob)),oA 4 98] [4] [] (.ret))
 (.skip))))))))))))) (.keep [] [] (oX [oB 4 (.mv (.const ob))] [4] [] (.ret)))))))
def tP:List aI:= [.tmp 4]
def Lv:List Nat:= [2]
theorem Lf:aR Tryz.prog oL Lv uv tP 99:=aA ay (by kernel_rfl)
-- r23_shapes range i=14 n=13 c=15 i2=23 id=0: live [1:deep, 12:] changed [] res []
def sr:CC:=oX [oB 2 (.box ag true (oT 0)),oB 4 (.mv (.const ob))] [1,2] [] (.seq (oX [oD 7 13 2,oA 8 1,oZ 9 oL [oT 7,oT 8],oB 10 (.not (oT 9))] [1,2,10] [] (.ite (oT 10) (oX [oB 4 (.mv (.const ob))] [4] [] (.ret)) (.skip))) (.keep [1,2] [] (.seq (oX [oE 11 12 2,oC 12 1 11,oB 13 (.len (oT 12)),oB 14 (.mv (oN 0))] [1,12,13,14] [] (bi 0 14 13 15 1 (oX [
 oB 16 (.iaddr 13 (oT 12) (oT 14)),oD 17 13 16,oB 6 (.alloc ag [oi,oi,oe,oe,oe,oe,ob,on,oe,oe,oi,oi,on]),oF 13 6 17] [1,6,12,13,14] [6] (oX [oD 18 13 6,oA 19 1,oB 20 (.arith .add (oT 19) (oN 1)),oZ 21 fe [oT 18,oT 20],oB 22 (.not (oT 21))] [1,12,13,14,22] [] (.ite (oT 22) (oX [oB 4 (.mv (.const ob))] [4] [] (.ret)) (.skip)))) 23)) (.keep [] [] (oX [
 oB 4 (.mv (.const (.bool true)))] [4] [] (.ret))))))
def r8:List aI:= [.tmp 4]
def IX:List Nat:= [2]
theorem IM:aR Tryz.prog fe IX sr r8 24:=aA ay (by kernel_rfl)
-- r23_names range i=33 n=32 c=34 i2=40 id=0: live [31:] changed [] res []
-- r23_numbers range i=38 n=37 c=39 i2=45 id=0: live [36:] changed [] res []
-- r23_leaves range i=17 n=16 c=18 i2=24 id=0: live [1:out, 15:] changed [1] res [1, 23]
def kS:CC:=oX [oB 2 (.box ag true (oT 0)),oB 4 (.mv (.const on))] [1,2] [1,23] (.seq (oX [oE 7 0 2,oC 8 1 7,oB 9 (.eql false false [.int] (oT 8) (oN 1))] [1,2,9] [1,23] (.ite (oT 9) (oX [oA 10 1,oD 11 13 2,oB 12 (.bslice ag 13 [oT 11]),oB 13 (.append none ag 13 184 (oT 10) (oT 12)),oA 4 13] [4] [1,13,23] (.ret)) (.skip)))
 (.keep [1,2] [1,23] (.seq (oX [oE 14 12 2,oC 15 1 14,oB 16 (.len (oT 15)),oB 17 (.mv (oN 0))] [1,15,16,17] [1,23] (bi 0 17 16 18 1 (oX [oB 19 (.iaddr 13 (oT 15) (oT 17)),oD 20 13 19,oB 6 (.alloc ag [oi,oi,oe,oe,oe,oe,ob,on,oe,oe,oi,oi,on]),oF 13 6 20] [1,6,15,16,17] [1,6,23] (.reg [oD 21 13 6,oA 22 1,oZ 23 dq [oT 21,oT 22],oA 1 23])) 24)) (.keep [1] [1,23] (oX [
 oA 25 1,oA 4 25] [4] [1,13,23] (.ret))))))
def kH:List aI:= [.tmp 4]
def IY:List Nat:= [2]
theorem yx:aR Tryz.prog dq IY kS kH 26:=aA ay (by kernel_rfl)
end Go.Gv

namespace Go.Gv
open Cod (enc dec)
variable {S S0:Nat→Spc}
end Go.Gv
