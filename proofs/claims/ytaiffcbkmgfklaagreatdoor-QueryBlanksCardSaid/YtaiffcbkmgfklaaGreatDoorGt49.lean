/- A part of the framework and of the walks: V29. -/
import Derived.Test.YtaiffcbkmgfklaaGreatDoorGt48
set_option linter.unusedSimpArgs false
set_option linter.unusedVariables false

namespace Go.Gv
structure B2 (s s':Rdr):Prop where
 kind:s.kind=s'.kind
 text:s.text=s'.text
 r1: (0≤s.fin∧s.fin≤s.txt.size)∧s.txt.size≤100000
 r2: (0≤s'.fin∧s'.fin≤s'.txt.size)∧s'.txt.size≤100000
 wd:Wd false (sw s.txt s.fin.toNat) (sw s'.txt s'.fin.toNat)
def OS {Y:Type} :Out (Rdr×Y)→Out (Rdr×Y)→Prop
 | .ok r, .ok r'=> B2 r.1 r'.1∧r.2=r'.2
 | .err f, .err f'=> f.2=f'.2
 | .no, .no=> True
 | _,_=> False
def OS1:Out Rdr→Out Rdr→Prop
 | .ok r, .ok r'=> B2 r r'
 | .err f, .err f'=> f.2=f'.2
 | .no, .no=> True
 | _,_=> False
theorem cQ {α β:Type} (f:α→β) (E:Out α):E.map f=E.bind fun x=> .ok (f x):=by cases E <;> rfl
section
variable {Y Z:Type} {s s':Rdr}
theorem OS.ok {y:Y} (h:B2 s s'):OS (.ok (s,y)) (.ok (s',y)):=⟨h,rfl⟩
theorem OS.err {a a' e:Int} :OS (Y:=Y) (.err (a,e)) (.err (a',e)):=rfl
theorem OS.bind {E E':Out (Rdr×Y)} {k k':Rdr×Y→Out (Rdr×Z)} (h1:OS E E') (h2: ∀r r' y,B2 r r'→OS (k (r,y)) (k' (r',y))):OS (E.bind k) (E'.bind k'):=by
 match E,E',h1 with
 | .ok (r,y), .ok (r',y'),h1=>
   obtain⟨h1,h3⟩:=h1
   simp only at h1 h3
   subst h3
   exact h2 r r' y h1
 | .err f, .err f',h1=> exact h1
 | .no, .no,_=> trivial
theorem OS1.bind {E E':Out Rdr} {k k':Rdr→Out (Rdr×Z)} (h1:OS1 E E') (h2: ∀r r',B2 r r'→OS (k r) (k' r')):OS (E.bind k) (E'.bind k'):=by
 match E,E',h1 with
 | .ok r, .ok r',h1=> exact h2 r r' h1
 | .err f, .err f',h1=> exact h1
 | .no, .no,_=> trivial
theorem OS1.bind1 {E E':Out Rdr} {k k':Rdr→Out Rdr} (h1:OS1 E E') (h2: ∀r r',B2 r r'→OS1 (k r) (k' r')):OS1 (E.bind k) (E'.bind k'):=by
 match E,E',h1 with
 | .ok r, .ok r',h1=> exact h2 r r' h1
 | .err f, .err f',h1=> exact h1
 | .no, .no,_=> trivial
theorem OS.ite {c c':Prop} {i:Decidable c} {i':Decidable c'} {A B A' B':Out (Rdr×Y)} (hc:c↔c') (h1:c→OS A A') (h2: ¬c→OS B B'):OS (if c then A else B) (if c' then A' else B'):=by
 by_cases h:c
 ·rw[if_pos h,if_pos (hc.1 h)];exact h1 h
 ·rw[if_neg h,if_neg fun h'=> h (hc.2 h')];exact h2 h
theorem OS.ofb {o:Option Bool} {k k':Bool→Out (Rdr×Z)} (h: ∀b,OS (k b) (k' b)):OS ((Out.of o).bind k) ((Out.of o).bind k'):=by
 cases o with
 | none=> trivial
 | some b=> exact h b
theorem u5 (h:B2 s s') (t:B):bX s t=bX s' t:=by unfold bX;rw[h.kind,h.text]
theorem MV (h:B2 s s') (l:List B):d6 s l=d6 s' l:=by unfold d6;rw[h.kind,h.text]
theorem aW (h:B2 s s'): (∀k:Int,s.kind=k↔s'.kind=k)∧(∀t:B,bX s t=true↔bX s' t=true)∧(∀l:List B,d6 s l=true↔d6 s' l=true):=by
 refine⟨fun k=> by rw[h.kind],fun t=> by rw[u5 h],fun l=> by rw[MV h]⟩
theorem RM {a b:B} (h:a.data.toList=b.data.toList):a=b:=ByteArray.ext (Array.toList_inj.1 h)
theorem VM (h:B2 s s'): (bV s.txt s.fin.toNat).1.kind=(bV s'.txt s'.fin.toNat).1.kind∧(bV s.txt s.fin.toNat).1.text=(bV s'.txt s'.fin.toNat).1.text∧Wd false (sw s.txt (bV s.txt s.fin.toNat).2.toNat) (sw s'.txt (bV s'.txt s'.fin.toNat).2.toNat):=by
 have e1:=NC (s:=s.txt) (i:=s.fin.toNat) (by have:=h.r1;omega)
 have e2:=NC (s:=s'.txt) (i:=s'.fin.toNat) (by have:=h.r2;omega)
 have e:=We h.wd
 refine⟨by rw[e1.1,e2.1,e.1],RM (by rw[e1.2.1,e2.2.1,e.2.1]),?_⟩
 rw[e1.2.2,e2.2.2]
 exact e.2.2
theorem cC (h:B2 s s'):OS1 (ej s) (ej s'):=by
 have e:=VM h
 unfold ej pA
 rw[if_pos h.r1,if_pos h.r2]
 have g1:=jO (s:=s.txt) (i:=s.fin.toNat) (by have:=h.r1;omega)
 have g2:=jO (s:=s'.txt) (i:=s'.fin.toNat) (by have:=h.r2;omega)
 exact⟨e.1,e.2.1,⟨⟨g1.2.2.1,g1.2.2.2.1⟩,h.r1.2⟩,⟨⟨g2.2.2.1,g2.2.2.2.1⟩,h.r2.2⟩,e.2.2⟩
theorem dr: ∀ (l:List B) {s s':Rdr},B2 s s'→OS1 (de s l) (de s' l)
 | [],s,s',h=> h
 | t::l,s,s',h=> by
   rw[de,de,u5 h]
   split
   ·exact OS1.bind1 (cC h) fun r r' hr=> dr l hr
   ·exact(rfl: (3:Int)=3)
theorem a5 (h:B2 s s') (t:B):OS (cf s t) (cf s' t):=by
 unfold cf ms
 rw[u5 h]
 split
 ·have:=cC h
  unfold ej at this
  cases h1:pA s with
  | none=> rw[h1] at this;cases h2:pA s' with
    | none=> trivial
    | some x=> rw[h2] at this;exact this.elim
  | some x=> rw[h1] at this;cases h2:pA s' with
    | none=> rw[h2] at this;exact this.elim
    | some x=> rw[h2] at this;exact⟨this,rfl⟩
 ·exact⟨h,rfl⟩
theorem a7 (h:B2 s s') (k:Int):OS (dg s k) (dg s' k):=by
 unfold dg
 rw[h.kind,h.text,cQ,cQ]
 refine OS.ite Iff.rfl (fun _=> OS1.bind (cC h) fun r r' hr=> ⟨hr,rfl⟩) fun _=> OS.err
theorem SW (h:B2 s s') (i:Bool):mq s i=mq s' i:=by
 have e:=VM h
 unfold mq Ds
 rw[h.kind,if_pos h.r1,if_pos h.r2,MV h,u5 h,u5 h,u5 h,u5 h]
 simp only[Option.map_some,e.1,e.2.1]
end
theorem N5 {s s':Rdr} (h:B2 s s'):OS (ot s) (ot s'):=by
 unfold ot
 try simp only[cQ]
 repeat' first
  | dsimp only
  | with_reducible exact OS.ok (by assumption)
  | with_reducible exact OS.err
  | with_reducible exact trivial
  | with_reducible exact a7 (by assumption) _
  | with_reducible exact a5 (by assumption) _
  | with_reducible refine OS1.bind (cC (by assumption)) fun r r' hb=> ?_
  | with_reducible refine OS1.bind (dr _ (by assumption)) fun r r' hb=> ?_
  | with_reducible refine OS.bind (a5 (by assumption) _) fun r r' y hb=> ?_
  | with_reducible refine OS.bind (a7 (by assumption) _) fun r r' y hb=> ?_
  | with_reducible refine OS.ite Iff.rfl (fun hc=> ?_) (fun hc=> ?_)
  | with_reducible refine OS.ite ((aW ‹B2 _ _›).1 _) (fun hc=> ?_) (fun hc=> ?_)
  | with_reducible refine OS.ite ((aW ‹B2 _ _›).2.1 _) (fun hc=> ?_) (fun hc=> ?_)
  | with_reducible refine OS.ite ((aW ‹B2 _ _›).2.2 _) (fun hc=> ?_) (fun hc=> ?_)
theorem E5 {s s':Rdr} (h:B2 s s') (m a a':Int):OS (numberE s m a) (numberE s' m a'):=by
 unfold numberE
 refine OS.bind (a7 h _) fun r r' y hb=> ?_
 dsimp only
 refine OS.ite Iff.rfl (fun _=> ?_) fun _=> trivial
 exact OS.ite Iff.rfl (fun _=> OS.err) fun _=> OS.ok hb
theorem N7 {s s':Rdr} (h:B2 s s'):OS (bigE s) (bigE s'):=E5 h _ _ _
theorem Lf {s s':Rdr} (h:B2 s s'):OS (signedE s) (signedE s'):=by
 unfold signedE
 try simp only[cQ]
 repeat' first
  | dsimp only
  | with_reducible exact OS.ok (by assumption)
  | with_reducible exact OS.err
  | with_reducible exact trivial
  | with_reducible exact N7 (by assumption)
  | with_reducible exact a7 (by assumption) _
  | with_reducible exact a5 (by assumption) _
  | with_reducible refine OS.bind (N7 (by assumption)) fun r r' y hb=> ?_
  | with_reducible refine OS1.bind (cC (by assumption)) fun r r' hb=> ?_
  | with_reducible refine OS1.bind (dr _ (by assumption)) fun r r' hb=> ?_
  | with_reducible refine OS.bind (a5 (by assumption) _) fun r r' y hb=> ?_
  | with_reducible refine OS.bind (a7 (by assumption) _) fun r r' y hb=> ?_
  | with_reducible refine OS.ite Iff.rfl (fun hc=> ?_) (fun hc=> ?_)
  | with_reducible refine OS.ite ((aW ‹B2 _ _›).1 _) (fun hc=> ?_) (fun hc=> ?_)
  | with_reducible refine OS.ite ((aW ‹B2 _ _›).2.1 _) (fun hc=> ?_) (fun hc=> ?_)
  | with_reducible refine OS.ite ((aW ‹B2 _ _›).2.2 _) (fun hc=> ?_) (fun hc=> ?_)
section
variable {N O:Rdr→Out (Rdr×Cond)}
theorem vn (hN: ∀ {s s':Rdr},B2 s s'→OS (N s) (N s')) : ∀ (k:Nat) {s s':Rdr} (acc:List Cond),B2 s s'→OS (jc N k s acc) (jc N k s' acc)
 | 0,_,_,_,_=> trivial
 | k+1,s,s',acc,h=> by
   rw[jc,jc]
   try simp only[cQ]
   repeat' first
    | dsimp only
    | with_reducible exact OS.ok (by assumption)
    | with_reducible exact OS.err
    | with_reducible exact trivial
    | with_reducible exact hN (by assumption)
    | with_reducible exact vn hN k _ (by assumption)
    | with_reducible exact a7 (by assumption) _
    | with_reducible exact a5 (by assumption) _
    | with_reducible refine OS.bind (hN (by assumption)) fun r r' y hb=> ?_
    | with_reducible refine OS.bind (vn hN k _ (by assumption)) fun r r' y hb=> ?_
    | with_reducible refine OS1.bind (cC (by assumption)) fun r r' hb=> ?_
    | with_reducible refine OS1.bind (dr _ (by assumption)) fun r r' hb=> ?_
    | with_reducible refine OS.bind (a5 (by assumption) _) fun r r' y hb=> ?_
    | with_reducible refine OS.bind (a7 (by assumption) _) fun r r' y hb=> ?_
    | with_reducible refine OS.ite Iff.rfl (fun hc=> ?_) (fun hc=> ?_)
    | with_reducible refine OS.ite ((aW ‹B2 _ _›).1 _) (fun hc=> ?_) (fun hc=> ?_)
    | with_reducible refine OS.ite ((aW ‹B2 _ _›).2.1 _) (fun hc=> ?_) (fun hc=> ?_)
    | with_reducible refine OS.ite ((aW ‹B2 _ _›).2.2 _) (fun hc=> ?_) (fun hc=> ?_)
theorem N9 (hN: ∀ {s s':Rdr},B2 s s'→OS (N s) (N s')) {s s':Rdr} (h:B2 s s'):OS (andE N s) (andE N s'):=by
 unfold andE
 try simp only[cQ]
 repeat' first
  | dsimp only
  | with_reducible exact OS.ok (by assumption)
  | with_reducible exact OS.err
  | with_reducible exact trivial
  | with_reducible exact hN (by assumption)
  | with_reducible exact vn hN _ _ (by assumption)
  | with_reducible exact a7 (by assumption) _
  | with_reducible exact a5 (by assumption) _
  | with_reducible refine OS.bind (hN (by assumption)) fun r r' y hb=> ?_
  | with_reducible refine OS.bind (vn hN _ _ (by assumption)) fun r r' y hb=> ?_
  | with_reducible refine OS1.bind (cC (by assumption)) fun r r' hb=> ?_
  | with_reducible refine OS1.bind (dr _ (by assumption)) fun r r' hb=> ?_
  | with_reducible refine OS.bind (a5 (by assumption) _) fun r r' y hb=> ?_
  | with_reducible refine OS.bind (a7 (by assumption) _) fun r r' y hb=> ?_
  | with_reducible refine OS.ite Iff.rfl (fun hc=> ?_) (fun hc=> ?_)
  | with_reducible refine OS.ite ((aW ‹B2 _ _›).1 _) (fun hc=> ?_) (fun hc=> ?_)
  | with_reducible refine OS.ite ((aW ‹B2 _ _›).2.1 _) (fun hc=> ?_) (fun hc=> ?_)
  | with_reducible refine OS.ite ((aW ‹B2 _ _›).2.2 _) (fun hc=> ?_) (fun hc=> ?_)
theorem yL (hN: ∀ {s s':Rdr},B2 s s'→OS (N s) (N s')) : ∀ (k:Nat) {s s':Rdr} (acc:List Cond),B2 s s'→OS (la N k s acc) (la N k s' acc)
 | 0,_,_,_,_=> trivial
 | k+1,s,s',acc,h=> by
   rw[la,la]
   try simp only[cQ]
   repeat' first
    | dsimp only
    | with_reducible exact OS.ok (by assumption)
    | with_reducible exact OS.err
    | with_reducible exact trivial
    | with_reducible exact N9 hN (by assumption)
    | with_reducible exact yL hN k _ (by assumption)
    | with_reducible exact a7 (by assumption) _
    | with_reducible exact a5 (by assumption) _
    | with_reducible refine OS.bind (N9 hN (by assumption)) fun r r' y hb=> ?_
    | with_reducible refine OS.bind (yL hN k _ (by assumption)) fun r r' y hb=> ?_
    | with_reducible refine OS1.bind (cC (by assumption)) fun r r' hb=> ?_
    | with_reducible refine OS1.bind (dr _ (by assumption)) fun r r' hb=> ?_
    | with_reducible refine OS.bind (a5 (by assumption) _) fun r r' y hb=> ?_
    | with_reducible refine OS.bind (a7 (by assumption) _) fun r r' y hb=> ?_
    | with_reducible refine OS.ite Iff.rfl (fun hc=> ?_) (fun hc=> ?_)
    | with_reducible refine OS.ite ((aW ‹B2 _ _›).1 _) (fun hc=> ?_) (fun hc=> ?_)
    | with_reducible refine OS.ite ((aW ‹B2 _ _›).2.1 _) (fun hc=> ?_) (fun hc=> ?_)
    | with_reducible refine OS.ite ((aW ‹B2 _ _›).2.2 _) (fun hc=> ?_) (fun hc=> ?_)
theorem Z5 (hN: ∀ {s s':Rdr},B2 s s'→OS (N s) (N s')) {s s':Rdr} (h:B2 s s'):OS (orE N s) (orE N s'):=by
 unfold orE
 try simp only[cQ]
 repeat' first
  | dsimp only
  | with_reducible exact OS.ok (by assumption)
  | with_reducible exact OS.err
  | with_reducible exact trivial
  | with_reducible exact N9 hN (by assumption)
  | with_reducible exact yL hN _ _ (by assumption)
  | with_reducible exact a7 (by assumption) _
  | with_reducible exact a5 (by assumption) _
  | with_reducible refine OS.bind (N9 hN (by assumption)) fun r r' y hb=> ?_
  | with_reducible refine OS.bind (yL hN _ _ (by assumption)) fun r r' y hb=> ?_
  | with_reducible refine OS1.bind (cC (by assumption)) fun r r' hb=> ?_
  | with_reducible refine OS1.bind (dr _ (by assumption)) fun r r' hb=> ?_
  | with_reducible refine OS.bind (a5 (by assumption) _) fun r r' y hb=> ?_
  | with_reducible refine OS.bind (a7 (by assumption) _) fun r r' y hb=> ?_
  | with_reducible refine OS.ite Iff.rfl (fun hc=> ?_) (fun hc=> ?_)
  | with_reducible refine OS.ite ((aW ‹B2 _ _›).1 _) (fun hc=> ?_) (fun hc=> ?_)
  | with_reducible refine OS.ite ((aW ‹B2 _ _›).2.1 _) (fun hc=> ?_) (fun hc=> ?_)
  | with_reducible refine OS.ite ((aW ‹B2 _ _›).2.2 _) (fun hc=> ?_) (fun hc=> ?_)
theorem B1 {s s':Rdr} (h:B2 s s') (n:B):OS (nG s n) (nG s' n):=by
 unfold nG
 try simp only[cQ]
 repeat' first
  | dsimp only
  | with_reducible exact OS.ok (by assumption)
  | with_reducible exact OS.err
  | with_reducible exact trivial
  | with_reducible exact a7 (by assumption) _
  | with_reducible exact a5 (by assumption) _
  | with_reducible refine OS1.bind (cC (by assumption)) fun r r' hb=> ?_
  | with_reducible refine OS1.bind (dr _ (by assumption)) fun r r' hb=> ?_
  | with_reducible refine OS.bind (a5 (by assumption) _) fun r r' y hb=> ?_
  | with_reducible refine OS.bind (a7 (by assumption) _) fun r r' y hb=> ?_
  | with_reducible refine OS.ite Iff.rfl (fun hc=> ?_) (fun hc=> ?_)
  | with_reducible refine OS.ite ((aW ‹B2 _ _›).1 _) (fun hc=> ?_) (fun hc=> ?_)
  | with_reducible refine OS.ite ((aW ‹B2 _ _›).2.1 _) (fun hc=> ?_) (fun hc=> ?_)
  | with_reducible refine OS.ite ((aW ‹B2 _ _›).2.2 _) (fun hc=> ?_) (fun hc=> ?_)
theorem Lg {s s':Rdr} (h:B2 s s'):OS (rC s) (rC s'):=by
 unfold rC
 try simp only[cQ]
 repeat' first
  | dsimp only
  | with_reducible exact OS.ok (by assumption)
  | with_reducible exact OS.err
  | with_reducible exact trivial
  | with_reducible exact a7 (by assumption) _
  | with_reducible exact a5 (by assumption) _
  | with_reducible refine OS1.bind (cC (by assumption)) fun r r' hb=> ?_
  | with_reducible refine OS1.bind (dr _ (by assumption)) fun r r' hb=> ?_
  | with_reducible refine OS.bind (a5 (by assumption) _) fun r r' y hb=> ?_
  | with_reducible refine OS.bind (a7 (by assumption) _) fun r r' y hb=> ?_
  | with_reducible refine OS.ite Iff.rfl (fun hc=> ?_) (fun hc=> ?_)
  | with_reducible refine OS.ite ((aW ‹B2 _ _›).1 _) (fun hc=> ?_) (fun hc=> ?_)
  | with_reducible refine OS.ite ((aW ‹B2 _ _›).2.1 _) (fun hc=> ?_) (fun hc=> ?_)
  | with_reducible refine OS.ite ((aW ‹B2 _ _›).2.2 _) (fun hc=> ?_) (fun hc=> ?_)
theorem SX {s s':Rdr} (h:B2 s s') (n:B):OS (A0 s n) (A0 s' n):=by
 unfold A0
 try simp only[cQ]
 repeat' first
  | dsimp only
  | with_reducible exact OS.ok (by assumption)
  | with_reducible exact OS.err
  | with_reducible exact trivial
  | with_reducible exact B1 (by assumption) _
  | with_reducible exact a7 (by assumption) _
  | with_reducible exact a5 (by assumption) _
  | with_reducible refine OS.bind (B1 (by assumption) _) fun r r' y hb=> ?_
  | with_reducible refine OS1.bind (cC (by assumption)) fun r r' hb=> ?_
  | with_reducible refine OS1.bind (dr _ (by assumption)) fun r r' hb=> ?_
  | with_reducible refine OS.bind (a5 (by assumption) _) fun r r' y hb=> ?_
  | with_reducible refine OS.bind (a7 (by assumption) _) fun r r' y hb=> ?_
  | with_reducible refine OS.ite Iff.rfl (fun hc=> ?_) (fun hc=> ?_)
  | with_reducible refine OS.ite ((aW ‹B2 _ _›).1 _) (fun hc=> ?_) (fun hc=> ?_)
  | with_reducible refine OS.ite ((aW ‹B2 _ _›).2.1 _) (fun hc=> ?_) (fun hc=> ?_)
  | with_reducible refine OS.ite ((aW ‹B2 _ _›).2.2 _) (fun hc=> ?_) (fun hc=> ?_)
theorem N8 {s s':Rdr} (h:B2 s s'):OS (atomsE s) (atomsE s'):=by
 unfold atomsE
 try simp only[cQ]
 repeat' first
  | dsimp only
  | with_reducible exact OS.ok (by assumption)
  | with_reducible exact OS.err
  | with_reducible exact trivial
  | with_reducible exact Lg (by assumption)
  | with_reducible exact SX (by assumption) _
  | with_reducible exact a7 (by assumption) _
  | with_reducible exact a5 (by assumption) _
  | with_reducible refine OS.bind (Lg (by assumption)) fun r r' y hb=> ?_
  | with_reducible refine OS.bind (SX (by assumption) _) fun r r' y hb=> ?_
  | with_reducible refine OS1.bind (cC (by assumption)) fun r r' hb=> ?_
  | with_reducible refine OS1.bind (dr _ (by assumption)) fun r r' hb=> ?_
  | with_reducible refine OS.bind (a5 (by assumption) _) fun r r' y hb=> ?_
  | with_reducible refine OS.bind (a7 (by assumption) _) fun r r' y hb=> ?_
  | with_reducible refine OS.ite Iff.rfl (fun hc=> ?_) (fun hc=> ?_)
  | with_reducible refine OS.ite ((aW ‹B2 _ _›).1 _) (fun hc=> ?_) (fun hc=> ?_)
  | with_reducible refine OS.ite ((aW ‹B2 _ _›).2.1 _) (fun hc=> ?_) (fun hc=> ?_)
  | with_reducible refine OS.ite ((aW ‹B2 _ _›).2.2 _) (fun hc=> ?_) (fun hc=> ?_)
theorem Z6 (hN: ∀ {s s':Rdr},B2 s s'→OS (N s) (N s')) (hO: ∀ {s s':Rdr},B2 s s'→OS (O s) (O s')) {s s':Rdr} (h:B2 s s'):OS (notE N O s) (notE N O s'):=by
 unfold notE
 try simp only[cQ]
 repeat' first
  | dsimp only
  | with_reducible exact OS.ok (by assumption)
  | with_reducible exact OS.err
  | with_reducible exact trivial
  | with_reducible exact hN (by assumption)
  | with_reducible exact hO (by assumption)
  | with_reducible exact N8 (by assumption)
  | with_reducible exact a7 (by assumption) _
  | with_reducible exact a5 (by assumption) _
  | with_reducible refine OS.bind (hN (by assumption)) fun r r' y hb=> ?_
  | with_reducible refine OS.bind (hO (by assumption)) fun r r' y hb=> ?_
  | with_reducible refine OS.bind (N8 (by assumption)) fun r r' y hb=> ?_
  | with_reducible refine OS1.bind (cC (by assumption)) fun r r' hb=> ?_
  | with_reducible refine OS1.bind (dr _ (by assumption)) fun r r' hb=> ?_
  | with_reducible refine OS.bind (a5 (by assumption) _) fun r r' y hb=> ?_
  | with_reducible refine OS.bind (a7 (by assumption) _) fun r r' y hb=> ?_
  | with_reducible refine OS.ite Iff.rfl (fun hc=> ?_) (fun hc=> ?_)
  | with_reducible refine OS.ite ((aW ‹B2 _ _›).1 _) (fun hc=> ?_) (fun hc=> ?_)
  | with_reducible refine OS.ite ((aW ‹B2 _ _›).2.1 _) (fun hc=> ?_) (fun hc=> ?_)
  | with_reducible refine OS.ite ((aW ‹B2 _ _›).2.2 _) (fun hc=> ?_) (fun hc=> ?_)
end
theorem MW: ∀ (n:Nat) {s s':Rdr},B2 s s'→OS (iD n s) (iD n s')
 | 0,_,_,_=> trivial
 | n+1,_,_,h=> Z6 (MW n) (Z5 (MW n)) h
section
variable {A:Rdr→Bool→Out (Rdr×Pat)} {O:Rdr→Out (Rdr×Cond)}
theorem N3 (hO: ∀ {s s':Rdr},B2 s s'→OS (O s) (O s')) {s s':Rdr} (h:B2 s s') (l:B):OS (tokenE O s l) (tokenE O s' l):=by
 unfold tokenE
 try simp only[cQ]
 repeat' first
  | dsimp only
  | with_reducible exact OS.ok (by assumption)
  | with_reducible exact OS.err
  | with_reducible exact trivial
  | with_reducible exact B1 (by assumption) _
  | with_reducible exact hO (by assumption)
  | with_reducible exact a7 (by assumption) _
  | with_reducible exact a5 (by assumption) _
  | with_reducible refine OS.bind (B1 (by assumption) _) fun r r' y hb=> ?_
  | with_reducible refine OS.bind (hO (by assumption)) fun r r' y hb=> ?_
  | with_reducible refine OS1.bind (cC (by assumption)) fun r r' hb=> ?_
  | with_reducible refine OS1.bind (dr _ (by assumption)) fun r r' hb=> ?_
  | with_reducible refine OS.bind (a5 (by assumption) _) fun r r' y hb=> ?_
  | with_reducible refine OS.bind (a7 (by assumption) _) fun r r' y hb=> ?_
  | with_reducible refine OS.ite Iff.rfl (fun hc=> ?_) (fun hc=> ?_)
  | with_reducible refine OS.ite ((aW ‹B2 _ _›).1 _) (fun hc=> ?_) (fun hc=> ?_)
  | with_reducible refine OS.ite ((aW ‹B2 _ _›).2.1 _) (fun hc=> ?_) (fun hc=> ?_)
  | with_reducible refine OS.ite ((aW ‹B2 _ _›).2.2 _) (fun hc=> ?_) (fun hc=> ?_)
theorem Li {s s':Rdr} (h:B2 s s') (p:Int):OS (pF s p) (pF s' p):=by
 unfold pF
 try simp only[cQ]
 repeat' first
  | dsimp only
  | with_reducible exact OS.ok (by assumption)
  | with_reducible exact OS.err
  | with_reducible exact trivial
  | with_reducible exact a7 (by assumption) _
  | with_reducible exact a5 (by assumption) _
  | with_reducible refine OS1.bind (cC (by assumption)) fun r r' hb=> ?_
  | with_reducible refine OS1.bind (dr _ (by assumption)) fun r r' hb=> ?_
  | with_reducible refine OS.bind (a5 (by assumption) _) fun r r' y hb=> ?_
  | with_reducible refine OS.bind (a7 (by assumption) _) fun r r' y hb=> ?_
  | with_reducible refine OS.ite Iff.rfl (fun hc=> ?_) (fun hc=> ?_)
  | with_reducible refine OS.ite ((aW ‹B2 _ _›).1 _) (fun hc=> ?_) (fun hc=> ?_)
  | with_reducible refine OS.ite ((aW ‹B2 _ _›).2.1 _) (fun hc=> ?_) (fun hc=> ?_)
  | with_reducible refine OS.ite ((aW ‹B2 _ _›).2.2 _) (fun hc=> ?_) (fun hc=> ?_)
theorem SV (hA: ∀ {s s':Rdr} (i:Bool),B2 s s'→OS (A s i) (A s' i)) (hO: ∀ {s s':Rdr},B2 s s'→OS (O s) (O s')) {s s':Rdr} (h:B2 s s'):OS (itemE A O s) (itemE A O s'):=by
 unfold itemE
 try simp only[cQ]
 repeat' first
  | dsimp only
  | with_reducible exact OS.ok (by assumption)
  | with_reducible exact OS.err
  | with_reducible exact trivial
  | with_reducible exact hA _ (by assumption)
  | with_reducible exact Li (by assumption) _
  | with_reducible exact N3 hO (by assumption) _
  | with_reducible exact a7 (by assumption) _
  | with_reducible exact a5 (by assumption) _
  | with_reducible refine OS.bind (hA _ (by assumption)) fun r r' y hb=> ?_
  | with_reducible refine OS.bind (Li (by assumption) _) fun r r' y hb=> ?_
  | with_reducible refine OS.bind (N3 hO (by assumption) _) fun r r' y hb=> ?_
  | with_reducible refine OS1.bind (cC (by assumption)) fun r r' hb=> ?_
  | with_reducible refine OS1.bind (dr _ (by assumption)) fun r r' hb=> ?_
  | with_reducible refine OS.bind (a5 (by assumption) _) fun r r' y hb=> ?_
  | with_reducible refine OS.bind (a7 (by assumption) _) fun r r' y hb=> ?_
  | with_reducible refine OS.ite Iff.rfl (fun hc=> ?_) (fun hc=> ?_)
  | with_reducible refine OS.ite ((aW ‹B2 _ _›).1 _) (fun hc=> ?_) (fun hc=> ?_)
  | with_reducible refine OS.ite ((aW ‹B2 _ _›).2.1 _) (fun hc=> ?_) (fun hc=> ?_)
  | with_reducible refine OS.ite ((aW ‹B2 _ _›).2.2 _) (fun hc=> ?_) (fun hc=> ?_)
theorem N6 {s s':Rdr} (h:B2 s s') (a a':Int):OS (Ax s a) (Ax s' a'):=by
 unfold Ax
 simp only[cQ]
 repeat' first
  | dsimp only
  | with_reducible exact OS.ok (by assumption)
  | with_reducible exact OS.err
  | with_reducible exact trivial
  | with_reducible exact E5 (by assumption) _ _ _
  | with_reducible exact a7 (by assumption) _
  | with_reducible exact a5 (by assumption) _
  | with_reducible refine OS.bind (E5 (by assumption) _ _ _) fun r r' y hb=> ?_
  | with_reducible refine OS1.bind (cC (by assumption)) fun r r' hb=> ?_
  | with_reducible refine OS1.bind (dr _ (by assumption)) fun r r' hb=> ?_
  | with_reducible refine OS.bind (a5 (by assumption) _) fun r r' y hb=> ?_
  | with_reducible refine OS.bind (a7 (by assumption) _) fun r r' y hb=> ?_
  | with_reducible refine OS.ite Iff.rfl (fun hc=> ?_) (fun hc=> ?_)
  | with_reducible refine OS.ite ((aW ‹B2 _ _›).1 _) (fun hc=> ?_) (fun hc=> ?_)
  | with_reducible refine OS.ite ((aW ‹B2 _ _›).2.1 _) (fun hc=> ?_) (fun hc=> ?_)
  | with_reducible refine OS.ite ((aW ‹B2 _ _›).2.2 _) (fun hc=> ?_) (fun hc=> ?_)
theorem Z3 {s s':Rdr} (h:B2 s s'):OS (LT s) (LT s'):=by
 unfold LT
 try simp only[cQ]
 repeat' first
  | dsimp only
  | with_reducible exact OS.ok (by assumption)
  | with_reducible exact OS.err
  | with_reducible exact trivial
  | with_reducible exact N6 (by assumption) _ _
  | with_reducible exact a7 (by assumption) _
  | with_reducible exact a5 (by assumption) _
  | with_reducible refine OS.bind (N6 (by assumption) _ _) fun r r' y hb=> ?_
  | with_reducible refine OS1.bind (cC (by assumption)) fun r r' hb=> ?_
  | with_reducible refine OS1.bind (dr _ (by assumption)) fun r r' hb=> ?_
  | with_reducible refine OS.bind (a5 (by assumption) _) fun r r' y hb=> ?_
  | with_reducible refine OS.bind (a7 (by assumption) _) fun r r' y hb=> ?_
  | with_reducible refine OS.ite Iff.rfl (fun hc=> ?_) (fun hc=> ?_)
  | with_reducible refine OS.ite ((aW ‹B2 _ _›).1 _) (fun hc=> ?_) (fun hc=> ?_)
  | with_reducible refine OS.ite ((aW ‹B2 _ _›).2.1 _) (fun hc=> ?_) (fun hc=> ?_)
  | with_reducible refine OS.ite ((aW ‹B2 _ _›).2.2 _) (fun hc=> ?_) (fun hc=> ?_)
theorem Az: ∀ (k:Nat) {s s':Rdr} (x:Pat),B2 s s'→OS (iB k s x) (iB k s' x)
 | 0,_,_,_,_=> trivial
 | k+1,s,s',x,h=> by
   rw[iB,iB]
   refine OS.bind (Z3 h) fun r r' y hb=> ?_
   cases y with
   | none=> exact OS.ok hb
   | some m=> exact Az k _ hb
theorem SU (hA: ∀ {s s':Rdr} (i:Bool),B2 s s'→OS (A s i) (A s' i)) (hO: ∀ {s s':Rdr},B2 s s'→OS (O s) (O s')) {s s':Rdr} (h:B2 s s'):OS (repE A O s) (repE A O s'):=by
 unfold repE
 try simp only[cQ]
 repeat' first
  | dsimp only
  | with_reducible exact OS.ok (by assumption)
  | with_reducible exact OS.err
  | with_reducible exact trivial
  | with_reducible exact SV hA hO (by assumption)
  | with_reducible exact Az _ _ (by assumption)
  | with_reducible exact a7 (by assumption) _
  | with_reducible exact a5 (by assumption) _
  | with_reducible refine OS.bind (SV hA hO (by assumption)) fun r r' y hb=> ?_
  | with_reducible refine OS.bind (Az _ _ (by assumption)) fun r r' y hb=> ?_
  | with_reducible refine OS1.bind (cC (by assumption)) fun r r' hb=> ?_
  | with_reducible refine OS1.bind (dr _ (by assumption)) fun r r' hb=> ?_
  | with_reducible refine OS.bind (a5 (by assumption) _) fun r r' y hb=> ?_
  | with_reducible refine OS.bind (a7 (by assumption) _) fun r r' y hb=> ?_
  | with_reducible refine OS.ite Iff.rfl (fun hc=> ?_) (fun hc=> ?_)
  | with_reducible refine OS.ite ((aW ‹B2 _ _›).1 _) (fun hc=> ?_) (fun hc=> ?_)
  | with_reducible refine OS.ite ((aW ‹B2 _ _›).2.1 _) (fun hc=> ?_) (fun hc=> ?_)
  | with_reducible refine OS.ite ((aW ‹B2 _ _›).2.2 _) (fun hc=> ?_) (fun hc=> ?_)
theorem Ay (hA: ∀ {s s':Rdr} (i:Bool),B2 s s'→OS (A s i) (A s' i)) (hO: ∀ {s s':Rdr},B2 s s'→OS (O s) (O s')) (i:Bool): ∀ (k:Nat) {s s':Rdr} (acc:List Pat),B2 s s'→OS (hZ A O i k s acc) (hZ A O i k s' acc)
 | 0,_,_,_,_=> trivial
 | k+1,s,s',acc,h=> by
   rw[hZ,hZ,SW h]
   refine OS.ofb fun b=> ?_
   refine OS.ite Iff.rfl (fun _=> OS.bind (SU hA hO h) fun r r' y hb=> Ay hA hO i k _ hb) fun _=> OS.ok h
theorem ST (hA: ∀ {s s':Rdr} (i:Bool),B2 s s'→OS (A s i) (A s' i)) (hO: ∀ {s s':Rdr},B2 s s'→OS (O s) (O s')) {s s':Rdr} (h:B2 s s') (i:Bool):OS (seqE A O s i) (seqE A O s' i):=by
 unfold seqE
 try simp only[cQ]
 repeat' first
  | dsimp only
  | with_reducible exact OS.ok (by assumption)
  | with_reducible exact OS.err
  | with_reducible exact trivial
  | with_reducible exact SU hA hO (by assumption)
  | with_reducible exact Ay hA hO _ _ _ (by assumption)
  | with_reducible exact a7 (by assumption) _
  | with_reducible exact a5 (by assumption) _
  | with_reducible refine OS.bind (SU hA hO (by assumption)) fun r r' y hb=> ?_
  | with_reducible refine OS.bind (Ay hA hO _ _ _ (by assumption)) fun r r' y hb=> ?_
  | with_reducible refine OS1.bind (cC (by assumption)) fun r r' hb=> ?_
  | with_reducible refine OS1.bind (dr _ (by assumption)) fun r r' hb=> ?_
  | with_reducible refine OS.bind (a5 (by assumption) _) fun r r' y hb=> ?_
  | with_reducible refine OS.bind (a7 (by assumption) _) fun r r' y hb=> ?_
  | with_reducible refine OS.ite Iff.rfl (fun hc=> ?_) (fun hc=> ?_)
  | with_reducible refine OS.ite ((aW ‹B2 _ _›).1 _) (fun hc=> ?_) (fun hc=> ?_)
  | with_reducible refine OS.ite ((aW ‹B2 _ _›).2.1 _) (fun hc=> ?_) (fun hc=> ?_)
  | with_reducible refine OS.ite ((aW ‹B2 _ _›).2.2 _) (fun hc=> ?_) (fun hc=> ?_)
theorem AA (hA: ∀ {s s':Rdr} (i:Bool),B2 s s'→OS (A s i) (A s' i)) (hO: ∀ {s s':Rdr},B2 s s'→OS (O s) (O s')) (i:Bool): ∀ (k:Nat) {s s':Rdr} (acc:List Pat),B2 s s'→OS (jd A O i k s acc) (jd A O i k s' acc)
 | 0,_,_,_,_=> trivial
 | k+1,s,s',acc,h=> by
   rw[jd,jd]
   refine OS.bind (a5 h _) fun r r' y hb=> ?_
   refine OS.ite Iff.rfl (fun _=> OS.bind (ST hA hO hb i) fun r r' y hb=> AA hA hO i k _ hb) fun _=> OS.ok hb
theorem Z7 (hA: ∀ {s s':Rdr} (i:Bool),B2 s s'→OS (A s i) (A s' i)) (hO: ∀ {s s':Rdr},B2 s s'→OS (O s) (O s')) {s s':Rdr} (h:B2 s s') (i:Bool):OS (altE A O s i) (altE A O s' i):=by
 unfold altE
 try simp only[cQ]
 repeat' first
  | dsimp only
  | with_reducible exact OS.ok (by assumption)
  | with_reducible exact OS.err
  | with_reducible exact trivial
  | with_reducible exact ST hA hO (by assumption) _
  | with_reducible exact AA hA hO _ _ _ (by assumption)
  | with_reducible exact a7 (by assumption) _
  | with_reducible exact a5 (by assumption) _
  | with_reducible refine OS.bind (ST hA hO (by assumption) _) fun r r' y hb=> ?_
  | with_reducible refine OS.bind (AA hA hO _ _ _ (by assumption)) fun r r' y hb=> ?_
  | with_reducible refine OS1.bind (cC (by assumption)) fun r r' hb=> ?_
  | with_reducible refine OS1.bind (dr _ (by assumption)) fun r r' hb=> ?_
  | with_reducible refine OS.bind (a5 (by assumption) _) fun r r' y hb=> ?_
  | with_reducible refine OS.bind (a7 (by assumption) _) fun r r' y hb=> ?_
  | with_reducible refine OS.ite Iff.rfl (fun hc=> ?_) (fun hc=> ?_)
  | with_reducible refine OS.ite ((aW ‹B2 _ _›).1 _) (fun hc=> ?_) (fun hc=> ?_)
  | with_reducible refine OS.ite ((aW ‹B2 _ _›).2.1 _) (fun hc=> ?_) (fun hc=> ?_)
  | with_reducible refine OS.ite ((aW ‹B2 _ _›).2.2 _) (fun hc=> ?_) (fun hc=> ?_)
end
theorem SZ: ∀ (n:Nat) {s s':Rdr} (i:Bool),B2 s s'→OS (nl n s i) (nl n s' i)
 | 0,_,_,_,_=> trivial
 | n+1,_,_,i,h=> Z7 (SZ n) (Z5 (MW (n+1))) h i
section
variable {N O:Rdr→Out (Rdr×Glob)}
theorem sm (hN: ∀ {s s':Rdr},B2 s s'→OS (N s) (N s')) : ∀ (k:Nat) {s s':Rdr} (acc:List Glob),B2 s s'→OS (f5 N k s acc) (f5 N k s' acc)
 | 0,_,_,_,_=> trivial
 | k+1,s,s',acc,h=> by
   rw[f5,f5]
   try simp only[cQ]
   repeat' first
    | dsimp only
    | with_reducible exact OS.ok (by assumption)
    | with_reducible exact OS.err
    | with_reducible exact trivial
    | with_reducible exact hN (by assumption)
    | with_reducible exact sm hN k _ (by assumption)
    | with_reducible exact a7 (by assumption) _
    | with_reducible exact a5 (by assumption) _
    | with_reducible refine OS.bind (hN (by assumption)) fun r r' y hb=> ?_
    | with_reducible refine OS.bind (sm hN k _ (by assumption)) fun r r' y hb=> ?_
    | with_reducible refine OS1.bind (cC (by assumption)) fun r r' hb=> ?_
    | with_reducible refine OS1.bind (dr _ (by assumption)) fun r r' hb=> ?_
    | with_reducible refine OS.bind (a5 (by assumption) _) fun r r' y hb=> ?_
    | with_reducible refine OS.bind (a7 (by assumption) _) fun r r' y hb=> ?_
    | with_reducible refine OS.ite Iff.rfl (fun hc=> ?_) (fun hc=> ?_)
    | with_reducible refine OS.ite ((aW ‹B2 _ _›).1 _) (fun hc=> ?_) (fun hc=> ?_)
    | with_reducible refine OS.ite ((aW ‹B2 _ _›).2.1 _) (fun hc=> ?_) (fun hc=> ?_)
    | with_reducible refine OS.ite ((aW ‹B2 _ _›).2.2 _) (fun hc=> ?_) (fun hc=> ?_)
theorem I2 (hN: ∀ {s s':Rdr},B2 s s'→OS (N s) (N s')) {s s':Rdr} (h:B2 s s'):OS (gandE N s) (gandE N s'):=by
 unfold gandE
 try simp only[cQ]
 repeat' first
  | dsimp only
  | with_reducible exact OS.ok (by assumption)
  | with_reducible exact OS.err
  | with_reducible exact trivial
  | with_reducible exact hN (by assumption)
  | with_reducible exact sm hN _ _ (by assumption)
  | with_reducible exact a7 (by assumption) _
  | with_reducible exact a5 (by assumption) _
  | with_reducible refine OS.bind (hN (by assumption)) fun r r' y hb=> ?_
  | with_reducible refine OS.bind (sm hN _ _ (by assumption)) fun r r' y hb=> ?_
  | with_reducible refine OS1.bind (cC (by assumption)) fun r r' hb=> ?_
  | with_reducible refine OS1.bind (dr _ (by assumption)) fun r r' hb=> ?_
  | with_reducible refine OS.bind (a5 (by assumption) _) fun r r' y hb=> ?_
  | with_reducible refine OS.bind (a7 (by assumption) _) fun r r' y hb=> ?_
  | with_reducible refine OS.ite Iff.rfl (fun hc=> ?_) (fun hc=> ?_)
  | with_reducible refine OS.ite ((aW ‹B2 _ _›).1 _) (fun hc=> ?_) (fun hc=> ?_)
  | with_reducible refine OS.ite ((aW ‹B2 _ _›).2.1 _) (fun hc=> ?_) (fun hc=> ?_)
  | with_reducible refine OS.ite ((aW ‹B2 _ _›).2.2 _) (fun hc=> ?_) (fun hc=> ?_)
theorem vm (hN: ∀ {s s':Rdr},B2 s s'→OS (N s) (N s')) : ∀ (k:Nat) {s s':Rdr} (acc:List Glob),B2 s s'→OS (iG N k s acc) (iG N k s' acc)
 | 0,_,_,_,_=> trivial
 | k+1,s,s',acc,h=> by
   rw[iG,iG]
   try simp only[cQ]
   repeat' first
    | dsimp only
    | with_reducible exact OS.ok (by assumption)
    | with_reducible exact OS.err
    | with_reducible exact trivial
    | with_reducible exact I2 hN (by assumption)
    | with_reducible exact vm hN k _ (by assumption)
    | with_reducible exact a7 (by assumption) _
    | with_reducible exact a5 (by assumption) _
    | with_reducible refine OS.bind (I2 hN (by assumption)) fun r r' y hb=> ?_
    | with_reducible refine OS.bind (vm hN k _ (by assumption)) fun r r' y hb=> ?_
    | with_reducible refine OS1.bind (cC (by assumption)) fun r r' hb=> ?_
    | with_reducible refine OS1.bind (dr _ (by assumption)) fun r r' hb=> ?_
    | with_reducible refine OS.bind (a5 (by assumption) _) fun r r' y hb=> ?_
    | with_reducible refine OS.bind (a7 (by assumption) _) fun r r' y hb=> ?_
    | with_reducible refine OS.ite Iff.rfl (fun hc=> ?_) (fun hc=> ?_)
    | with_reducible refine OS.ite ((aW ‹B2 _ _›).1 _) (fun hc=> ?_) (fun hc=> ?_)
    | with_reducible refine OS.ite ((aW ‹B2 _ _›).2.1 _) (fun hc=> ?_) (fun hc=> ?_)
    | with_reducible refine OS.ite ((aW ‹B2 _ _›).2.2 _) (fun hc=> ?_) (fun hc=> ?_)
theorem VN (hN: ∀ {s s':Rdr},B2 s s'→OS (N s) (N s')) {s s':Rdr} (h:B2 s s'):OS (gorE N s) (gorE N s'):=by
 unfold gorE
 try simp only[cQ]
 repeat' first
  | dsimp only
  | with_reducible exact OS.ok (by assumption)
  | with_reducible exact OS.err
  | with_reducible exact trivial
  | with_reducible exact I2 hN (by assumption)
  | with_reducible exact vm hN _ _ (by assumption)
  | with_reducible exact a7 (by assumption) _
  | with_reducible exact a5 (by assumption) _
  | with_reducible refine OS.bind (I2 hN (by assumption)) fun r r' y hb=> ?_
  | with_reducible refine OS.bind (vm hN _ _ (by assumption)) fun r r' y hb=> ?_
  | with_reducible refine OS1.bind (cC (by assumption)) fun r r' hb=> ?_
  | with_reducible refine OS1.bind (dr _ (by assumption)) fun r r' hb=> ?_
  | with_reducible refine OS.bind (a5 (by assumption) _) fun r r' y hb=> ?_
  | with_reducible refine OS.bind (a7 (by assumption) _) fun r r' y hb=> ?_
  | with_reducible refine OS.ite Iff.rfl (fun hc=> ?_) (fun hc=> ?_)
  | with_reducible refine OS.ite ((aW ‹B2 _ _›).1 _) (fun hc=> ?_) (fun hc=> ?_)
  | with_reducible refine OS.ite ((aW ‹B2 _ _›).2.1 _) (fun hc=> ?_) (fun hc=> ?_)
  | with_reducible refine OS.ite ((aW ‹B2 _ _›).2.2 _) (fun hc=> ?_) (fun hc=> ?_)
theorem so : ∀ (k:Nat) {s s':Rdr} (acc:List B),B2 s s'→OS (ge k s acc) (ge k s' acc)
 | 0,_,_,_,_=> trivial
 | k+1,s,s',acc,h=> by
   rw[ge,ge]
   try simp only[cQ]
   repeat' first
    | dsimp only
    | with_reducible exact OS.ok (by assumption)
    | with_reducible exact OS.err
    | with_reducible exact trivial
    | with_reducible exact so k _ (by assumption)
    | with_reducible exact a7 (by assumption) _
    | with_reducible exact a5 (by assumption) _
    | with_reducible refine OS.bind (so k _ (by assumption)) fun r r' y hb=> ?_
    | with_reducible refine OS1.bind (cC (by assumption)) fun r r' hb=> ?_
    | with_reducible refine OS1.bind (dr _ (by assumption)) fun r r' hb=> ?_
    | with_reducible refine OS.bind (a5 (by assumption) _) fun r r' y hb=> ?_
    | with_reducible refine OS.bind (a7 (by assumption) _) fun r r' y hb=> ?_
    | with_reducible refine OS.ite Iff.rfl (fun hc=> ?_) (fun hc=> ?_)
    | with_reducible refine OS.ite ((aW ‹B2 _ _›).1 _) (fun hc=> ?_) (fun hc=> ?_)
    | with_reducible refine OS.ite ((aW ‹B2 _ _›).2.1 _) (fun hc=> ?_) (fun hc=> ?_)
    | with_reducible refine OS.ite ((aW ‹B2 _ _›).2.2 _) (fun hc=> ?_) (fun hc=> ?_)
theorem SY {s s':Rdr} (h:B2 s s') (p:Int) (a:B):OS (argsE s p a) (argsE s' p a):=by
 unfold argsE
 try simp only[cQ]
 repeat' first
  | dsimp only
  | with_reducible exact OS.ok (by assumption)
  | with_reducible exact OS.err
  | with_reducible exact trivial
  | with_reducible exact N7 (by assumption)
  | with_reducible exact Lf (by assumption)
  | with_reducible exact N5 (by assumption)
  | with_reducible exact so _ _ (by assumption)
  | with_reducible exact a7 (by assumption) _
  | with_reducible exact a5 (by assumption) _
  | with_reducible refine OS.bind (N7 (by assumption)) fun r r' y hb=> ?_
  | with_reducible refine OS.bind (Lf (by assumption)) fun r r' y hb=> ?_
  | with_reducible refine OS.bind (N5 (by assumption)) fun r r' y hb=> ?_
  | with_reducible refine OS.bind (so _ _ (by assumption)) fun r r' y hb=> ?_
  | with_reducible refine OS1.bind (cC (by assumption)) fun r r' hb=> ?_
  | with_reducible refine OS1.bind (dr _ (by assumption)) fun r r' hb=> ?_
  | with_reducible refine OS.bind (a5 (by assumption) _) fun r r' y hb=> ?_
  | with_reducible refine OS.bind (a7 (by assumption) _) fun r r' y hb=> ?_
  | with_reducible refine OS.ite Iff.rfl (fun hc=> ?_) (fun hc=> ?_)
  | with_reducible refine OS.ite ((aW ‹B2 _ _›).1 _) (fun hc=> ?_) (fun hc=> ?_)
  | with_reducible refine OS.ite ((aW ‹B2 _ _›).2.1 _) (fun hc=> ?_) (fun hc=> ?_)
  | with_reducible refine OS.ite ((aW ‹B2 _ _›).2.2 _) (fun hc=> ?_) (fun hc=> ?_)
theorem N4 {s s':Rdr} (h:B2 s s') (n:B):OS (uN s n) (uN s' n):=by
 unfold uN
 try simp only[cQ]
 repeat' first
  | dsimp only
  | with_reducible exact OS.ok (by assumption)
  | with_reducible exact OS.err
  | with_reducible exact trivial
  | with_reducible exact a7 (by assumption) _
  | with_reducible exact a5 (by assumption) _
  | with_reducible refine OS1.bind (cC (by assumption)) fun r r' hb=> ?_
  | with_reducible refine OS1.bind (dr _ (by assumption)) fun r r' hb=> ?_
  | with_reducible refine OS.bind (a5 (by assumption) _) fun r r' y hb=> ?_
  | with_reducible refine OS.bind (a7 (by assumption) _) fun r r' y hb=> ?_
  | with_reducible refine OS.ite Iff.rfl (fun hc=> ?_) (fun hc=> ?_)
  | with_reducible refine OS.ite ((aW ‹B2 _ _›).1 _) (fun hc=> ?_) (fun hc=> ?_)
  | with_reducible refine OS.ite ((aW ‹B2 _ _›).2.1 _) (fun hc=> ?_) (fun hc=> ?_)
  | with_reducible refine OS.ite ((aW ‹B2 _ _›).2.2 _) (fun hc=> ?_) (fun hc=> ?_)
theorem Lh {s s':Rdr} (h:B2 s s'):OS (gatomsE s) (gatomsE s'):=by
 unfold gatomsE
 try simp only[cQ]
 repeat' first
  | dsimp only
  | with_reducible exact OS.ok (by assumption)
  | with_reducible exact OS.err
  | with_reducible exact trivial
  | with_reducible exact SY (by assumption) _ _
  | with_reducible exact N4 (by assumption) _
  | with_reducible exact a7 (by assumption) _
  | with_reducible exact a5 (by assumption) _
  | with_reducible refine OS.bind (SY (by assumption) _ _) fun r r' y hb=> ?_
  | with_reducible refine OS.bind (N4 (by assumption) _) fun r r' y hb=> ?_
  | with_reducible refine OS1.bind (cC (by assumption)) fun r r' hb=> ?_
  | with_reducible refine OS1.bind (dr _ (by assumption)) fun r r' hb=> ?_
  | with_reducible refine OS.bind (a5 (by assumption) _) fun r r' y hb=> ?_
  | with_reducible refine OS.bind (a7 (by assumption) _) fun r r' y hb=> ?_
  | with_reducible refine OS.ite Iff.rfl (fun hc=> ?_) (fun hc=> ?_)
  | with_reducible refine OS.ite ((aW ‹B2 _ _›).1 _) (fun hc=> ?_) (fun hc=> ?_)
  | with_reducible refine OS.ite ((aW ‹B2 _ _›).2.1 _) (fun hc=> ?_) (fun hc=> ?_)
  | with_reducible refine OS.ite ((aW ‹B2 _ _›).2.2 _) (fun hc=> ?_) (fun hc=> ?_)
theorem XI (hN: ∀ {s s':Rdr},B2 s s'→OS (N s) (N s')) (hO: ∀ {s s':Rdr},B2 s s'→OS (O s) (O s')) {s s':Rdr} (h:B2 s s'):OS (gnotE N O s) (gnotE N O s'):=by
 unfold gnotE
 try simp only[cQ]
 repeat' first
  | dsimp only
  | with_reducible exact OS.ok (by assumption)
  | with_reducible exact OS.err
  | with_reducible exact trivial
  | with_reducible exact hN (by assumption)
  | with_reducible exact hO (by assumption)
  | with_reducible exact Lh (by assumption)
  | with_reducible exact a7 (by assumption) _
  | with_reducible exact a5 (by assumption) _
  | with_reducible refine OS.bind (hN (by assumption)) fun r r' y hb=> ?_
  | with_reducible refine OS.bind (hO (by assumption)) fun r r' y hb=> ?_
  | with_reducible refine OS.bind (Lh (by assumption)) fun r r' y hb=> ?_
  | with_reducible refine OS1.bind (cC (by assumption)) fun r r' hb=> ?_
  | with_reducible refine OS1.bind (dr _ (by assumption)) fun r r' hb=> ?_
  | with_reducible refine OS.bind (a5 (by assumption) _) fun r r' y hb=> ?_
  | with_reducible refine OS.bind (a7 (by assumption) _) fun r r' y hb=> ?_
  | with_reducible refine OS.ite Iff.rfl (fun hc=> ?_) (fun hc=> ?_)
  | with_reducible refine OS.ite ((aW ‹B2 _ _›).1 _) (fun hc=> ?_) (fun hc=> ?_)
  | with_reducible refine OS.ite ((aW ‹B2 _ _›).2.1 _) (fun hc=> ?_) (fun hc=> ?_)
  | with_reducible refine OS.ite ((aW ‹B2 _ _›).2.2 _) (fun hc=> ?_) (fun hc=> ?_)
end
theorem I1: ∀ (n:Nat) {s s':Rdr},B2 s s'→OS (j9 n s) (j9 n s')
 | 0,_,_,_=> trivial
 | n+1,_,_,h=> XI (I1 n) (VN (I1 n)) h
theorem XJ {s s':Rdr} (h:B2 s s'):OS (Ez s) (Ez s'):=by
 unfold Ez
 simp only[cQ]
 refine OS.bind (a5 h _) fun r r' y hb=> ?_
 dsimp only
 rw[hb.text]
 refine OS.ite (by rw[hb.kind]) (fun _=> OS.err) fun _=> ?_
 refine OS1.bind (cC hb) fun r r' hb=> ?_
 refine OS.bind (a7 hb _) fun r r' y hb=> ?_
 exact OS.ok hb
theorem E6: ∀ (k:Nat) {s s':Rdr} (acc:List jK),B2 s s'→OS (dS k s acc) (dS k s' acc)
 | 0,_,_,_,_=> trivial
 | k+1,s,s',acc,h=> by
   rw[dS,dS,u5 h,MV h]
   refine OS.ite Iff.rfl (fun _=> OS.bind (XJ h) fun r r' y hb=> E6 k _ hb) fun _=> OS.ok h
theorem Vi {s s':Rdr} (h:B2 s s'):OS (nH s) (nH s'):=by
 unfold nH
 try simp only[cQ]
 repeat' first
  | dsimp only
  | with_reducible exact OS.ok (by assumption)
  | with_reducible exact OS.err
  | with_reducible exact trivial
  | with_reducible exact a7 (by assumption) _
  | with_reducible exact a5 (by assumption) _
  | with_reducible refine OS1.bind (cC (by assumption)) fun r r' hb=> ?_
  | with_reducible refine OS1.bind (dr _ (by assumption)) fun r r' hb=> ?_
  | with_reducible refine OS.bind (a5 (by assumption) _) fun r r' y hb=> ?_
  | with_reducible refine OS.bind (a7 (by assumption) _) fun r r' y hb=> ?_
  | with_reducible refine OS.ite Iff.rfl (fun hc=> ?_) (fun hc=> ?_)
  | with_reducible refine OS.ite ((aW ‹B2 _ _›).1 _) (fun hc=> ?_) (fun hc=> ?_)
  | with_reducible refine OS.ite ((aW ‹B2 _ _›).2.1 _) (fun hc=> ?_) (fun hc=> ?_)
  | with_reducible refine OS.ite ((aW ‹B2 _ _›).2.2 _) (fun hc=> ?_) (fun hc=> ?_)
theorem Vj (n:Nat) {s s':Rdr} (h:B2 s s'):OS (queryE n s) (queryE n s'):=by
 unfold queryE
 refine OS1.bind (cC h) fun r r' hb=> ?_
 refine OS.bind (SZ n false hb) fun r r' p hb=> ?_
 refine OS.bind (a5 hb _) fun r r' c hb=> ?_
 refine OS.bind (OS.ite Iff.rfl (fun _=> VN (I1 n) hb) fun _=> OS.ok hb) fun r r' g hb=> ?_
 refine OS.bind (E6 _ _ hb) fun r r' f hb=> ?_
 refine OS.bind (Vi hb) fun r r' z hb=> ?_
 exact OS.ite ((aW hb).1 _) (fun _=> OS.ok hb) fun _=> OS.err
end Go.Gv
