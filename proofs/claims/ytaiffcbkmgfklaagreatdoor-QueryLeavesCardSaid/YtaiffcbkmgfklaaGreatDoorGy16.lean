/- A part of the framework and of the walks: T14 T15 T16 T17 W10 W11 W12 W4 W5 W6 W7 W8 W13. -/
import Derived.Test.YtaiffcbkmgfklaaGreatDoorGy12
import Derived.Test.YtaiffcbkmgfklaaGreatDoorGy15

namespace Go.Gv
set_option linter.unusedSimpArgs false
set_option linter.unusedVariables false
open Cod (enc dec)

/-- One of two contracts. -/
def orC (s t : Spc) : Spc := .gen (fun d ds H K => s.pt d ds H K ∨ t.pt d ds H K) fun d ds H K K' hk h => h.elim (fun h => .inl (s.mono d ds H K K' hk h)) (fun h => .inr (t.mono d ds H K K' hk h))
@[simp] theorem orC_pt (s t : Spc) (d : Nat) (ds : List D) (H : HMap) (K : D → HMap → Prop) : (orC s t).pt d ds H K = (s.pt d ds H K ∨ t.pt d ds H K) := id rfl
theorem tri_or {P : Program} {f : Nat} {s t : Spc} (h1 : Tri P f s.pt) (h2 : Tri P f t.pt) : Tri P f (orC s t).pt := fun O tp w vs ds H d K a b c e g h => h.elim (fun h => h1 O tp w vs ds H d K a b c e g h) (fun h => h2 O tp w vs ds H d K a b c e g h)

section
variable {X Y : Type} [Cod Y]
def frPT (A : Arg X) (pre : X → Prop) (post : X → List Y → Prop) (el n : Nat) : PT := fun d ds H K => optX (A.dec ds) fun x => pre x ∧ ∀ v l, post x l → K (.own d v) (updH H d (some (.row v el n (l.map enc))))
def ioPT (A : Arg X) (pre : X → List Y → Prop) (post : X → List Y → List Y → Prop) (el n : Nat) : PT := fun d ds H K => ∃ id v l ds' x, ds = .own id v :: ds' ∧ A.dec ds' = some x ∧ H id = some (.row v el n (l.map enc)) ∧ pre x l ∧
  ∀ v' l', post x l l' → K (.own id v') (updH H id (some (.row v' el n (l'.map enc))))
def iuPT (A : Arg X) (pre : X → List Y → Prop) (post : X → List Y → List Y → Prop) (el n : Nat) : PT := fun d ds H K => ∃ id v l ds' x, ds = .own id v :: ds' ∧ A.dec ds' = some x ∧ H id = some (.row v el n (l.map enc)) ∧ pre x l ∧
  ∀ l', post x l l' → K (.tup []) (updH H id (some (.row v el n (l'.map enc))))

theorem optX_mono {o : Option X} {k k' : X → Prop} (h : ∀ x, k x → k' x) (ho : optX o k) : optX o k' := by
  cases o with
  | none => exact ho
  | some x => exact h x ho
theorem fr_mono (A : Arg X) (pre : X → Prop) (post : X → List Y → Prop) (el n : Nat) : MonoPT (frPT A pre post el n) := fun d ds H K K' hk h => optX_mono (fun x h => ⟨h.1, fun v l hp => hk _ _ (h.2 v l hp)⟩) h
theorem io_mono (A : Arg X) (pre : X → List Y → Prop) (post : X → List Y → List Y → Prop) (el n : Nat) : MonoPT (ioPT A pre post el n) := fun d ds H K K' hk ⟨id, v, l, ds', x, h1, h2, h3, h4, h5⟩ => ⟨id, v, l, ds', x, h1, h2, h3, h4, fun v' l' hp => hk _ _ (h5 v' l' hp)⟩
theorem iu_mono (A : Arg X) (pre : X → List Y → Prop) (post : X → List Y → List Y → Prop) (el n : Nat) : MonoPT (iuPT A pre post el n) := fun d ds H K K' hk ⟨id, v, l, ds', x, h1, h2, h3, h4, h5⟩ => ⟨id, v, l, ds', x, h1, h2, h3, h4, fun l' hp => hk _ _ (h5 l' hp)⟩
def frC (A : Arg X) (pre : X → Prop) (post : X → List Y → Prop) (el n : Nat) : Spc := .gen _ (fr_mono A pre post el n)
def ioC (A : Arg X) (pre : X → List Y → Prop) (post : X → List Y → List Y → Prop) (el n : Nat) : Spc := .gen _ (io_mono A pre post el n)
def iuC (A : Arg X) (pre : X → List Y → Prop) (post : X → List Y → List Y → Prop) (el n : Nat) : Spc := .gen _ (iu_mono A pre post el n)
@[simp] theorem frC_pt (A : Arg X) (pre : X → Prop) (post : X → List Y → Prop) (el n : Nat) (d : Nat) (ds : List D) (H : HMap) (K : D → HMap → Prop) : (frC A pre post el n).pt d ds H K = optX (A.dec ds) fun x => pre x ∧ ∀ v l, post x l → K (.own d v) (updH H d (some (.row v el n (l.map enc)))) := id rfl
theorem fr_isFr (A : Arg X) (pre : X → Prop) (post : X → List Y → Prop) (el n : Nat) : IsFr (frPT A pre post el n) := by
  refine ⟨fun ds => optX (A.dec ds) pre, fun t ds d u => optX (A.dec ds) fun x => ∃ v l, post x l ∧ d = .own t v ∧ u = .row v el n (l.map enc), fun t ds H K => ?_⟩
  simp only [frPT]
  cases A.dec ds with
  | none => exact ⟨fun h => h.elim, fun h => h.1.elim⟩
  | some x =>
    simp only [optX_s]
    constructor
    · rintro ⟨a, b⟩
      exact ⟨a, fun d u ⟨v, l, h1, h2, h3⟩ => by subst h2; subst h3; exact b v l h1⟩
    · rintro ⟨a, b⟩
      exact ⟨a, fun v l h => b _ _ ⟨v, l, h, rfl, rfl⟩⟩
@[simp] theorem frC_pre (A : Arg X) (pre : X → Prop) (post : X → List Y → Prop) (el n : Nat) (d : Nat) (ds : List D) (H : HMap) (K : D → HMap → Prop) : preX (some d) (frC A pre post el n) ds H K = optX (A.dec ds) fun x => pre x ∧ ∀ v l, post x l → K (.own d v) (updH H d (some (.row v el n (l.map enc)))) :=
  propext ⟨fun h => h.2, fun h => ⟨fr_isFr A pre post el n, h⟩⟩
def ioX (A : Arg X) (pre : X → List Y → Prop) (post : X → List Y → List Y → Prop) (el n id : Nat) (v : Value) (ds : List D) (r : Option Res) (H : HMap) (K : D → HMap → Prop) : Prop := ∃ l, r = some (.row v el n (l.map enc)) ∧ optX (A.dec ds) fun x => pre x l ∧ ∀ v' l', post x l l' → K (.own id v') (updH H id (some (.row v' el n (l'.map enc))))
def iuX (A : Arg X) (pre : X → List Y → Prop) (post : X → List Y → List Y → Prop) (el n id : Nat) (v : Value) (ds : List D) (r : Option Res) (H : HMap) (K : D → HMap → Prop) : Prop := ∃ l, r = some (.row v el n (l.map enc)) ∧ optX (A.dec ds) fun x => pre x l ∧ ∀ l', post x l l' → K (.tup []) (updH H id (some (.row v el n (l'.map enc))))
@[congr] theorem ioX_cg {A : Arg X} {pre : X → List Y → Prop} {post : X → List Y → List Y → Prop} {el n id : Nat} {v : Value} {ds ds' : List D} {r r' : Option Res} {H : HMap} {K : D → HMap → Prop} (h1 : ds = ds') (h2 : r = r') : ioX A pre post el n id v ds r H K = ioX A pre post el n id v ds' r' H K := by subst h1; subst h2; rfl
@[congr] theorem iuX_cg {A : Arg X} {pre : X → List Y → Prop} {post : X → List Y → List Y → Prop} {el n id : Nat} {v : Value} {ds ds' : List D} {r r' : Option Res} {H : HMap} {K : D → HMap → Prop} (h1 : ds = ds') (h2 : r = r') : iuX A pre post el n id v ds r H K = iuX A pre post el n id v ds' r' H K := by subst h1; subst h2; rfl
@[simp] theorem ioC_pt (A : Arg X) (pre : X → List Y → Prop) (post : X → List Y → List Y → Prop) (el n : Nat) (d i : Nat) (v : Value) (ds : List D) (H : HMap) (K : D → HMap → Prop) : (ioC A pre post el n).pt d (.own i v :: ds) H K = ioX A pre post el n i v ds (H i) H K := by
  refine propext ⟨fun h => ?_, fun h => ?_⟩
  · obtain ⟨id, v, l, ds', x, h1, h2, h3, h4, h5⟩ := h
    cases h1
    refine ⟨l, h3, ?_⟩
    rw [h2]
    exact ⟨h4, h5⟩
  · obtain ⟨l, h1, h2⟩ := h
    cases hd : A.dec ds with
    | none => rw [hd] at h2; exact h2.elim
    | some x => rw [hd] at h2; exact ⟨i, v, l, ds, x, rfl, hd, h1, h2.1, h2.2⟩
@[simp] theorem iuC_pt (A : Arg X) (pre : X → List Y → Prop) (post : X → List Y → List Y → Prop) (el n : Nat) (d i : Nat) (v : Value) (ds : List D) (H : HMap) (K : D → HMap → Prop) : (iuC A pre post el n).pt d (.own i v :: ds) H K = iuX A pre post el n i v ds (H i) H K := by
  refine propext ⟨fun h => ?_, fun h => ?_⟩
  · obtain ⟨id, v, l, ds', x, h1, h2, h3, h4, h5⟩ := h
    cases h1
    refine ⟨l, h3, ?_⟩
    rw [h2]
    exact ⟨h4, h5⟩
  · obtain ⟨l, h1, h2⟩ := h
    cases hd : A.dec ds with
    | none => rw [hd] at h2; exact h2.elim
    | some x => rw [hd] at h2; exact ⟨i, v, l, ds, x, rfl, hd, h1, h2.1, h2.2⟩
/-- The resource read: its elements, one by one. -/
@[simp] theorem ioX_r (A : Arg X) (pre : X → List Y → Prop) (post : X → List Y → List Y → Prop) (el n id : Nat) (v : Value) (ds : List D) (l : List Y) (H : HMap) (K : D → HMap → Prop) : ioX A pre post el n id v ds (some (.row v el n (l.map enc))) H K = optX (A.dec ds) fun x => pre x l ∧ ∀ v' l', post x l l' → K (.own id v') (updH H id (some (.row v' el n (l'.map enc)))) := by
  refine propext ⟨fun ⟨l', h1, h2⟩ => ?_, fun h => ⟨l, rfl, h⟩⟩
  simp at h1
  subst h1
  exact h2
@[simp] theorem iuX_r (A : Arg X) (pre : X → List Y → Prop) (post : X → List Y → List Y → Prop) (el n id : Nat) (v : Value) (ds : List D) (l : List Y) (H : HMap) (K : D → HMap → Prop) : iuX A pre post el n id v ds (some (.row v el n (l.map enc))) H K = optX (A.dec ds) fun x => pre x l ∧ ∀ l', post x l l' → K (.tup []) (updH H id (some (.row v el n (l'.map enc)))) := by
  refine propext ⟨fun ⟨l', h1, h2⟩ => ?_, fun h => ⟨l, rfl, h⟩⟩
  simp at h1
  subst h1
  exact h2

/-- A slice of the caller's own is given back, of whose elements q holds. -/
def FinF (el n : Nat) (q : List Y → Prop) (r : D) (H' : HMap) : Prop := ∃ j v l, r = .own j v ∧ H' j = some (.row v el n (l.map enc)) ∧ q l
theorem finF_of {el n : Nat} {q : List Y → Prop} {j : Nat} {v : Value} {H' : HMap} (l : List Y) (h : H' j = some (.row v el n (l.map enc))) (hq : q l) : FinF el n q (.own j v) H' := ⟨j, v, l, rfl, h, hq⟩
def WalkF (cc : CC) (rs : List CRes) (S : Nat → Spc) (A : Arg X) (pre : X → Prop) (post : X → List Y → Prop) (el n : Nat) : Prop :=
  ∀ x, pre x → vc S cc (retK rs fun r H' => FinF el n (post x) r H') (initS (A.view x)) noH
variable {P : Program} {S : Nat → Spc} {f : Nat} {im : List Nat} {cc : CC} {rs : List CRes} {N : Nat} {A : Arg X} {el n : Nat}

theorem tri_walkF {pre : X → Prop} {post : X → List Y → Prop} (hS : ∀ f, Tri P f (S f).pt) (h : FnOk P f im cc rs N) (hN : ∀ x, (A.view x).length ≤ N) (hw : WalkF cc rs S A pre post el n) : Tri P f (frC A pre post el n).pt := by
  obtain ⟨mix, enter, fn, code, h1, h2, h3, h4, h5⟩ := h
  refine tri_of_vc hS mix h1 h2 enter h3 h4 h5 ?_
  intro ds H d K hA
  rw [frC_pt] at hA
  cases hd : A.dec ds with
  | none => rw [hd] at hA; exact hA.elim
  | some x =>
    rw [hd] at hA
    obtain ⟨hp, hK⟩ := hA
    have hl := A.le ds x hd
    refine ⟨by rw [hl.1]; exact hN x, A.view x, noH, id, hl, fun i r h => by simp at h, fun i j r s h => by simp at h, _, hw x hp, ?_⟩
    rintro r H' ⟨j, v, l, rfl, hj, hpost⟩
    refine ⟨.own d v, noH, updH H d (some (.row v el n (l.map enc))), fun i => if i = d then some j else none, .own _ _ _, fun j q h => by simp at h, hK v l hpost, fun i s hi => ?_, fun i j' k s q hi hj' e1 e2 => ?_⟩
    · by_cases e : i = d
      · subst e
        simp only [updH, if_true] at hi
        cases hi
        simpa using hj
      · simp only [updH, e, if_false] at hi ⊢
        exact ⟨hi, fun k q h => by simp at h⟩
    · have a : i = d := by
        by_cases e : i = d
        · exact e
        · simp [e] at e1
      have b : j' = d := by
        by_cases e : j' = d
        · exact e
        · simp [e] at e2
      exact a.trans b.symm

end

/-! ### Function values -/
/-- An argument that is not read. -/
def aD {X : Type} (A : Arg X) : Arg (D × X) := ⟨fun ds => match ds with | d :: r => (A.dec r).map fun x => (d, x) | _ => none, fun x => x.1 :: A.view x.2, fun ds x h => by
  split at h
  · simp only [Option.map_eq_some_iff] at h
    obtain ⟨y, hy, rfl⟩ := h
    exact .cons (.same _) (A.le _ _ hy)
  · cases h⟩
def aE (X : Type) [Cod X] {Y : Type} (A : Arg Y) : Arg (X × Y) := ⟨fun ds => match ds with | d :: r => (dec d).bind fun x => (A.dec r).map fun y => (x, y) | _ => none, fun x => enc x.1 :: A.view x.2, fun ds x h => by
  split at h
  · simp only [Option.bind_eq_some_iff, Option.map_eq_some_iff] at h
    obtain ⟨x, hx, y, hy, rfl⟩ := h
    exact .cons (Cod.le _ _ hx) (A.le _ _ hy)
  · cases h⟩
@[simp] theorem aD_dec {X : Type} (A : Arg X) (d : D) (r : List D) : (aD A).dec (d :: r) = (A.dec r).map fun x => (d, x) := id rfl
@[simp] theorem aD_view {X : Type} (A : Arg X) (d : D) (x : X) : (aD A).view (d, x) = d :: A.view x := id rfl
@[simp] theorem aE_dec {X Y : Type} [Cod X] (A : Arg Y) (d : D) (r : List D) : (aE X A).dec (d :: r) = (dec d).bind fun x => (A.dec r).map fun y => (x, y) := id rfl
@[simp] theorem aE_view {X Y : Type} [Cod X] (A : Arg Y) (x : X) (y : Y) : (aE X A).view (x, y) = enc x :: A.view y := id rfl

/-- d is a function that gives p. -/
def FunIs {X Y : Type} [Cod X] [Cod Y] (S : Nat → Spc) (d : D) (p : X → Y) : Prop :=
  ∃ g caps pc, d = .clo g caps ∧ S g = .pure pc ∧ ∀ x : X, pc.pre (enc x :: caps) ∧ ∀ r, pc.post (enc x :: caps) r → r = enc (p x)

theorem FunIs.use' {X Y : Type} [Cod X] [Cod Y] {S : Nat → Spc} {d : D} {p : X → Y} (h : FunIs S d p) (x : X) (d' : Nat) (H : HMap) (K : D → HMap → Prop) (hk : ∀ y : Y, (∀ q, FunIs S d q → y = q x) → K (enc y) H) : callX S d d' [enc x] H K := by
  obtain ⟨g, caps, pc, rfl, h1, h2⟩ := h
  simp only [callX, h1, Spc.pt]
  refine ⟨(h2 x).1, fun r hr => ?_⟩
  have e := (h2 x).2 r hr
  rw [e]
  refine hk (p x) fun q hq => ?_
  obtain ⟨g', caps', pc', e', k1, k2⟩ := hq
  cases e'
  rw [h1] at k1
  cases k1
  exact enc_inj (e.symm.trans ((k2 x).2 r hr))
theorem FunIs.useB {X : Type} [Cod X] {S : Nat → Spc} {d : D} {p : X → Bool} (h : FunIs S d p) (x : X) {d' : Nat} {H : HMap} {K : D → HMap → Prop} (hk : ∀ y : Bool, (∀ q, FunIs S d q → y = q x) → K (.v (.bool y)) H) : callX S d d' [enc x] H K := h.use' x d' H K hk
/-! ### A function that only reads is handed a slice of the caller's own -/
def Flat (d : D) : Prop := ∀ (tp I tp' I' : Nat → Prop) (w w' : World) (x : Value), R tp I w x d → R tp' I' w' x d
theorem flat_v (v : Value) : Flat (.v v) := fun tp I tp' I' w w' x h => by
  cases h with
  | v _ h1 h2 => exact .v _ h1 h2
section
variable {X Y Z : Type} [Cod Y]
def bwPT (A : Arg X) (pre : List Y × X → Prop) (er : Z → D) (post : List Y × X → Z → Prop) (el n : Nat) : PT := fun d ds H K => ∃ id v l ds' x, ds = .own id v :: ds' ∧ A.dec ds' = some x ∧ H id = some (.row v el n (l.map enc)) ∧ pre (l, x) ∧ ∀ z, post (l, x) z → K (er z) H
theorem bw_mono (A : Arg X) (pre : List Y × X → Prop) (er : Z → D) (post : List Y × X → Z → Prop) (el n : Nat) : MonoPT (bwPT A pre er post el n) := fun d ds H K K' hk ⟨id, v, l, ds', x, h1, h2, h3, h4, h5⟩ => ⟨id, v, l, ds', x, h1, h2, h3, h4, fun z hz => hk _ _ (h5 z hz)⟩
def bwC (A : Arg X) (pre : List Y × X → Prop) (er : Z → D) (post : List Y × X → Z → Prop) (el n : Nat) : Spc := .gen _ (bw_mono A pre er post el n)
def bwX (A : Arg X) (pre : List Y × X → Prop) (er : Z → D) (post : List Y × X → Z → Prop) (el n : Nat) (v : Value) (ds : List D) (r : Option Res) (H : HMap) (K : D → HMap → Prop) : Prop := ∃ l, r = some (.row v el n (l.map enc)) ∧ optX (A.dec ds) fun x => pre (l, x) ∧ ∀ z, post (l, x) z → K (er z) H
@[congr] theorem bwX_cg {A : Arg X} {pre : List Y × X → Prop} {er : Z → D} {post : List Y × X → Z → Prop} {el n : Nat} {v : Value} {ds ds' : List D} {r r' : Option Res} {H : HMap} {K : D → HMap → Prop} (h1 : ds = ds') (h2 : r = r') : bwX A pre er post el n v ds r H K = bwX A pre er post el n v ds' r' H K := by subst h1; subst h2; rfl
@[simp] theorem bwC_pt (A : Arg X) (pre : List Y × X → Prop) (er : Z → D) (post : List Y × X → Z → Prop) (el n : Nat) (d i : Nat) (v : Value) (ds : List D) (H : HMap) (K : D → HMap → Prop) : (bwC A pre er post el n).pt d (.own i v :: ds) H K = bwX A pre er post el n v ds (H i) H K := by
  refine propext ⟨fun h => ?_, fun h => ?_⟩
  · obtain ⟨id, v, l, ds', x, h1, h2, h3, h4, h5⟩ := h
    cases h1
    refine ⟨l, h3, ?_⟩
    rw [h2]
    exact ⟨h4, h5⟩
  · obtain ⟨l, h1, h2⟩ := h
    cases hd : A.dec ds with
    | none => rw [hd] at h2; exact h2.elim
    | some x => rw [hd] at h2; exact ⟨i, v, l, ds, x, rfl, hd, h1, h2.1, h2.2⟩
@[simp] theorem bwX_r (A : Arg X) (pre : List Y × X → Prop) (er : Z → D) (post : List Y × X → Z → Prop) (el n : Nat) (v : Value) (ds : List D) (l : List Y) (H : HMap) (K : D → HMap → Prop) : bwX A pre er post el n v ds (some (.row v el n (l.map enc))) H K = optX (A.dec ds) fun x => pre (l, x) ∧ ∀ z, post (l, x) z → K (er z) H := by
  refine propext ⟨fun ⟨l', h1, h2⟩ => ?_, fun h => ⟨l, rfl, h⟩⟩
  simp at h1
  subst h1
  exact h2

theorem tri_borrow {P : Program} {f : Nat} {A : Arg X} {pre : List Y × X → Prop} {er : Z → D} {post : List Y × X → Z → Prop} {el n : Nat} (hf : Tri P f (spc (aE (List Y) A) pre er post).pt) (hn : n = Cod.wd Y) (hflat : ∀ z, Flat (er z)) : Tri P f (bwC A pre er post el n).pt := by
  intro O tp w vs ds H d K hO htl hsat hlen hargs hA
  obtain ⟨id, v, l, ds', x, rfl, hd, hid, hp, hK⟩ := hA
  subst hn
  cases vs with
  | nil => simp at hlen
  | cons v0 vs =>
    have hv0 : v0 = v := by
      have := hargs 0 v0 (.own id v) rfl rfl
      cases this; rfl
    subst hv0
    let O' : Nat → Prop := fun b => O b ∨ ∃ i r, i ≠ id ∧ H i = some r ∧ r.blk = some b
    have himm : ∀ b, Imm O tp H w b → Imm O' tp noH w b := fun b hb => ⟨hb.1, fun h => h.elim hb.2.1 fun ⟨i, r, _, h1, h2⟩ => hb.2.2.2 ⟨i, r, h1, h2⟩, hb.2.2.1, fun ⟨i, r, h1, _⟩ => by simp at h1⟩
    have hmv : ∀ y e, R tp (Imm O tp H w) w y e → R tp (Imm O' tp noH w) w y e := fun y e hr => hr.mono (fun _ h => h) (fun b hb => ⟨himm b hb, rfl⟩) (fun b _ => .refl _ _)
    have hl : R tp (Imm O' tp noH w) w v0 (.list (Cod.wd Y) (l.map enc)) := row_list (fun b hb => by
      have h1 := hsat.out id _ b hid hb
      refine ⟨(hsat.ok id _ hid).lt hb, fun h => h.elim h1.1 fun ⟨i, r, hne, h2, h3⟩ => hne (hsat.dis _ _ _ _ b h2 hid h3 hb), h1.2, fun ⟨i, r, h2, _⟩ => by simp at h2⟩) ((hsat.ok id _ hid).conv hmv (fun _ _ => rfl))
    have hdec : (aE (List Y) A).dec (.list (Cod.wd Y) (l.map enc) :: ds') = some (l, x) := by simp [hd]
    obtain ⟨hce, hc⟩ := hf O' tp w (v0 :: vs) (.list (Cod.wd Y) (l.map enc) :: ds') noH d (fun r H' => ∃ z, r = er z ∧ post (l, x) z ∧ H' = noH)
      (fun b hb => hb.elim (hO b) fun ⟨i, r, _, h1, h2⟩ => (hsat.ok i r h1).lt h2) htl ⟨fun i j r s b h => by simp at h, fun i r b h => by simp at h, fun i r h => by simp at h⟩ (by simpa using hlen)
      (fun k y e h1 h2 => by
        cases k with
        | zero => simp at h1 h2; subst h1; subst h2; exact hl
        | succ k => simp at h1 h2; exact hmv _ _ (hargs (k + 1) y e (by simpa using h1) (by simpa using h2)))
      (by rw [spc_pt, hdec]; exact ⟨hp, fun z hz => ⟨z, rfl, hz, rfl⟩⟩)
    refine ⟨hce, hc.mono ?_⟩
    rintro e w' ⟨q, r, H', tp', rfl, ⟨z, rfl, hz, rfl⟩, t1, t2, t3, hs, ho, hsat', hR⟩
    have hsame : ∀ b, b < w.heap.size → ¬ tp b → w'.heap[b]? = w.heap[b]? := fun b hb ht => hs.same b hb (fun ⟨i, r, h, _⟩ => by simp at h) ht
    have hmove : ∀ y e, R tp (Imm O tp H w) w y e → R tp' (Imm O tp' H w') w' y e := fun y e hr => hr.mono t1 (fun b hb => ⟨⟨Nat.lt_of_lt_of_le hb.1 hs.size, hb.2.1, fun h => by
      rcases t2 b h with h | h
      · exact hb.2.2.1 h
      · have := hb.1; omega, hb.2.2.2⟩, hsame b hb.1 hb.2.2.1⟩) hs.tapes
    refine ⟨q, er z, H, tp', rfl, hK z hz, t1, t2, t3, ⟨hs.os, hs.tape, hs.output, hs.size, fun b hb _ ht => hsame b hb ht, hs.tapes, hs.drawn⟩, fun b h => .inl h, ⟨hsat.dis, fun i r b h1 h2 => ?_, fun i r h1 => ?_⟩, hflat z _ _ _ _ _ _ _ hR⟩
    · have := hsat.out i r b h1 h2
      refine ⟨this.1, fun h => ?_⟩
      rcases t2 b h with h | h
      · exact this.2 h
      · have := (hsat.ok i r h1).lt h2; omega
    · exact (hsat.ok i r h1).conv hmove fun b hb => hsame b ((hsat.ok i r h1).lt hb) (hsat.out i r b h1 hb).2
end
end Go.Gv

namespace Go.Gv
set_option linter.unusedSimpArgs false
set_option linter.unusedVariables false

def RSub (r r' : Res) : Prop := r = r' ∨ ∃ b cs cs', r = .box b cs ∧ r' = .box b cs' ∧ cs.length = cs'.length ∧ ∀ (m : Nat) (c c' : D), cs[m]? = some c → cs'[m]? = some c' → Sub c c'
theorem RSub.blk {r r' : Res} (h : RSub r r') : r'.blk = r.blk := by
  rcases h with rfl | ⟨b, cs, cs', rfl, rfl, _⟩ <;> rfl
theorem RSub.ok {tp I : Nat → Prop} {w w' : World} {r r' : Res} (h : RSub r r') (hr : ResOk (R tp I w) w' r) : ResOk (R tp I w) w' r' := by
  rcases h with rfl | ⟨b, cs, cs', rfl, rfl, hl, hc⟩
  · exact hr
  · obtain ⟨xs, el, h1, h2, h3⟩ := hr
    refine ⟨xs, el, h1, h2.trans hl, fun k y c hy hc' => ?_⟩
    have hk : k < cs.length := by rw [hl]; exact (List.getElem?_eq_some_iff.1 hc').1
    have h4 := h3 k y cs[k] hy (List.getElem?_eq_getElem hk)
    exact ⟨h4.1, Sub_R (hc k _ _ (List.getElem?_eq_getElem hk) hc') h4.2⟩

section
variable {S : Nat → Spc} {σ σ1 : Sg} {H H1 : HMap} {K : Ex → Sg → HMap → Prop}
theorem vc_loopW {k : Nat} {b : CC} (hw : Wk σ H σ1 H1) (h : vc S (.loop k b) K σ1 H1) : vc S (.loop k b) K σ H := by
  rw [e_loop] at h ⊢
  obtain ⟨I, ⟨x, h1, h2⟩, h3⟩ := h
  exact ⟨I, ⟨x, h1, fun E a w hs => h2 E a w (hw E a w hs)⟩, h3⟩
theorem vc_rangeW {id i n c id2 i2 : Nat} {body : CC} (hw : Wk σ H σ1 H1) (h : vc S (rangeCC id i n c id2 body i2) K σ1 H1) : vc S (rangeCC id i n c id2 body i2) K σ H := by
  unfold rangeCC at h ⊢
  rw [e_block] at h ⊢
  exact vc_loopW hw h
end
end Go.Gv

namespace Go.Gv
set_option linter.unusedSimpArgs false
set_option linter.unusedVariables false
section
variable {X Y : Type}
def bxPT (ce : X → List D) (cf : Y → List D) (pre : X → Prop) (post : X → Y → Prop) : PT := fun d ds H K => ∃ L id b x, ds = [.tape L, .bptr id b 0] ∧ H id = some (.box b (ce x)) ∧ pre x ∧ ∀ y, post x y → K (.tup []) (updH H id (some (.box b (cf y))))
theorem bx_mono (ce : X → List D) (cf : Y → List D) (pre : X → Prop) (post : X → Y → Prop) : MonoPT (bxPT ce cf pre post) := fun d ds H K K' hk ⟨L, id, b, x, h1, h2, h3, h4⟩ => ⟨L, id, b, x, h1, h2, h3, fun y hy => hk _ _ (h4 y hy)⟩
def bxC (ce : X → List D) (cf : Y → List D) (pre : X → Prop) (post : X → Y → Prop) : Spc := .gen _ (bx_mono ce cf pre post)
def bxX (ce : X → List D) (cf : Y → List D) (pre : X → Prop) (post : X → Y → Prop) (id b : Nat) (r : Option Res) (H : HMap) (K : D → HMap → Prop) : Prop := ∃ x, r = some (.box b (ce x)) ∧ pre x ∧ ∀ y, post x y → K (.tup []) (updH H id (some (.box b (cf y))))
@[congr] theorem bxX_cg {ce : X → List D} {cf : Y → List D} {pre : X → Prop} {post : X → Y → Prop} {id b : Nat} {r r' : Option Res} {H : HMap} {K : D → HMap → Prop} (h : r = r') : bxX ce cf pre post id b r H K = bxX ce cf pre post id b r' H K := by subst h; rfl
@[simp] theorem bxC_pt (ce : X → List D) (cf : Y → List D) (pre : X → Prop) (post : X → Y → Prop) (d i b : Nat) (L : List Int) (H : HMap) (K : D → HMap → Prop) : (bxC ce cf pre post).pt d [.tape L, .bptr i b 0] H K = bxX ce cf pre post i b (H i) H K := by
  refine propext ⟨fun h => ?_, fun h => ?_⟩
  · obtain ⟨L', id, b', x, h1, h2, h3, h4⟩ := h
    cases h1
    exact ⟨x, h2, h3, h4⟩
  · obtain ⟨x, h1, h2, h3⟩ := h
    exact ⟨L, i, b, x, rfl, h1, h2, h3⟩

variable {P : Program} {S : Nat → Spc} {f : Nat} {im : List Nat} {cc : CC} {rs : List CRes} {N : Nat}
end
end Go.Gv

namespace Go.Gv
set_option linter.unusedSimpArgs false
set_option linter.unusedVariables false
def HWk (H H2 : HMap) : Prop := ∀ (E : Env) (tp : Nat → Prop) (w : World), StW E tp H w → StW E tp H2 w ∧ ∀ x d, R tp (Imm E.O tp H w) w x d → R tp (Imm E.O tp H2 w) w x d
theorem HWk.refl (H : HMap) : HWk H H := fun _ _ _ h => ⟨h, fun _ _ h => h⟩
theorem Wk.trans {σ σ1 σ2 : Sg} {H H1 H2 : HMap} (h : Wk σ H σ1 H1) (k : Wk σ1 H1 σ2 H2) : Wk σ H σ2 H2 := fun E a w hs => k E a w (h E a w hs)

def left (k b : Nat) (cs : List D) (ks : List Nat) (H : HMap) : HMap := fun i => if i = k then some (.box b cs) else if i ∈ ks then H i else none
section
variable {S : Nat → Spc} {σ : Sg} {H : HMap} {K : Ex → Sg → HMap → Prop}
/-- Two pieces of text, with what is known between them. -/
theorem vc_midW {X : Type} (P : X → Prop) (s : X → Sg) (h : X → HMap) {k : Nat} {a b : CC}
    (ha : vc S a (midK (fun σ' H' => ∃ x, P x ∧ Wk σ' H' (s x) (h x)) K) σ H)
    (hb : ∀ x, P x → vc S b K (s x) (h x)) : vc S (seqM k a b) K σ H := by
  unfold seqM
  rw [e_seq]
  refine vc_mono a _ _ (fun e σ' H' h => ?_) ha
  cases e with
  | norm =>
    obtain ⟨x, h1, h2⟩ := h
    rw [e_seqn, e_cut]
    exact ⟨_, _, h2, hb x h1⟩
  | ex i => exact h
  | ret => exact h
end
section
variable {P : Program} {im : List Nat} {E : Env} {S : Nat → Spc}
end
end Go.Gv

namespace Go.Gv
set_option linter.unusedSimpArgs false
set_option linter.unusedVariables false
set_option maxRecDepth 100000
open Cod (enc dec)
variable {S S0 : Nat → Spc}
theorem modI_rng (x n : Int) (h : 1 ≤ n) : 0 ≤ modI x n ∧ modI x n < n := by
  unfold modI
  rw [if_neg (by omega)]
  have h1 := Int.tmod_lt_of_pos x (show 0 < n by omega)
  have h2 : -n < x.tmod n := by
    have h3 := Int.natAbs_tmod x n
    have h4 : x.natAbs % n.natAbs < n.natAbs := Nat.mod_lt _ (by omega)
    omega
  split <;> omega
def nx0 : CC := .reg [
    .op (some 4) none (.mv (.const (.int .i64 0)))]
def nxA : CC := .seq (.regd [
    .op (some 5) none (.mv (.tmp 0)),
    .op (some 6) none (.nilck (.tmp 5)),
    .op (some 7) none (.faddr 1 (.tmp 6)),
    .op (some 8) none (.load false 1 (.tmp 7)),
    .op (some 9) none (.mv (.tmp 0)),
    .op (some 10) none (.nilck (.tmp 9)),
    .op (some 11) none (.faddr 0 (.tmp 10)),
    .op (some 12) none (.load false 1 (.tmp 11)),
    .op (some 13) none (.len (.tmp 12))] [
    .op (some 14) none (.cmp .geq (.tmp 8) (.tmp 13))]) (.ite (.tmp 14) (.seq (.reg [
      .op (some 4) none (.mv (.const (.int .i64 0)))]) .ret) .skip)
def nxB : CC := .reg [
    .op (some 15) none (.mv (.tmp 0)),
    .op (some 16) none (.nilck (.tmp 15)),
    .op (some 17) none (.faddr 1 (.tmp 16)),
    .op (some 18) none (.load false 1 (.tmp 17)),
    .op (some 19) none (.arith .add (.tmp 18) (.const (.int .i64 1))),
    .op (some 20) none (.nilck (.tmp 15)),
    .op (some 21) none (.faddr 1 (.tmp 20)),
    .op none none (.store none 1 (.tmp 21) (.tmp 19))]
def nxC : CC := .seq (.regd [
    .op (some 22) none (.mv (.tmp 0)),
    .op (some 23) none (.nilck (.tmp 22)),
    .op (some 24) none (.faddr 0 (.tmp 23)),
    .op (some 25) none (.load false 1 (.tmp 24)),
    .op (some 26) none (.mv (.tmp 0)),
    .op (some 27) none (.nilck (.tmp 26)),
    .op (some 28) none (.faddr 1 (.tmp 27)),
    .op (some 29) none (.load false 1 (.tmp 28)),
    .op (some 30) none (.arith .sub (.tmp 29) (.const (.int .i64 1))),
    .op (some 31) none (.iaddr 1 (.tmp 25) (.tmp 30)),
    .op (some 32) none (.load false 1 (.tmp 31)),
    .op (some 33) none (.mv (.tmp 1))] [
    .op (some 34) none (.call f_m_Mod [(.tmp 32), (.tmp 33)]),
    .op (some 4) none (.mv (.tmp 34))]) .ret
theorem nx_strip : strip cc_m_Tape_Next = .seq nx0 (.seq nxA (.seq nxB nxC)) := rfl
theorem nx0_s : strip nx0 = nx0 := rfl
theorem nxA_s : strip nxA = nxA := rfl
theorem nxB_s : strip nxB = nxB := rfl
theorem nxC_s : strip nxC = nxC := rfl

def nxK (b : Nat) (s : Value) (i n : Int) : Ex → Sg → HMap → Prop := fun e σ H => match e with
  | .norm => σ 0 = .bptr 0 b 0 ∧ σ 1 = .v (.int .i64 n) ∧ H 0 = some (.box b [.v s, .v (.int .i64 (i + 1))]) ∧ i < slen s
  | .ret => σ 4 = .v (.int .i64 0) ∧ H 0 = some (.box b [.v s, .v (.int .i64 i)])
  | .ex _ => False
@[simp ↓] theorem nxK_n (b : Nat) (s : Value) (i n : Int) (σ : Sg) (H : HMap) : nxK b s i n .norm σ H = (σ 0 = .bptr 0 b 0 ∧ σ 1 = .v (.int .i64 n) ∧ H 0 = some (.box b [.v s, .v (.int .i64 (i + 1))]) ∧ i < slen s) := id rfl
@[simp ↓] theorem nxK_r (b : Nat) (s : Value) (i n : Int) (σ : Sg) (H : HMap) : nxK b s i n .ret σ H = (σ 4 = .v (.int .i64 0) ∧ H 0 = some (.box b [.v s, .v (.int .i64 i)])) := id rfl
theorem nx_head (b : Nat) (a : Option Addr) (len cap : Nat) (i n : Int) (h0 : 0 ≤ i) (hl : (len : Int) ≤ 9223372036854775807) : vc S (.seq nx0 (.seq nxA nxB)) (nxK b (.slice a len cap) i n) (initS [.bptr 0 b 0, .v (.int .i64 n)]) (updH noH 0 (some (.box b [.v (.slice a len cap), .v (.int .i64 i)]))) := by
  simp [nx0, nxA, nxB, slen]
  intro h
  exact ⟨by simp only [InR]; omega, h⟩
def nxR (n : Int) : Ex → Sg → HMap → Prop := fun e σ H => match e with
  | .ret => ∃ y, σ 4 = .v (.int .i64 y) ∧ (n < 1 ∧ y = 0 ∨ 1 ≤ n ∧ 0 ≤ y ∧ y < n)
  | _ => False
@[simp ↓] theorem nxR_r (n : Int) (σ : Sg) (H : HMap) : nxR n .ret σ H = (∃ y, σ 4 = .v (.int .i64 y) ∧ (n < 1 ∧ y = 0 ∨ 1 ≤ n ∧ 0 ≤ y ∧ y < n)) := id rfl
theorem nx_tail (hm : S f_m_Mod = s_m_Mod) (L : List Int) (i n : Int) (h0 : 0 ≤ i) (hi : i < L.length) (hn : n ≤ 1000000000) (hl : (L.length : Int) ≤ 9223372036854775807) : vc S nxC (nxR n) (initS [.cptr [.list 1 (L.map enc), .v (.int .i64 (i + 1))] 0, .v (.int .i64 n)]) noH := by
  obtain ⟨x, hx⟩ := at_lt (l := L) (k := i.toNat) (by omega)
  simp [nxC, hm]
  refine ⟨by simp only [InR]; omega, h0, hi, fun a _ => ⟨hn, ?_⟩⟩
  rcases Int.lt_or_le n 1 with h | h
  · exact .inl ⟨h, by simp [modI, h]⟩
  · exact .inr ⟨h, modI_rng a n h⟩
end Go.Gv

namespace Go.Gv
set_option linter.unusedSimpArgs false
set_option linter.unusedVariables false
open Cod (enc dec)

theorem list_flatR {tp I tp' I' : Nat → Prop} {w w' : World} {s : Value} {es : List D} (hes : ∀ d ∈ es, ∃ n, d = .v (.int .i64 n)) (h : R tp I w s (.list 1 es)) (hI : ∀ c, I c → I' c ∧ w'.heap[c]? = w.heap[c]?) : R tp' I' w' s (.list 1 es) := by
  cases h with
  | nolist a cap _ => exact .nolist _ _ _
  | list b off cap n es f hb hc hm hn hcell h1 h2 =>
    refine .list b off cap _ es f (hI b hb).1 hc hm hn (fun k c hk => by rw [World.cell?_of_block (w := w) (hI b hb).2]; exact hcell k c hk) h1 (fun k c hk => ?_)
    have hc' := List.mem_of_getElem? hk
    simp only [flat, List.mem_flatMap] at hc'
    obtain ⟨d, hd, hcd⟩ := hc'
    obtain ⟨n, rfl⟩ := hes d hd
    simp [D.cells] at hcd
    subst hcd
    have := h2 k _ hk
    generalize f k = y at this ⊢
    cases this with
    | v _ a1 a2 => exact .v _ a1 a2

theorem comp_seq {P : Program} {im : List Nat} {N : Nat} {code : Code} {a b : CC} (h : compileC P im N code = some (.seq a b)) : ∃ x y, code = .seq x y ∧ compileC P im N x = some a ∧ compileC P im N y = some b := by
  rcases compile_inv h with ⟨h, _⟩ | ⟨_, _, _, _, h, _⟩ | ⟨_, _, _, _, _, h⟩ | ⟨a', b', x, y, h1, h2, h3, h4⟩ | ⟨_, _, _, _, _, _, h, _⟩ | ⟨_, _, _, _, h, _⟩ | ⟨_, _, _, h, _⟩ | ⟨_, _, h⟩ | ⟨_, h⟩ <;> try (simp at h; done)
  cases h2
  exact ⟨a', b', h1, h3, h4⟩

abbrev s_m_Next : Spc := spc (aT (a1 Int)) (fun x => x.2 ≤ 1000000000) (enc (X := Int)) (fun x y => x.2 < 1 ∧ y = 0 ∨ 1 ≤ x.2 ∧ 0 ≤ y ∧ y < x.2)

section
variable {P : Program} {S : Nat → Spc} {f : Nat} {im : List Nat} {N : Nat}
theorem tri_next (hS : ∀ f, Tri P f (S f).pt) (hm : S f_m_Mod = s_m_Mod) (h : FnOk P f im cc_m_Tape_Next rs_m_Tape_Next N) (hN : 2 ≤ N) : Tri P f s_m_Next.pt := by
  obtain ⟨mix, enter, fn, code, h1, h2, h3, h4, h5⟩ := h
  subst h3
  rw [nx_strip] at h4
  obtain ⟨x0, y0, rfl, hc0, h4⟩ := comp_seq h4
  obtain ⟨xA, yA, rfl, hcA, h4⟩ := comp_seq h4
  obtain ⟨xB, xC, rfl, hcB, hcC⟩ := comp_seq h4
  intro O tp w vs ds H d K hO htl hsat hlen hargs hA
  refine ⟨enter, calls_of_wp h1 h2 ?_⟩
  simp only [s_m_Next, spc_pt] at hA
  cases hd : (aT (a1 Int)).dec ds with
  | none => rw [hd] at hA; exact hA.elim
  | some x =>
  rw [hd] at hA
  obtain ⟨L, n⟩ := x
  obtain ⟨hp, hK⟩ := hA
  have hl := (aT (a1 Int)).le ds (L, n) hd
  have hl1 : ds.length = 2 := hl.1
  match ds, vs, hl, hl1, hlen, hargs with
  | [d0, d1], [v0, v1], hl, _, _, hargs =>
  have e0 : d0 = .tape L := by
    have := hl.2 0 d0 (.tape L) rfl rfl
    cases this; rfl
  have e1 : d1 = .v (.int .i64 n) := by
    have := hl.2 1 d1 (.v (.int .i64 n)) rfl rfl
    cases this; rfl
  subst e0; subst e1
  have r1 := (hargs 1 v1 _ rfl rfl).inv_v
  subst r1
  have r0 := hargs 0 v0 _ rfl rfl
  cases r0 with
  | tape b _ s i el hb hh g0 g1 gs hR =>
  obtain ⟨a, len, cap, rfl⟩ : ∃ a len cap, s = .slice a len cap := by
    generalize L.map (fun n => D.v (.int .i64 n)) = es at hR
    cases hR <;> exact ⟨_, _, _, rfl⟩
  have hlen : (len : Int) ≤ 9223372036854775807 := by
    generalize L.map (fun n => D.v (.int .i64 n)) = es at hR
    cases hR with
    | nolist => simp
    | list b off cap n es f hI hc hm => simp only [maxLen] at hm; omega
  have hLl : len = L.length := gs
  have hbl := htl b hb
  -- the first piece: the tape's memory is the frame's own
  let O2 : Nat → Prop := fun x => (O x ∨ owns H x) ∧ x ≠ b
  let tp2 : Nat → Prop := fun x => tp x ∧ x ≠ b
  let E2 : Env := { O := O2, tp0 := tp2, w0 := w, own0 := fun x => x = b, N := fn.ntmps }
  let H2 : HMap := updH noH 0 (some (.box b [.v (.slice a len cap), .v (.int .i64 i)]))
  have hownlt : ∀ c, owns H c → c < w.heap.size := fun c ⟨j, r, k1, k2⟩ => (hsat.ok j r k1).lt k2
  have h2 : ∀ j r, H2 j = some r → j = 0 ∧ r = .box b [.v (.slice a len cap), .v (.int .i64 i)] := fun j r hj => by
    by_cases e : j = 0
    · subst e
      simp only [H2, updH, if_true] at hj
      cases hj
      exact ⟨rfl, rfl⟩
    · simp [H2, updH, e, noH] at hj
  have hst : St E2 (initS [.bptr 0 b 0, .v (.int .i64 n)]) H2 { tmps := #[.pointer (some ⟨b, 0, none⟩), .int .i64 n] ++ Array.replicate (fn.ntmps - 2) undef, defers := [] } w := by
    refine ⟨rfl, ?_, tp2, ⟨fun c hc => hc.1.elim (hO c) (hownlt c), fun c hc => hc, fun c hc => .inl hc, fun c hc => htl c hc.1, .refl _ _ _, fun c ⟨j, r, k1, k2⟩ => ?_, ⟨fun j k r q c k1 k2 k3 k4 => ?_, fun j r c k1 k2 => ?_, fun j r k1 => ?_⟩⟩, fun t => ?_⟩
    · show (_ : Array Value).size = fn.ntmps
      simp
      omega
    · obtain ⟨_, rfl⟩ := h2 j r k1
      cases k2
      exact .inl rfl
    · rw [(h2 j r k1).1, (h2 k q k2).1]
    · obtain ⟨_, rfl⟩ := h2 j r k1
      cases k2
      exact ⟨fun h => h.2 rfl, fun h => h.2 rfl⟩
    · obtain ⟨_, rfl⟩ := h2 j r k1
      refine ⟨_, el, hh, rfl, fun k y c hy hc => ?_⟩
      rcases k with _ | _ | k
      · simp at hy hc; subst hy; subst hc; exact ⟨rfl, .v _ rfl (fun s hs => by cases hs)⟩
      · simp at hy hc; subst hy; subst hc; exact ⟨rfl, .v _ rfl (fun s hs => by cases hs)⟩
      · simp at hy
    · have q0 : (#[Value.pointer (some ⟨b, 0, none⟩), .int .i64 n] ++ Array.replicate (fn.ntmps - 2) undef).getD 0 undef = Value.pointer (some ⟨b, 0, none⟩) := by
        rw [Array.getD_eq_getD_getElem?, Array.getElem?_append_left (by simp)]; rfl
      have q1 : (#[Value.pointer (some ⟨b, 0, none⟩), .int .i64 n] ++ Array.replicate (fn.ntmps - 2) undef).getD 1 undef = Value.int .i64 n := by
        rw [Array.getD_eq_getD_getElem?, Array.getElem?_append_left (by simp)]; rfl
      rcases t with _ | _ | t
      · show R _ _ _ (Array.getD _ 0 undef) _
        rw [q0]; exact .bptr _ _ _
      · show R _ _ _ (Array.getD _ 1 undef) _
        rw [q1]; exact .v _ rfl (fun s hs => by cases hs)
      · exact .any _
  -- what is known when the frame has left the tape's place at j
  have fin : ∀ (w2 : World) (j y : Int) (el' : Nat), w2.os = w.os → w2.tape = w.tape → w2.output = w.output → w.heap.size ≤ w2.heap.size → (∀ c, c < w.heap.size → ¬ tp c → w2.heap[c]? = w.heap[c]?) →
      (∀ c, tp c → c ≠ b → TapeStep w w2 c) → w2.heap[b]? = some (.cells #[.slice a len cap, .int .i64 j] el' (0, 0)) → 0 ≤ j → j ≤ len → w.drawn ≤ w2.drawn →
      (n < 1 ∧ y = 0 ∨ 1 ≤ n ∧ 0 ≤ y ∧ y < n) → Left O tp H w K (.returned (.int .i64 y)) w2 := by
    intro w2 j y el' s1 s2 s3 s4 s5 s6 s7 s8 s9 s11 s10
    have htapes : ∀ c, tp c → TapeStep w w2 c := fun c hc => by
      by_cases e : c = b
      · subst e
        intro s' i' el0 hh' _ _
        rw [hh] at hh'
        cases hh'
        exact ⟨j, el', s7, s8, s9⟩
      · exact s6 c hc e
    refine ⟨_, .v (.int .i64 y), H, tp, rfl, hK y s10, fun c hc => hc, fun c hc => .inl hc, fun c hc => Nat.lt_of_lt_of_le (htl c hc) s4, ⟨s1, s2, s3, s4, fun c hc _ ht => s5 c hc ht, htapes, s11⟩, fun c hc => .inl hc,
      ⟨hsat.dis, hsat.out, fun k r hk => (hsat.ok k r hk).conv (fun x d hr => hr.mono (fun _ h => h) (fun c hc => ⟨⟨Nat.lt_of_lt_of_le hc.1 s4, hc.2.1, hc.2.2.1, hc.2.2.2⟩, s5 c hc.1 hc.2.2.1⟩) htapes) (fun c hc => s5 c ((hsat.ok k r hk).lt hc) (hsat.out k r c hk hc).2)⟩, .v _ rfl (fun s hs => by cases hs)⟩
  have hv := nx_head (S := S) b a len cap i n g0 hlen
  have cells2 : ∀ (tp' : Nat → Prop) (H' : HMap) (w' : World) (j : Int), StW E2 tp' H' w' → H' 0 = some (.box b [.v (.slice a len cap), .v (.int .i64 j)]) → ∃ el', w'.heap[b]? = some (.cells #[.slice a len cap, .int .i64 j] el' (0, 0)) := by
    intro tp' H' w' j hw hH
    obtain ⟨xs, el', k1, k2, k3⟩ := hw.sat.ok 0 _ hH
    refine ⟨el', ?_⟩
    rw [k1]
    obtain ⟨l⟩ := xs
    match l, k2, k3 with
    | [x, y], _, k3 =>
      have a1 := (k3 0 x _ rfl rfl).2.inv_v
      have a2 := (k3 1 y _ rfl rfl).2.inv_v
      rw [a1, a2]
  have hret : ∀ (a' : Act) (w' : World) (σ' : Sg) (H' : HMap), St E2 σ' H' a' w' → nxK b (.slice a len cap) i n .ret σ' H' → a'.defers = [] ∧ ∃ v, (results fn a'.tmps).run P w' = .ok v w' ∧ Left O tp H w K (.returned v) w' := by
    rintro a' w' σ' H' ⟨hd', hN', tp', hw', hr'⟩ ⟨k1, k2⟩
    obtain ⟨v, r0, hrun, hRv, hq⟩ := results_sound (H := H') (K := fun r => r = .v (.int .i64 0)) h5 hr' hw'.sat.ok k1
    subst hq
    have := hRv.inv_v
    subst this
    obtain ⟨el', k3⟩ := cells2 tp' H' w' i hw' k2
    have st := hw'.step
    refine ⟨hd', _, hrun, fin w' i 0 el' st.os st.tape st.output st.size (fun c hc ht => st.same c hc (fun e => ht (e ▸ hb)) (fun h => ht h.1)) (fun c hc hcb => st.tapes c ⟨hc, hcb⟩) k3 g0 g1 st.drawn ?_⟩
    rcases Int.lt_or_le n 1 with h | h
    · exact .inl ⟨h, rfl⟩
    · exact .inr ⟨h, by omega, by omega⟩
  have htail : ∀ (a' : Act) (w' : World) (σ' : Sg) (H' : HMap), St E2 σ' H' a' w' → nxK b (.slice a len cap) i n .norm σ' H' → xC.wp P (bodyPost P fn (Left O tp H w K)) a' w' := by
    rintro a1 w1 σ1 H1 ⟨hd1, hN1, tp1, hw1, hr1⟩ ⟨k1, k2, k3, k4⟩
    obtain ⟨el1, k5⟩ := cells2 tp1 H1 w1 (i + 1) hw1 k3
    have st1 := hw1.step
    have hsz1 : w.heap.size ≤ w1.heap.size := st1.size
    have same1 : ∀ c, c < w.heap.size → ¬ tp c → w1.heap[c]? = w.heap[c]? := fun c hc ht => st1.same c hc (fun e => ht (e ▸ hb)) (fun h => ht h.1)
    have tp1o : ∀ c, c < w.heap.size → tp1 c → tp2 c := fun c hc h => (hw1.tpn c h).elim id (fun h => by
      have h : w.heap.size ≤ c := h
      omega)
    have hb1 : ¬ tp1 b := fun h => (tp1o b hbl h).2 rfl
    let E3 : Env := { O := O2, tp0 := tp1, w0 := w1, own0 := fun _ => False, N := fn.ntmps }
    have himm : ∀ c, Imm O tp H w c → Imm O2 tp1 noH w1 c ∧ w1.heap[c]? = w.heap[c]? := fun c hc => ⟨⟨Nat.lt_of_lt_of_le hc.1 hsz1, fun h => h.1.elim hc.2.1 hc.2.2.2, fun h => hc.2.2.1 (tp1o c hc.1 h).1, fun ⟨j, r, h, _⟩ => by simp [noH] at h⟩, same1 c hc.1 hc.2.2.1⟩
    have hbi : Imm O2 tp1 noH w1 b := ⟨Nat.lt_of_lt_of_le hbl hsz1, fun h => h.2 rfl, hb1, fun ⟨j, r, h, _⟩ => by simp [noH] at h⟩
    have hRs : R tp1 (Imm O2 tp1 noH w1) w1 (.slice a len cap) (.list 1 (L.map enc)) := list_flatR (es := L.map fun n => D.v (.int .i64 n)) (fun d hd => by simp at hd; obtain ⟨n, _, rfl⟩ := hd; exact ⟨n, rfl⟩) hR himm
    have st3 : St E3 (initS [.cptr [.list 1 (L.map enc), .v (.int .i64 (i + 1))] 0, .v (.int .i64 n)]) noH a1 w1 := by
      refine ⟨hd1, hN1, tp1, ⟨fun c hc => Nat.lt_of_lt_of_le (hc.1.elim (hO c) (hownlt c)) hsz1, fun c hc => hc, fun c hc => .inl hc, hw1.tpl, .refl _ _ _, fun c ⟨j, r, k1, k2⟩ => by simp [noH] at k1, ⟨fun j k r q c k1 k2 k3 k4 => by simp [noH] at k1, fun j r c k1 k2 => by simp [noH] at k1, fun j r k1 => by simp [noH] at k1⟩⟩, fun t => ?_⟩
      rcases t with _ | _ | t
      · have r0 := hr1 0
        rw [k1] at r0
        generalize a1.tmps.getD 0 undef = v0 at r0 ⊢
        cases r0
        obtain ⟨f, q1, q2, q3⟩ := box_cells (tp := tp1) (I := Imm O2 tp1 noH w1) (w := w1) (cells := [.list 1 (L.map enc), .v (.int .i64 (i + 1))]) k5 rfl (by
          intro k y c hy hc
          rcases k with _ | _ | k
          · simp at hy hc; subst hy; subst hc; exact ⟨rfl, by simpa using hRs⟩
          · simp at hy hc; subst hy; subst hc; exact ⟨rfl, .v _ rfl (fun s hs => by cases hs)⟩
          · simp at hy)
        have := Gv.R.cptr (tp := tp1) (I := Imm O2 tp1 noH w1) b 0 [.list 1 (L.map enc), .v (.int .i64 (i + 1))] 0 f hbi q1 q2 q3
        simpa [initS] using this
      · have r0 := hr1 1
        rw [k2] at r0
        have := r0.inv_v
        show R _ _ _ _ (.v (.int .i64 n))
        rw [this]
        exact .v _ rfl (fun s hs => by cases hs)
      · exact .any _
    have hv3 := nx_tail (S := S) hm L i n g0 (by have : i < (len : Int) := k4; omega) hp (by omega)
    refine Code.wp_mono ?_ (vc_sound (E := E3) hS mix nxC xC (by rw [nxC_s]; exact hcC) _ _ _ _ _ st3 hv3)
    intro e a2 w2 hp2
    cases e with
    | ret =>
      obtain ⟨σ2, H2', ⟨hd2, hN2, tp2', hw2, hr2⟩, y, k6, k7⟩ := hp2
      obtain ⟨v, r0, hrun, hRv, hq⟩ := results_sound (H := H2') (K := fun r => r = .v (.int .i64 y)) h5 hr2 hw2.sat.ok k6
      subst hq
      have := hRv.inv_v
      subst this
      have st2 := hw2.step
      have hsz2 : w1.heap.size ≤ w2.heap.size := st2.size
      have same2 : ∀ c, c < w1.heap.size → ¬ tp1 c → w2.heap[c]? = w1.heap[c]? := fun c hc ht => st2.same c hc (fun h => h) ht
      refine ⟨hd2, _, hrun, fin w2 (i + 1) y el1 (st2.os.trans st1.os) (st2.tape.trans st1.tape) (st2.output.trans st1.output) (Nat.le_trans hsz1 hsz2) (fun c hc ht => ?_) (fun c hc hcb => (st1.tapes c ⟨hc, hcb⟩).trans (st2.tapes c (hw1.tpx c ⟨hc, hcb⟩))) ?_ (by omega) (by have : i < (len : Int) := k4; omega) (Nat.le_trans st1.drawn st2.drawn) k7⟩
      · rw [same2 c (by omega) (fun h => ht (tp1o c hc h).1), same1 c hc ht]
      · rw [same2 b (by omega) hb1, k5]
    | normal => obtain ⟨σ2, H2', _, k⟩ := hp2; exact k.elim
    | exit j => obtain ⟨σ2, H2', _, k⟩ := hp2; exact k.elim
    | goto l => exact hp2.elim
    | panic c => exact hp2.elim
    | outgrown => exact hp2.elim
  refine wp_seq (Code.wp_mono ?_ (vc_sound (E := E2) hS mix nx0 x0 (by rw [nx0_s]; exact hc0) (seqK S (.seq nxA nxB) (nxK b (.slice a len cap) i n)) _ _ _ _ hst hv))
  intro e a1 w1 hp1
  cases e with
  | normal =>
    obtain ⟨σ1, H1, st1, k1⟩ := hp1
    refine wp_seq (Code.wp_mono ?_ (vc_sound (E := E2) hS mix nxA xA (by rw [nxA_s]; exact hcA) (seqK S nxB (nxK b (.slice a len cap) i n)) _ _ _ _ st1 k1))
    intro e a1 w1 hp1
    cases e with
    | normal =>
      obtain ⟨σ1, H1, st1, k1⟩ := hp1
      refine wp_seq (Code.wp_mono ?_ (vc_sound (E := E2) hS mix nxB xB (by rw [nxB_s]; exact hcB) (nxK b (.slice a len cap) i n) _ _ _ _ st1 k1))
      intro e a1 w1 hp1
      cases e with
      | normal => obtain ⟨σ1, H1, st1, k1⟩ := hp1; exact htail a1 w1 σ1 H1 st1 k1
      | ret => obtain ⟨σ1, H1, st1, k1⟩ := hp1; exact hret a1 w1 σ1 H1 st1 k1
      | exit j => obtain ⟨σ2, H2', _, k⟩ := hp1; exact k.elim
      | goto l => exact hp1.elim
      | panic c => exact hp1.elim
      | outgrown => exact hp1.elim
    | ret => obtain ⟨σ1, H1, st1, k1⟩ := hp1; exact hret a1 w1 σ1 H1 st1 k1
    | exit j => obtain ⟨σ2, H2', _, k⟩ := hp1; exact k.elim
    | goto l => exact hp1.elim
    | panic c => exact hp1.elim
    | outgrown => exact hp1.elim
  | ret => obtain ⟨σ1, H1, st1, k1⟩ := hp1; exact hret a1 w1 σ1 H1 st1 k1
  | exit j => obtain ⟨σ2, H2', _, k⟩ := hp1; exact k.elim
  | goto l => exact hp1.elim
  | panic c => exact hp1.elim
  | outgrown => exact hp1.elim
end
end Go.Gv

namespace Go.Gv
set_option linter.unusedSimpArgs false
set_option linter.unusedVariables false
set_option maxRecDepth 100000
open Cod (enc dec)
def tpBox (b : Nat) (L : List Int) : Res := .box b [.list 1 (L.map enc), .v (.int .i64 0)]
def fbPT : PT := fun d ds H K => ∃ l, (a1 (List Int)).dec ds = some l ∧ ∀ b L, K (.bptr d b 0) (updH H d (some (tpBox b L)))
def WalkFB (cc : CC) (rs : List CRes) (S : Nat → Spc) : Prop :=
  ∀ l : List Int, vc S cc (retK rs fun r H' => ∃ j b L, r = .bptr j b 0 ∧ H' j = some (tpBox b L)) (initS [enc l]) noH
section
variable {P : Program} {S : Nat → Spc} {f : Nat} {im : List Nat} {cc : CC} {rs : List CRes} {N : Nat}
theorem tri_walkFB (hS : ∀ f, Tri P f (S f).pt) (h : FnOk P f im cc rs N) (hN : 1 ≤ N) (hw : WalkFB cc rs S) : Tri P f fbPT := by
  obtain ⟨mix, enter, fn, code, h1, h2, h3, h4, h5⟩ := h
  refine tri_of_vc hS mix h1 h2 enter h3 h4 h5 ?_
  rintro ds H d K ⟨l, hd, hK⟩
  have hl := (a1 (List Int)).le ds l hd
  refine ⟨by rw [hl.1]; exact hN, _, noH, fun _ => 0, hl, fun i r h => by simp [noH] at h, fun i j r s h => by simp [noH] at h, _, hw l, ?_⟩
  rintro r H' ⟨j, b, L, rfl, hj⟩
  refine ⟨.bptr d b 0, noH, updH H d (some (tpBox b L)), fun i => if i = d then some j else none, .bptr _ _ _ _, fun j q h => by simp [noH] at h, hK b L, fun i s hi => ?_, fun i j' k s q hi hj' e1 e2 => ?_⟩
  · by_cases e : i = d
    · subst e
      simp only [updH, if_true] at hi
      cases hi
      simpa using hj
    · simp only [updH, e, if_false] at hi ⊢
      exact ⟨hi, fun k q h => by simp [noH] at h⟩
  · have a : i = d := by
      by_cases e : i = d
      · exact e
      · simp [e] at e1
    have b : j' = d := by
      by_cases e : j' = d
      · exact e
      · simp [e] at e2
    exact a.trans b.symm

abbrev s_m_New : Spc := spc (a1 (List Int)) (fun _ => True) (fun L : List Int => D.tape L) (fun _ _ => True)
theorem tri_new (hf : Tri P f fbPT) : Tri P f s_m_New.pt := by
  intro O tp w vs ds H d K hO htl hsat hlen hargs hA
  simp only [s_m_New, spc_pt] at hA
  cases hd : (a1 (List Int)).dec ds with
  | none => rw [hd] at hA; exact hA.elim
  | some l =>
  rw [hd] at hA
  obtain ⟨_, hK⟩ := hA
  have hownlt : ∀ c, owns H c → c < w.heap.size := fun c ⟨j, r, k1, k2⟩ => (hsat.ok j r k1).lt k2
  have hno : ∀ c, ¬ owns noH c := fun c ⟨j, r, h, _⟩ => by simp [noH] at h
  have himm : ∀ c, Imm O tp H w c → Imm (fun c => O c ∨ owns H c) tp noH w c := fun c hc => ⟨hc.1, fun h => h.elim hc.2.1 hc.2.2.2, hc.2.2.1, hno c⟩
  obtain ⟨c1, c2⟩ := hf (fun c => O c ∨ owns H c) tp w vs ds noH 0 (fun r H' => ∃ b L, r = .bptr 0 b 0 ∧ H' = updH noH 0 (some (tpBox b L))) (fun c hc => hc.elim (hO c) (hownlt c)) htl
    ⟨fun i j r s b h => by simp [noH] at h, fun i r b h => by simp [noH] at h, fun i r h => by simp [noH] at h⟩ hlen
    (fun k x c hx hc => (hargs k x c hx hc).mono (fun _ h => h) (fun c hc => ⟨himm c hc, rfl⟩) (fun b _ => .refl _ _)) ⟨l, hd, fun b L => ⟨b, L, rfl, rfl⟩⟩
  refine ⟨c1, c2.mono ?_⟩
  rintro e w1 ⟨x, r, H', tp', rfl, ⟨b, L, rfl, rfl⟩, tpx, tpn, tpl, st, loc, sat, hR⟩
  cases hR
  have hH : updH noH 0 (some (tpBox b L)) 0 = some (tpBox b L) := rfl
  have hbo : owns (updH noH 0 (some (tpBox b L))) b := ⟨0, _, hH, rfl⟩
  have hbs : w.heap.size ≤ b := (loc b hbo).elim (fun h => (hno b h).elim) id
  have hbl : b < w1.heap.size := (sat.ok 0 _ hH).lt rfl
  have hbtp := sat.out 0 _ b hH rfl
  have hsz : w.heap.size ≤ w1.heap.size := st.size
  have old : ∀ c, c < w.heap.size → ¬ tp c → ¬ (tp' c ∨ c = b) := fun c hc ht h => h.elim (fun h => (tpn c h).elim ht (fun h => by
      have h : w.heap.size ≤ c := h
      omega)) (fun h => by omega)
  have same : ∀ c, c < w.heap.size → ¬ tp c → w1.heap[c]? = w.heap[c]? := fun c hc ht => st.same c hc (hno c) ht
  obtain ⟨xs, el, q1, q2, q3⟩ := sat.ok 0 _ hH
  obtain ⟨xl⟩ := xs
  match xl, q2, q3, q1 with
  | [s, y], _, q3, q1 =>
  have a1' := (q3 0 s _ rfl rfl).2
  have a2 := (q3 1 y _ rfl rfl).2.inv_v
  subst a2
  have hsl : slen s = L.length := by
    generalize hes : L.map enc = es at a1'
    have hl2 : L.length = es.length := by rw [← hes]; simp
    cases a1' with
    | nolist => simp at hl2; simp [slen, hl2]
    | list => rw [hl2]; rfl
  refine ⟨_, .tape L, H, fun c => tp' c ∨ c = b, rfl, hK L trivial, fun c hc => .inl (tpx c hc), fun c hc => hc.elim (tpn c) (fun e => .inr (e ▸ hbs)), fun c hc => hc.elim (tpl c) (fun e => e ▸ hbl),
    ⟨st.os, st.tape, st.output, st.size, fun c hc _ ht => same c hc ht, st.tapes, st.drawn⟩, fun c hc => .inl hc,
    ⟨hsat.dis, fun i r c hi hc => ⟨(hsat.out i r c hi hc).1, old c ((hsat.ok i r hi).lt hc) (hsat.out i r c hi hc).2⟩, fun i r hi => (hsat.ok i r hi).conv (fun x d hr => hr.mono (fun c hc => .inl (tpx c hc)) (fun c hc => ⟨⟨Nat.lt_of_lt_of_le hc.1 hsz, hc.2.1, old c hc.1 hc.2.2.1, hc.2.2.2⟩, same c hc.1 hc.2.2.1⟩) st.tapes) (fun c hc => same c ((hsat.ok i r hi).lt hc) (hsat.out i r c hi hc).2)⟩, ?_⟩
  refine .tape b L s 0 el (.inr rfl) q1 (by omega) (by omega) hsl ?_
  have a3 : R tp' (Imm (fun c => O c ∨ owns H c) tp' (updH noH 0 (some (tpBox b L))) w1) w1 s (.list 1 (L.map fun n => D.v (.int .i64 n))) := a1'
  exact list_flatR (fun d hd => by simp at hd; obtain ⟨n, _, rfl⟩ := hd; exact ⟨n, rfl⟩) a3 (fun c hc => ⟨⟨hc.1, fun h => hc.2.1 (.inl h), fun h => h.elim hc.2.2.1 (fun e => hc.2.2.2 (e ▸ hbo)), fun h => hc.2.1 (.inr h)⟩, rfl⟩)
end
end Go.Gv

namespace Go.Gv
set_option linter.unusedSimpArgs false
set_option linter.unusedVariables false
set_option maxRecDepth 100000
open Cod (enc dec)
variable {S S0 : Nat → Spc}

/-- A contract that says that the function returns. -/
def tot {X Y : Type} (_ : X) (_ : Y) : Prop := True
@[simp] theorem tot_t {X Y : Type} (x : X) (y : Y) : tot x y = True := id rfl
def anyX {X : Type} (_ : X) : Prop := True

end Go.Gv

namespace Go.Gv
set_option linter.unusedSimpArgs false
set_option linter.unusedVariables false
set_option maxRecDepth 100000
open Cod (enc dec)
variable {S S0 : Nat → Spc}


theorem take_enc {X : Type} [Cod X] (l : List X) (k : Nat) : List.take k (List.map enc l) = List.map enc (List.take k l) := List.map_take.symm
end Go.Gv

namespace Go.Gv
set_option linter.unusedSimpArgs false
set_option linter.unusedVariables false
set_option maxRecDepth 100000
open Cod (enc dec)
variable {S S0 : Nat → Spc}
end Go.Gv

namespace Go.Gv
set_option linter.unusedSimpArgs false
set_option linter.unusedVariables false
set_option maxRecDepth 100000
open Cod (enc dec)
variable {S S0 : Nat → Spc}

end Go.Gv

namespace Go.Gv
set_option linter.unusedSimpArgs false
set_option linter.unusedVariables false
set_option maxRecDepth 100000
open Cod (enc dec)
variable {S S0 : Nat → Spc}
/-- A list whose rear part is changed step by step. -/
def mix {X : Type} (f : X → X) (a b : List X) (j : Nat) : List X := a ++ ((b.take j).map f ++ b.drop j)
end Go.Gv

namespace Go.Gv
set_option linter.unusedSimpArgs false
set_option linter.unusedVariables false
set_option maxRecDepth 100000
open Cod (enc dec)
variable {S S0 : Nat → Spc}
end Go.Gv
