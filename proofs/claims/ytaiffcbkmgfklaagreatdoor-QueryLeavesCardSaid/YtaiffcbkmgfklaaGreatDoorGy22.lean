/- A part of the framework and of the walks: W33 W34 W35 W76. -/
import Derived.Test.YtaiffcbkmgfklaaGreatDoorGy19
import Derived.Test.YtaiffcbkmgfklaaGreatDoorGy17
import Derived.Test.YtaiffcbkmgfklaaGreatDoorGy21

namespace Go.Gv
set_option linter.unusedSimpArgs false
set_option linter.unusedVariables false
set_option maxRecDepth 100000
open Cod (enc dec)
variable {S S0 : Nat → Spc}
theorem take_all {α : Type} {l : List α} {k : Nat} {a : α} {P : α → Prop} (h : ∀ x ∈ l.take k, P x) (ha : l[k]? = some a) (hp : P a) : ∀ x ∈ l.take (k + 1), P x := by
  rw [take_snoc ha]
  intro x hx
  rcases List.mem_append.1 hx with hx | hx
  · exact h x hx
  · simp at hx
    subst hx
    exact hp
def PreN {X : Type} (m : X → Nat) (n : Nat) (x : X) : Prop := m x ≤ n
abbrev s_sameC (n : Nat) : Spc := spc (a2 Cond Cond) (PreN (fun x => cDep x.1) n) (enc (X := Bool)) fun x y => (y = true ↔ x.1 = x.2)
theorem cond_ext {a b : Cond} (h1 : a.op = b.op) (h2 : a.name = b.name) (h3 : a.arg = b.arg) (h4 : a.val = b.val) (h5 : a.lab = b.lab) (h6 : a.fold = b.fold) (h7 : a.kids = b.kids) : a = b := by
  cases a; cases b; simp only at *; subst h1; subst h2; subst h3; subst h4; subst h5; subst h6; subst h7; rfl
theorem w_r22_Same (n : Nat) (h1 : S f_r22_Same = s_sameC n) : Walk cc_r22_Same rs_r22_Same S (a2 Cond Cond) (PreN (fun x => cDep x.1) (n + 1)) (enc (X := Bool)) fun x y => (y = true ↔ x.1 = x.2) := by
  rintro ⟨a, b⟩ hn
  have hn : cDep a ≤ n + 1 := hn
  have hpre : ∀ k ∈ a.kids, ∀ y, PreN (fun x : Cond × Cond => cDep x.1) n (k, y) := fun k hk y => by have := cDep_kid hk; show cDep k ≤ n; omega
  simp [cc_r22_Same, rs_r22_Same]
  refine ⟨fun e1 => ⟨fun e2 => ⟨fun e3 => ⟨fun e4 => ⟨fun e5 => ⟨fun e6 _ _ => ⟨fun h e => h (by rw [e]), fun hl _ => ?_⟩, fun h e => h (by rw [e])⟩, fun h e => h (by rw [e])⟩, fun h e => h (by rw [e])⟩, fun h e => h (by rw [e])⟩, fun h e => h (by rw [e])⟩, fun h e => h (by rw [e])⟩
  refine vc_range (X := Unit) [2, 3] [] a.kids.length (fun k _ => a.kids.take k = b.kids.take k) (fun _ => []) (fun _ => []) () (by simp) (by simp) (by omega) (by simp) (by simp) (by simp) (by simp) (by simp) ?_ ?_
  · rintro k - hk hP
    obtain ⟨x, hx⟩ := at_lt hk
    obtain ⟨y, hy⟩ := at_lt (l := b.kids) (k := k) (by omega)
    have hx1 := mem_at hx
    obtain ⟨_, hgx⟩ := List.getElem?_eq_some_iff.1 hx
    obtain ⟨_, hgy⟩ := List.getElem?_eq_some_iff.1 hy
    simp [h1, hk, hx, hy, hgx, hgy, hpre x hx1, -Bool.forall_bool]
    refine ⟨by omega, fun r hr => ⟨fun hf e => ?_, fun ht => ?_⟩⟩
    · subst e
      rw [hx] at hy
      cases hy
      rw [hr.2 rfl] at hf
      cases hf
    · rw [take_snoc hx, take_snoc hy, hP, hr.1 ht]
  · rintro - hP
    simp
    have h8 : a.kids = b.kids := by
      rw [List.take_of_length_le (by omega), List.take_of_length_le (by omega)] at hP
      exact hP
    exact cond_ext e1 e2 e3 e4 e5 e6 h8
abbrev s_r23_shape : Spc := spc (a2 Pat Int) (fun _ => True) (enc (X := Bool)) fun x y => y = (decide (x.2 ≤ 100) && nodeB x.1)
abbrev s_sameA : Spc := spc (a2 Cond Cond) (fun _ => True) (enc (X := Bool)) fun x y => (y = true ↔ x.1 = x.2)
theorem w_r23_shape (h1 : S f_r22_Same = s_sameA) : Walk cc_r23_shape rs_r23_shape S (a2 Pat Int) (fun _ => True) (enc (X := Bool)) fun x y => y = (decide (x.2 ≤ 100) && nodeB x.1) := by
  rintro ⟨p, d⟩ -
  simp [cc_r23_shape, rs_r23_shape, h1, -Bool.forall_bool]
  clear h1
  refine ⟨fun h h' => absurd h (by omega), fun hd y hy => ?_⟩
  have hy : y = true ↔ p.cond = Cond0 := hy
  rw [decide_eq_true hd, Bool.true_and]
  revert hy
  revert y
  repeat' first | apply And.intro | intro _
  all_goals (rw [Bool.eq_iff_iff, nodeB_iff]; unfold NodeOk; simp_all; try omega)
abbrev s_shapes (n : Nat) : Spc := spc (a2 Pat Int) (fun x => pDep x.1 ≤ n ∧ 0 ≤ x.2 ∧ x.2 ≤ 101) (enc (X := Bool)) fun x y => y = (shallowB x.1 x.2 && everyB nodeB x.1)
theorem w_r23_shapes (n : Nat) (h1 : S f_r23_shape = s_r23_shape) (h2 : S f_r23_shapes = s_shapes n) : Walk cc_r23_shapes rs_r23_shapes S (a2 Pat Int) (fun x => pDep x.1 ≤ n + 1 ∧ 0 ≤ x.2 ∧ x.2 ≤ 101) (enc (X := Bool)) fun x y => y = (shallowB x.1 x.2 && everyB nodeB x.1) := by
  rintro ⟨p, d⟩ ⟨hn, hd0, hd1⟩
  have hpre : ∀ k ∈ p.kids, pDep k ≤ n := fun k hk => by have := pDep_kid hk; have : pDep p ≤ n + 1 := hn; omega
  simp only at hd0 hd1
  simp [cc_r23_shapes, rs_r23_shapes, h1]
  rw [shallowB_eq, everyB_eq]
  refine ⟨fun h => ?_, fun hd hnd _ => ?_⟩
  · simp only [Bool.and_eq_true, decide_eq_true_eq]
    intro h1
    rw [h h1.1, Bool.false_and]
  refine vc_range (X := Unit) [1, 12] [] p.kids.length (fun k _ => ∀ x ∈ p.kids.take k, (shallowB x (d + 1) && everyB nodeB x) = true) (fun _ => []) (fun _ => []) () (by simp) (by simp) (by omega) (by simp) (by simp) (by simp) (by simp) (by simp) ?_ ?_
  · rintro k - hk hP
    obtain ⟨x, hx⟩ := at_lt hk
    have hx1 := mem_at hx
    obtain ⟨_, hgx⟩ := List.getElem?_eq_some_iff.1 hx
    have q1 := hpre x hx1
    simp [h2, hk, hx, hgx, q1, -Bool.forall_bool]
    refine ⟨by simp only [InR]; omega, by omega, fun hf _ hall _ => ⟨x, hx1, hf (hall x hx1)⟩, fun t1 t2 => ?_⟩
    have := take_all (P := fun x => (shallowB x (d + 1) && everyB nodeB x) = true) hP hx (by simp [t1, t2])
    simpa using this
  · rintro - hP
    simp
    simp at hP
    simp [hnd, hd]
    exact ⟨fun x hx => (hP x hx).1, fun x hx => (hP x hx).2⟩
abbrev s_names (n : Nat) : Spc := spc (a1 Pat) (fun x => pDep x ≤ n) (enc (X := Bool)) fun x y => y = everyB (nameB validN) x
theorem w_r23_names (n : Nat) (h1 : S f_r04_ValidName = s_validN) (h2 : S f_r23_names = s_names n) : Walk cc_r23_names rs_r23_names S (a1 Pat) (fun x => pDep x ≤ n + 1) (enc (X := Bool)) fun x y => y = everyB (nameB validN) x := by
  rintro p hn
  have hpre : ∀ k ∈ p.kids, pDep k ≤ n := fun k hk => by have := pDep_kid hk; have : pDep p ≤ n + 1 := hn; omega
  simp [cc_r23_names, rs_r23_names, h1]
  refine vc_mid (X := Unit) [1] [] (fun _ => nameB validN p = true) (fun _ => []) (fun _ => []) ?_ ?_
  · simp [h1, nameB]
    rw [everyB_eq]
    unfold nameB
    repeat' first | apply And.intro | intro _
    all_goals (first | omega | simp_all; try omega)
  rintro - hnd
  rw [everyB_eq]
  simp
  intro _
  refine vc_range (X := Unit) [31] [] p.kids.length (fun k _ => ∀ x ∈ p.kids.take k, everyB (nameB validN) x = true) (fun _ => []) (fun _ => []) () (by simp) (by simp) (by omega) (by simp) (by simp) (by simp) (by simp) (by simp) ?_ ?_
  · rintro k - hk hP
    obtain ⟨x, hx⟩ := at_lt hk
    have hx1 := mem_at hx
    obtain ⟨_, hgx⟩ := List.getElem?_eq_some_iff.1 hx
    have q1 := hpre x hx1
    simp [h2, hk, hx, hgx, q1, -Bool.forall_bool]
    exact ⟨fun hf _ => ⟨x, hx1, hf⟩, fun ht => take_all hP hx ht⟩
  · rintro - hP
    simp
    simp at hP
    rw [hnd]
    simpa using hP
abbrev s_numbers (n : Nat) : Spc := spc (a1 Pat) (fun x => pDep x ≤ n) (enc (X := Bool)) fun x y => y = everyB numB x
theorem w_r23_numbers (n : Nat) (h2 : S f_r23_numbers = s_numbers n) : Walk cc_r23_numbers rs_r23_numbers S (a1 Pat) (fun x => pDep x ≤ n + 1) (enc (X := Bool)) fun x y => y = everyB numB x := by
  rintro p hn
  have hpre : ∀ k ∈ p.kids, pDep k ≤ n := fun k hk => by have := pDep_kid hk; have : pDep p ≤ n + 1 := hn; omega
  simp [cc_r23_numbers, rs_r23_numbers]
  refine vc_mid (X := Unit) [1] [] (fun _ => numB p = true) (fun _ => []) (fun _ => []) ?_ ?_
  · simp [numB]
    rw [everyB_eq]
    unfold numB
    repeat' first | apply And.intro | intro _
    all_goals (first | omega | (rw [Bool.eq_iff_iff]; simp; omega))
  rintro - hnd
  rw [everyB_eq]
  simp
  intro _
  refine vc_range (X := Unit) [36] [] p.kids.length (fun k _ => ∀ x ∈ p.kids.take k, everyB (numB) x = true) (fun _ => []) (fun _ => []) () (by simp) (by simp) (by omega) (by simp) (by simp) (by simp) (by simp) (by simp) ?_ ?_
  · rintro k - hk hP
    obtain ⟨x, hx⟩ := at_lt hk
    have hx1 := mem_at hx
    obtain ⟨_, hgx⟩ := List.getElem?_eq_some_iff.1 hx
    have q1 := hpre x hx1
    simp [h2, hk, hx, hgx, q1, -Bool.forall_bool]
    exact ⟨fun hf _ => ⟨x, hx1, hf⟩, fun ht => take_all hP hx ht⟩
  · rintro - hP
    simp
    simp at hP
    rw [hnd]
    simpa using hP
end Go.Gv

namespace Go.Gv
set_option linter.unusedSimpArgs false
set_option linter.unusedVariables false
set_option maxRecDepth 100000
open Cod (enc dec)
variable {S S0 : Nat → Spc}
theorem mul_rng {a b A B : Int} (h0 : 0 ≤ a) (h1 : a ≤ A) (h2 : 0 ≤ b) (h3 : b ≤ B) : 0 ≤ a * b ∧ a * b ≤ A * B := ⟨Int.mul_nonneg h0 h2, Int.mul_le_mul h1 h3 h2 (by omega)⟩
def PPat (n : Nat) (p : Pat) : Prop := pDep p ≤ n ∧ patB validN p = true
theorem PPat.kid {n : Nat} {p k : Pat} (h : PPat (n + 1) p) (hk : k ∈ p.kids) : PPat n k := by
  have h1 := pDep_kid hk
  have h2 := h.1
  exact ⟨by omega, patB_kid h.2 hk⟩
abbrev s_r23_IsPattern : Spc := spc (a1 Pat) (fun _ => True) (enc (X := Bool)) fun x y => y = patB validN x
abbrev s_shapesA : Spc := spc (a2 Pat Int) (fun x => 0 ≤ x.2 ∧ x.2 ≤ 101) (enc (X := Bool)) fun x y => y = (shallowB x.1 x.2 && everyB nodeB x.1)
abbrev s_namesA : Spc := spc (a1 Pat) (fun _ => True) (enc (X := Bool)) fun x y => y = everyB (nameB validN) x
abbrev s_numbersA : Spc := spc (a1 Pat) (fun _ => True) (enc (X := Bool)) fun x y => y = everyB numB x
theorem w_r23_IsPattern (h1 : S f_r23_shapes = s_shapesA) (h2 : S f_r23_names = s_namesA) (h3 : S f_r23_numbers = s_numbersA) : Walk cc_r23_IsPattern rs_r23_IsPattern S (a1 Pat) (fun _ => True) (enc (X := Bool)) fun x y => y = patB validN x := by
  rintro p -
  simp [cc_r23_IsPattern, rs_r23_IsPattern, h1, h2, h3, patB, -Bool.forall_bool]
  clear h1 h2 h3
  refine ⟨fun h1 h2 => ⟨fun h3 _ => ⟨⟨h1, h2⟩, h3⟩, fun h3 _ _ h4 => absurd h4 (by rw [h3]; simp)⟩, fun h h1 h2 => absurd h2 (by rw [h h1]; simp)⟩
abbrev s_size (n : Nat) : Spc := spc (a1 Pat) (PPat n) (enc (X := Int)) fun x y => y = sizeP x
end Go.Gv

namespace Go.Gv
set_option linter.unusedSimpArgs false
set_option linter.unusedVariables false
set_option maxRecDepth 100000
open Cod (enc dec)
variable {S S0 : Nat → Spc}
abbrev nilDp : D := .v (.slice none 0 0)
def PLv (x : Pat) (l : List Pat) : Prop := l.length + (leavesP x).length ≤ 100000000
abbrev i_leaves (n : Nat) : Spc := i2C (X := Pat) (Y := Pat) (fun x l => pDep x ≤ n ∧ PLv x l) (fun x l r => r = l ++ leavesP x) ty_Pattern 13
abbrev i_leavesA : Spc := i2C (X := Pat) (Y := Pat) (fun x l => PLv x l) (fun x l r => r = l ++ leavesP x) ty_Pattern 13
theorem lv_app {ks : List Pat} {k : Nat} {x : Pat} (l : List Pat) (hx : ks[k]? = some x) : (l ++ (ks.take k).flatMap leavesP) ++ leavesP x = l ++ (ks.take (k + 1)).flatMap leavesP := by
  rw [take_snoc hx, List.flatMap_append, List.flatMap_singleton, List.append_assoc]
theorem lv_len {ks : List Pat} {k : Nat} {x : Pat} {l : List Pat} (hx : ks[k]? = some x) (h : l.length + (ks.flatMap leavesP).length ≤ 100000000) : PLv x (l ++ (ks.take k).flatMap leavesP) := by
  have : ks = ks.take k ++ x :: ks.drop (k + 1) := by rw [← drop_cons_of hx, List.take_append_drop]
  rw [this] at h
  simp only [List.flatMap_append, List.flatMap_cons, List.length_append] at h
  unfold PLv
  rw [List.length_append]
  omega
theorem w_r23_leaves (n : Nat) (h1 : S f_r23_leaves = i_leaves n) : WalkI2 (X := Pat) (Y := Pat) cc_r23_leaves rs_r23_leaves S (fun x l => pDep x ≤ n + 1 ∧ PLv x l) (fun x l r => r = l ++ leavesP x) ty_Pattern 13 := by
  rintro v l p ⟨hp, hl⟩
  have hk : ∀ k ∈ p.kids, pDep k ≤ n := fun k hk => by have := pDep_kid hk; have : pDep p ≤ n + 1 := hp; omega
  have hl' := hl
  unfold PLv at hl'
  rw [leavesP_eq] at hl'
  simp [cc_r23_leaves, rs_r23_leaves]
  refine ⟨fun h1 => ⟨by simp [h1] at hl'; omega, by simp [h1] at hl'; omega, fun v => finF_of (l ++ leavesP p) (by simp [leavesP_eq, h1]) rfl⟩, fun hne _ => ?_⟩
  rw [if_neg hne] at hl'
  refine vc_range (X := Value × List Pat) [15] [] p.kids.length (fun k x => x.2 = l ++ (p.kids.take k).flatMap leavesP) (fun x => [(1, .own 1 x.1)]) (fun x => [(1, .row x.1 ty_Pattern 13 (x.2.map enc))]) (v, l) (by simp) (by simp) (by omega) (by simp) (by simp) (by simp) (by simp) (by simp [isNilRow]) ?_ ?_
  · rintro k ⟨v, m⟩ hkl hm
    simp only at hm
    obtain ⟨x, hx⟩ := at_lt hkl
    have hx1 := mem_at hx
    obtain ⟨_, hgx⟩ := List.getElem?_eq_some_iff.1 hx
    have q1 := lv_len hx hl'
    rw [← hm] at q1
    have q2 := hk x hx1
    simp [h1, hkl, hx, hgx, q1, q2]
    intro v'
    refine .inl ?_
    rw [hm, lv_app _ hx]
  · rintro ⟨v, m⟩ hm
    simp only at hm
    rw [List.take_length] at hm
    simp
    refine finF_of m (by simp) ?_
    rw [hm, leavesP_eq, if_neg hne]
    
abbrev f_leaves : Spc := frC (Y := Pat) (aE Pat (aD a0)) (fun x => x.2.1 = nilDp ∧ PLv x.1 []) (fun x r => r = leavesP x.1) ty_Pattern 13
theorem w_r23_leavesF (h1 : S f_r23_leaves = i_leavesA) : WalkF (Y := Pat) cc_r23_leaves rs_r23_leaves S (aE Pat (aD a0)) (fun x => x.2.1 = nilDp ∧ PLv x.1 []) (fun x r => r = leavesP x.1) ty_Pattern 13 := by
  rintro ⟨p, d, ⟨⟩⟩ ⟨hd, hl⟩
  have hd : d = nilDp := hd
  subst hd
  have hl' : ([] : List Pat).length + (leavesP p).length ≤ 100000000 := hl
  rw [leavesP_eq] at hl'
  simp [cc_r23_leaves, rs_r23_leaves]
  refine ⟨fun h1 v => finF_of (leavesP p) (by simp [leavesP_eq, h1]) rfl, fun hne _ => ?_⟩
  rw [if_neg hne] at hl'
  refine vc_range (X := Value × List Pat) [15] [] p.kids.length (fun k x => x.2 = [] ++ (p.kids.take k).flatMap leavesP) (fun x => [(1, .own 1 x.1)]) (fun x => [(1, .row x.1 ty_Pattern 13 (x.2.map enc))]) (.slice none 0 0, []) (by simp) (by simp) (by omega) (by simp) (by simp) (by simp) (by simp) (by simp [isNilRow]) ?_ ?_
  · rintro k ⟨v, m⟩ hkl hm
    simp only at hm
    obtain ⟨x, hx⟩ := at_lt hkl
    have hx1 := mem_at hx
    obtain ⟨_, hgx⟩ := List.getElem?_eq_some_iff.1 hx
    have q1 := lv_len hx hl'
    rw [← hm] at q1
    
    simp [h1, hkl, hx, hgx, q1]
    intro v'
    refine .inl ?_
    rw [hm, lv_app _ hx]
    rfl
  · rintro ⟨v, m⟩ hm
    simp only at hm
    rw [List.take_length] at hm
    simp
    refine finF_of m (by simp) ?_
    rw [hm, leavesP_eq, if_neg hne]
    rfl
abbrev s_leaves : Spc := orC f_leaves i_leavesA
abbrev s_r23_Leaves : Spc := spc (a1 Pat) (fun x => (leavesP x).length ≤ 100000000) (enc (X := List Pat)) fun x y => y = if patB validN x then leavesP x else []
theorem w_r23_Leaves (h1 : S f_r23_IsPattern = s_r23_IsPattern) (h2 : S f_r23_leaves = s_leaves) : Walk cc_r23_Leaves rs_r23_Leaves S (a1 Pat) (fun x => (leavesP x).length ≤ 100000000) (enc (X := List Pat)) fun x y => y = if patB validN x then leavesP x else [] := by
  rintro p hp
  have hp' : PLv p [] := by unfold PLv; simpa using hp
  simp [cc_r23_Leaves, rs_r23_Leaves, h1, h2, -Bool.forall_bool]
  clear h1 h2
  exact ⟨fun h => fin_of [] (by simp) (by rw [h]; rfl), fun h => .inl ⟨hp', fun v => fin_of (leavesP p) (fz_o ty_Pattern (by simp)) (by rw [h]; rfl)⟩⟩
abbrev s_sizeA : Spc := spc (a1 Pat) (fun x => patB validN x = true) (enc (X := Int)) fun x y => y = sizeP x
abbrev s_r23_Size : Spc := spc (a1 Pat) (fun _ => True) (enc (X := Int)) fun x y => y = if patB validN x then sizeP x else 0
end Go.Gv

namespace Go.Gv
set_option linter.unusedSimpArgs false
set_option linter.unusedVariables false
set_option maxRecDepth 100000
open Cod (enc dec)
variable {S S0 : Nat → Spc}
/-- an empty slice in a box becomes a row of its own -/
theorem wk_nilbox {σ : Sg} {H : HMap} {k j b el n : Nat} {cs cs' : List D} (hkj : j ≠ k) (hk : H k = some (.box b cs)) (hl : cs.length = cs'.length) (hc : ∀ (m : Nat) (c c' : D), cs[m]? = some c → cs'[m]? = some c' → FrzTo noH c c') :
    Wk σ H σ (updH (updH H k (some (.box b cs'))) j (some (.row (.slice none 0 0) el n []))) := by
  refine wk_all (Hf := noH) id (fun t => .same _) (fun i r h => ?_) (fun i j r s _ _ e => .inl e) (fun i r h => by simp [noH] at h)
  by_cases e : i = j
  · subst e
    simp [updH] at h
    subst h
    exact .inr ⟨rfl, rfl⟩
  · by_cases e2 : i = k
    · subst e2
      simp [updH, e] at h
      subst h
      exact .inl ⟨_, hk, .inr ⟨rfl, hl, hc⟩⟩
    · simp only [updH, e, e2, if_false] at h
      exact .inl ⟨r, h, .inl rfl⟩
def narC : Nat → Cond → Prop
  | 0, _ => False
  | n + 1, x => x.kids.length ≤ 1000000 ∧ ∀ k ∈ x.kids, narC n k
abbrev s_copied (n : Nat) : Spc := spc (a1 Cond) (narC n) (enc (X := Cond)) fun x y => y = x
theorem w_query_copied (n : Nat) (h1 : S f_query_copied = s_copied n) : Walk cc_query_copied rs_query_copied S (a1 Cond) (narC (n + 1)) (enc (X := Cond)) fun x y => y = x := by
  rintro ⟨op, name, arg, val, lab, fold, kids⟩ ⟨hlen, hk⟩
  simp only at hlen hk
  simp [cc_query_copied, rs_query_copied]
  intro b2 b3 hkl
  refine vc_rangeW (wk_nilbox (k := 3) (j := 20) (b := b3) (el := ty_Cond) (n := 7) (cs' := [.v (.int .i64 op), .v (.string name), .v (.string arg), .v (.string val), .v (.string lab), .v (.bool fold), .own 20 (.slice none 0 0)]) (by decide) (by simp; rfl) (by simp) ?_) ?_
  · intro m c c' hc hc'
    match m with
    | 0 | 1 | 2 | 3 | 4 | 5 => simp at hc hc'; subst hc; subst hc'; exact .same _
    | 6 => simp at hc hc'; subst hc; subst hc'; exact .nilown _
    | m + 7 => simp at hc
  refine vc_range (X := Value × List Cond) [2, 9] [2] kids.length (fun k x => x.2 = kids.take k) (fun x => [(3, .bptr 3 b3 0)]) (fun x => [(3, .box b3 [.v (.int .i64 op), .v (.string name), .v (.string arg), .v (.string val), .v (.string lab), .v (.bool fold), .own 20 x.1]), (20, .row x.1 ty_Cond 7 (x.2.map enc))]) (.slice none 0 0, []) (by simp) (by simp) (by omega) (by simp) (by simp) (by simp) (by simp) (by simp) ?_ ?_
  · rintro k ⟨v, m⟩ hkl' hm
    simp only at hm
    obtain ⟨x, hx⟩ := at_lt hkl'
    obtain ⟨_, hgx⟩ := List.getElem?_eq_some_iff.1 hx
    have hx1 := hk x (mem_at hx)
    have hml : m.length = k := by rw [hm, List.length_take]; omega
    simp [h1, hkl', hx, hgx, hx1]
    refine ⟨by omega, by omega, fun v => .inl (.inl ?_)⟩
    rw [hm, List.map_take, List.take_add_one]
    simp [hx]
  · rintro ⟨v, m⟩ hm
    simp only at hm
    rw [List.take_length] at hm
    subst hm
    simp
    refine fin_of (Y := Cond) ⟨op, name, arg, val, lab, fold, m⟩ ?_ rfl
    simp
    refine .agg (by simp) fun i c c' h h' => ?_
    match i with
    | 0 | 1 | 2 | 3 | 4 | 5 => simp at h h'; subst h; subst h'; exact .same _
    | 6 => simp at h h'; subst h; subst h'; exact fz_o ty_Cond (by simp)
    | i + 7 => simp at h
theorem fzA {H : HMap} {l l' : List D} (h : FzL H l l') : FrzTo H (.agg l) (.agg l') := .agg h.get.1 h.get.2
abbrev s_copiedA : Spc := spc (a1 Cond) (fun x => ∃ n, narC n x) (enc (X := Cond)) fun x y => y = x
def cloneP (p : Pat) : Pat := ⟨p.op, p.cond, p.lab, ⟨#[]⟩, 0, 0, []⟩
abbrev s_clone : Spc := spc (a1 Pat) (fun p => ∃ n, narC n p.cond) (enc (X := Pat)) fun x y => y = cloneP x
theorem w_query_clone (h1 : S f_query_copied = s_copiedA) : Walk cc_query_clone rs_query_clone S (a1 Pat) (fun p => ∃ n, narC n p.cond) (enc (X := Pat)) fun x y => y = cloneP x := by
  rintro p hp
  simp [cc_query_clone, rs_query_clone, h1, hp]
  intro b
  refine fin_of (Y := Pat) (cloneP p) ?_ rfl
  unfold cloneP
  simp
  refine fzA ?_
  simp
def leavesQ (p : Pat) : List Pat := (leavesP p).map cloneP
theorem leavesQ_eq (p : Pat) : leavesQ p = if p.op = 1 then [cloneP p] else p.kids.flatMap leavesQ := by
  unfold leavesQ
  rw [leavesP_eq]
  split
  · rfl
  · rw [List.map_flatMap]
/-- the leaves' conditions are not too wide -/
def PLc (p : Pat) : Prop := ∀ y ∈ leavesP p, ∃ n, narC n y.cond
theorem PLc.kid {p k : Pat} (h : PLc p) (hne : ¬ p.op = 1) (hk : k ∈ p.kids) : PLc k := fun y hy => h y (by rw [leavesP_eq, if_neg hne]; exact List.mem_flatMap.2 ⟨k, hk, hy⟩)
theorem lq_app {ks : List Pat} {k : Nat} {x : Pat} (l : List Pat) (hx : ks[k]? = some x) : (l ++ (ks.take k).flatMap leavesQ) ++ leavesQ x = l ++ (ks.take (k + 1)).flatMap leavesQ := by
  rw [take_snoc hx, List.flatMap_append, List.flatMap_singleton, List.append_assoc]
def PLq (x : Pat) (l : List Pat) : Prop := l.length + (leavesP x).length ≤ 100000000 ∧ PLc x
theorem lq_len (ks : List Pat) : (ks.flatMap leavesQ).length = (ks.flatMap leavesP).length := by
  induction ks with
  | nil => rfl
  | cons k ks ih => simp only [List.flatMap_cons, List.length_append, ih]; unfold leavesQ; simp
theorem lq_pre {ks : List Pat} {k : Nat} {x : Pat} {l : List Pat} (hx : ks[k]? = some x) (h : l.length + (ks.flatMap leavesP).length ≤ 100000000) (hc : PLc x) : PLq x (l ++ (ks.take k).flatMap leavesQ) := by
  have := lv_len hx h
  unfold PLv at this
  refine ⟨?_, hc⟩
  simp only [List.length_append] at this ⊢
  rw [lq_len]
  exact this
abbrev i_leavesQ (n : Nat) : Spc := i2C (X := Pat) (Y := Pat) (fun x l => pDep x ≤ n ∧ PLq x l) (fun x l r => r = l ++ leavesQ x) ty_Pattern 13
abbrev i_leavesQA : Spc := i2C (X := Pat) (Y := Pat) (fun x l => PLq x l) (fun x l r => r = l ++ leavesQ x) ty_Pattern 13
theorem w_query_leaves (n : Nat) (h1 : S f_query_leaves = i_leavesQ n) (h2 : S f_query_clone = s_clone) : WalkI2 (X := Pat) (Y := Pat) cc_query_leaves rs_query_leaves S (fun x l => pDep x ≤ n + 1 ∧ PLq x l) (fun x l r => r = l ++ leavesQ x) ty_Pattern 13 := by
  rintro v l p ⟨hp, hl, hc⟩
  have hk : ∀ k ∈ p.kids, pDep k ≤ n := fun k hk => by have := pDep_kid hk; have : pDep p ≤ n + 1 := hp; omega
  have hl' := hl
  rw [leavesP_eq] at hl'
  simp [cc_query_leaves, rs_query_leaves, h2]
  refine ⟨fun h1 => ?_, fun hne _ => ?_⟩
  · have hcc : ∃ n, narC n p.cond := hc p (by rw [leavesP_eq, if_pos h1]; simp)
    simp [h1] at hl'
    exact ⟨hcc, by omega, by omega, fun v => finF_of (l ++ leavesQ p) (by simp [leavesQ_eq, h1]) rfl⟩
  rw [if_neg hne] at hl'
  refine vc_range (X := Value × List Pat) [16] [] p.kids.length (fun k x => x.2 = l ++ (p.kids.take k).flatMap leavesQ) (fun x => [(1, .own 1 x.1)]) (fun x => [(1, .row x.1 ty_Pattern 13 (x.2.map enc))]) (v, l) (by simp) (by simp) (by omega) (by simp) (by simp) (by simp) (by simp) (by simp [isNilRow]) ?_ ?_
  · rintro k ⟨v, m⟩ hkl hm
    simp only at hm
    obtain ⟨x, hx⟩ := at_lt hkl
    have hx1 := mem_at hx
    obtain ⟨_, hgx⟩ := List.getElem?_eq_some_iff.1 hx
    have q1 := lq_pre hx hl' (hc.kid hne hx1)
    rw [← hm] at q1
    have q2 := hk x hx1
    simp [h1, hkl, hx, hgx, q1, q2]
    intro v'
    refine .inl ?_
    rw [hm, lq_app _ hx]
  · rintro ⟨v, m⟩ hm
    simp only at hm
    rw [List.take_length] at hm
    simp
    refine finF_of m (by simp) ?_
    rw [hm, leavesQ_eq, if_neg hne]
abbrev f_leavesQ : Spc := frC (Y := Pat) (aE Pat (aD a0)) (fun x => x.2.1 = nilDp ∧ PLq x.1 []) (fun x r => r = leavesQ x.1) ty_Pattern 13
theorem w_query_leavesF (h1 : S f_query_leaves = i_leavesQA) (h2 : S f_query_clone = s_clone) : WalkF (Y := Pat) cc_query_leaves rs_query_leaves S (aE Pat (aD a0)) (fun x => x.2.1 = nilDp ∧ PLq x.1 []) (fun x r => r = leavesQ x.1) ty_Pattern 13 := by
  rintro ⟨p, d, ⟨⟩⟩ ⟨hd, hl, hc⟩
  have hd : d = nilDp := hd
  subst hd
  have hl' : ([] : List Pat).length + (leavesP p).length ≤ 100000000 := hl
  rw [leavesP_eq] at hl'
  simp [cc_query_leaves, rs_query_leaves, h2]
  refine ⟨fun h1 => ⟨hc p (by rw [leavesP_eq, if_pos h1]; simp), fun v => finF_of (leavesQ p) (by simp [leavesQ_eq, h1]) rfl⟩, fun hne _ => ?_⟩
  rw [if_neg hne] at hl'
  refine vc_range (X := Value × List Pat) [16] [] p.kids.length (fun k x => x.2 = [] ++ (p.kids.take k).flatMap leavesQ) (fun x => [(1, .own 1 x.1)]) (fun x => [(1, .row x.1 ty_Pattern 13 (x.2.map enc))]) (.slice none 0 0, []) (by simp) (by simp) (by omega) (by simp) (by simp) (by simp) (by simp) (by simp [isNilRow]) ?_ ?_
  · rintro k ⟨v, m⟩ hkl hm
    simp only at hm
    obtain ⟨x, hx⟩ := at_lt hkl
    have hx1 := mem_at hx
    obtain ⟨_, hgx⟩ := List.getElem?_eq_some_iff.1 hx
    have q1 := lq_pre hx hl' (hc.kid hne hx1)
    rw [← hm] at q1
    simp [h1, hkl, hx, hgx, q1]
    intro v'
    refine .inl ?_
    rw [hm, lq_app _ hx]
    rfl
  · rintro ⟨v, m⟩ hm
    simp only at hm
    rw [List.take_length] at hm
    simp
    refine finF_of m (by simp) ?_
    rw [hm, leavesQ_eq, if_neg hne]
    rfl
abbrev s_leavesQ : Spc := orC f_leavesQ i_leavesQA
abbrev s_query_Leaves : Spc := spc (a1 Pat) (fun x => PLq x []) (enc (X := List Pat)) fun x y => y = if patB validN x then leavesQ x else []
theorem w_query_Leaves (h1 : S f_query_right = s_r23_IsPattern) (h2 : S f_query_leaves = s_leavesQ) : Walk cc_query_Leaves rs_query_Leaves S (a1 Pat) (fun x => PLq x []) (enc (X := List Pat)) fun x y => y = if patB validN x then leavesQ x else [] := by
  rintro p hp
  simp [cc_query_Leaves, rs_query_Leaves, h1, h2, -Bool.forall_bool]
  clear h1 h2
  exact ⟨fun h => fin_of [] (by simp) (by rw [h]; rfl), fun h => .inl ⟨hp, fun v => fin_of (leavesQ p) (fz_o ty_Pattern (by simp)) (by rw [h]; rfl)⟩⟩
end Go.Gv
