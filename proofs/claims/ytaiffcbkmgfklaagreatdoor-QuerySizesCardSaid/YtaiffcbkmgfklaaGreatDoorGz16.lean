/- A part of the framework and of the walks: V3 V4 T14 Cc W2 W31 W33 W34 T15 T16 T17. -/
import Derived.Test.YtaiffcbkmgfklaaGreatDoorGz15
import Derived.Test.YtaiffcbkmgfklaaGreatDoorGz12
import Derived.Test.YtaiffcbkmgfklaaGreatDoorGz13
import Derived.Test.YtaiffcbkmgfklaaGreatDoorGz11

namespace Go.Gv
set_option linter.unusedSimpArgs false

instance : Inhabited Cond := ⟨⟨0, ⟨#[]⟩, ⟨#[]⟩, ⟨#[]⟩, ⟨#[]⟩, false, []⟩⟩
instance : Inhabited Pat := ⟨⟨0, default, ⟨#[]⟩, ⟨#[]⟩, 0, 0, []⟩⟩
/-- The condition without fields. -/
def Cond0 : Cond := ⟨0, ⟨#[]⟩, ⟨#[]⟩, ⟨#[]⟩, ⟨#[]⟩, false, []⟩

mutual
def pDep : Pat → Nat | .mk _ _ _ _ _ _ ks => pDeps ks + 1
def pDeps : List Pat → Nat | [] => 0 | k :: ks => max (pDep k) (pDeps ks)
end
mutual
def pNum : Pat → Nat | .mk _ _ _ _ _ _ ks => pNums ks + 1
def pNums : List Pat → Nat | [] => 0 | k :: ks => pNum k + pNums ks
end
theorem pDep_eq (p : Pat) : pDep p = pDeps p.kids + 1 := by cases p; rw [pDep]
theorem pNum_eq (p : Pat) : pNum p = pNums p.kids + 1 := by cases p; rw [pNum]
theorem pDeps_mem {k : Pat} : ∀ {ks : List Pat}, k ∈ ks → pDep k ≤ pDeps ks
  | a :: ks, h => by
    rw [pDeps]
    rcases List.mem_cons.1 h with rfl | h
    · omega
    · have := pDeps_mem h; omega
theorem pDep_kid {p k : Pat} (h : k ∈ p.kids) : pDep k < pDep p := by have := pDeps_mem h; rw [pDep_eq p]; omega
/-- What holds of a pattern if it does so whenever it holds of its kids, holds of all. -/
theorem pat_ind {C : Pat → Prop} (h : ∀ p, (∀ k ∈ p.kids, C k) → C p) (p : Pat) : C p := by
  generalize hn : pDep p = n
  induction n using Nat.strongRecOn generalizing p with
  | _ n ih => exact h p fun k hk => ih (pDep k) (by rw [← hn]; exact pDep_kid hk) k rfl
/-! ### All nodes -/
mutual
def everyB (f : Pat → Bool) : Pat → Bool | .mk op c l r mn mx ks => f ⟨op, c, l, r, mn, mx, ks⟩ && everyBs f ks
def everyBs (f : Pat → Bool) : List Pat → Bool | [] => true | k :: ks => everyB f k && everyBs f ks
end
theorem everyBs_eq (f : Pat → Bool) : ∀ ks : List Pat, everyBs f ks = ks.all (everyB f)
  | [] => by rw [everyBs]; rfl
  | k :: ks => by rw [everyBs, everyBs_eq f ks, List.all_cons]
theorem everyB_eq (f : Pat → Bool) (p : Pat) : everyB f p = (f p && p.kids.all (everyB f)) := by cases p; rw [everyB, everyBs_eq]
mutual
def shallowB : Pat → Int → Bool | .mk _ _ _ _ _ _ ks, d => decide (d ≤ 100) && shallowBs ks (d + 1)
def shallowBs : List Pat → Int → Bool | [], _ => true | k :: ks, d => shallowB k d && shallowBs ks d
end
theorem shallowBs_eq (d : Int) : ∀ ks : List Pat, shallowBs ks d = ks.all (shallowB · d)
  | [] => by rw [shallowBs]; rfl
  | k :: ks => by rw [shallowBs, shallowBs_eq d ks, List.all_cons]
theorem shallowB_eq (p : Pat) (d : Int) : shallowB p d = (decide (d ≤ 100) && p.kids.all (shallowB · (d + 1))) := by cases p; rw [shallowB, shallowBs_eq]
theorem shallow_mono (p : Pat) : ∀ d d' : Int, d' ≤ d → shallowB p d = true → shallowB p d' = true := by
  induction p using pat_ind with | _ p ih => ?_
  intro d d' h
  rw [shallowB_eq, shallowB_eq]
  simp only [Bool.and_eq_true, decide_eq_true_eq, List.all_eq_true]
  exact fun ⟨h1, h2⟩ => ⟨by omega, fun k hk => ih k hk (d + 1) (d' + 1) (by omega) (h2 k hk)⟩

def NodeOk (p : Pat) : Prop := (p.op = 1 ∧ p.reg = ⟨#[]⟩ ∧ p.mn = 0 ∧ p.mx = 0 ∧ p.kids = []) ∨
  ((p.op = 2 ∨ p.op = 3) ∧ p.cond = Cond0 ∧ p.lab = ⟨#[]⟩ ∧ p.mn = 0 ∧ p.mx = 0 ∧ p.kids = []) ∨
  ((p.op = 4 ∨ p.op = 5) ∧ p.cond = Cond0 ∧ p.lab = ⟨#[]⟩ ∧ p.reg = ⟨#[]⟩ ∧ p.mn = 0 ∧ p.mx = 0 ∧ 2 ≤ p.kids.length) ∨
  (p.op = 6 ∧ p.cond = Cond0 ∧ p.lab = ⟨#[]⟩ ∧ p.reg = ⟨#[]⟩ ∧ p.kids.length = 1)
noncomputable def nodeB (p : Pat) : Bool := @decide (NodeOk p) (Classical.propDecidable _)
theorem nodeB_iff (p : Pat) : nodeB p = true ↔ NodeOk p := @decide_eq_true_iff (NodeOk p) (Classical.propDecidable _)
/-- The numbers of a repetition. -/
def numB (p : Pat) : Bool := decide (p.op = 6 → 0 ≤ p.mn ∧ p.mn ≤ 16 ∧ (p.mx = -1 ∨ p.mn ≤ p.mx ∧ p.mx ≤ 16))
/-- The names of a node (v: the names that are valid). -/
def nameB (v : B → Bool) (p : Pat) : Bool := decide (((p.op = 2 ∨ p.op = 3) → v p.reg = true) ∧ (p.lab ≠ ⟨#[]⟩ → v p.lab = true))
noncomputable def patB (v : B → Bool) (p : Pat) : Bool := shallowB p 1 && everyB nodeB p && everyB (nameB v) p && everyB numB p

theorem patB_kid {v : B → Bool} {p k : Pat} (h : patB v p = true) (hk : k ∈ p.kids) : patB v k = true := by
  unfold patB at *
  rw [everyB_eq, everyB_eq, everyB_eq numB, shallowB_eq] at h
  simp only [Bool.and_eq_true, List.all_eq_true] at h
  obtain ⟨⟨⟨⟨_, h1⟩, _, h2⟩, _, h3⟩, _, h4⟩ := h
  rw [h2 k hk, h3 k hk, h4 k hk, shallow_mono k _ 1 (by omega) (h1 k hk)]
  rfl
theorem patB_node {v : B → Bool} {p : Pat} (h : patB v p = true) : nodeB p = true ∧ nameB v p = true ∧ numB p = true := by
  unfold patB at *
  rw [everyB_eq, everyB_eq, everyB_eq numB] at h
  simp only [Bool.and_eq_true] at h
  exact ⟨h.1.1.2.1, h.1.2.1, h.2.1⟩

/-! ### Sizes, widths, leaves -/
def sizeN (p : Pat) (n : Int) : Int := if p.kids = [] then 1 else if p.op = 6 then (if p.mx = -1 then min (n * (p.mn + 1)) 1000 else if p.mx = 0 then n else min (n * p.mx) 1000) else n
mutual
def sizeP : Pat → Int | .mk op c l r mn mx ks => sizeN ⟨op, c, l, r, mn, mx, ks⟩ (sizePs ks 0)
def sizePs : List Pat → Int → Int | [], n => n | k :: ks, n => sizePs ks (min (n + sizeP k) 1000)
end
theorem sizeP_eq (p : Pat) : sizeP p = sizeN p (sizePs p.kids 0) := by cases p; rw [sizeP]
theorem sizePs_app (a b : List Pat) (n : Int) : sizePs (a ++ b) n = sizePs b (sizePs a n) := by
  induction a generalizing n with
  | nil => rfl
  | cons k a ih => simp only [List.cons_append, sizePs]; exact ih _

/-- The widths of two parts, put together. -/
def widC (seq : Bool) (a b : Int × Int) : Int × Int :=
  if seq then (min (a.1 + b.1) 10000, if a.2 = -1 ∨ b.2 = -1 then -1 else min (a.2 + b.2) 10000) else (min a.1 b.1, if a.2 = -1 ∨ b.2 = -1 then -1 else max a.2 b.2)
mutual
def widP : Pat → Int × Int
  | .mk op _ _ _ mn mx ks => if op = 1 then (1, 1) else if op = 2 ∨ op = 3 then (0, 0) else match ks with
    | [] => (0, 0)
    | k :: ks => if op = 6 then (min ((widP k).1 * mn) 10000, if mx = 0 ∨ (widP k).2 = 0 then 0 else if mx = -1 ∨ (widP k).2 = -1 then -1 else min ((widP k).2 * mx) 10000) else widPs (decide (op = 4)) ks (widP k)
def widPs (seq : Bool) : List Pat → Int × Int → Int × Int | [], w => w | k :: ks, w => widPs seq ks (widC seq w (widP k))
end
theorem widPs_app (s : Bool) (a b : List Pat) (n : Int × Int) : widPs s (a ++ b) n = widPs s b (widPs s a n) := by
  induction a generalizing n with
  | nil => rfl
  | cons k a ih => simp only [List.cons_append, widPs]; exact ih _
theorem widP1 {p : Pat} (h : p.op = 1) : widP p = (1, 1) := by cases p; simp only at h; unfold widP; rw [if_pos h]
theorem widP2 {p : Pat} (h : p.op = 2 ∨ p.op = 3) : widP p = (0, 0) := by cases p; simp only at h; unfold widP; rw [if_neg (by omega), if_pos h]
theorem widP6 {p k : Pat} (h : p.op = 6) {ks : List Pat} (hk : p.kids = k :: ks) : widP p = (min ((widP k).1 * p.mn) 10000, if p.mx = 0 ∨ (widP k).2 = 0 then 0 else if p.mx = -1 ∨ (widP k).2 = -1 then -1 else min ((widP k).2 * p.mx) 10000) := by
  cases p; simp only at h hk; subst hk; rw [widP, if_neg (by omega), if_neg (by omega)]; simp only [h, if_true]
theorem widP4 {p k : Pat} (h : p.op = 4 ∨ p.op = 5) {ks : List Pat} (hk : p.kids = k :: ks) : widP p = widPs (decide (p.op = 4)) ks (widP k) := by
  cases p; simp only at h hk; subst hk; rw [widP, if_neg (by omega), if_neg (by omega)]; simp only; rw [if_neg (by omega)]

mutual
def leavesP : Pat → List Pat | .mk op c l r mn mx ks => if op = 1 then [⟨op, c, l, r, mn, mx, ks⟩] else leavesPs ks
def leavesPs : List Pat → List Pat | [] => [] | k :: ks => leavesP k ++ leavesPs ks
end
theorem leavesPs_eq : ∀ ks : List Pat, leavesPs ks = ks.flatMap leavesP
  | [] => by rw [leavesPs]; rfl
  | k :: ks => by rw [leavesPs, leavesPs_eq ks, List.flatMap_cons]
theorem leavesP_eq (p : Pat) : leavesP p = if p.op = 1 then [p] else p.kids.flatMap leavesP := by cases p; rw [leavesP, leavesPs_eq]
/-! ### Bounds -/
theorem node_kids {p : Pat} (h : nodeB p = true) : (p.op = 1 ∧ p.kids = []) ∨ ((p.op = 2 ∨ p.op = 3) ∧ p.kids = []) ∨ ((p.op = 4 ∨ p.op = 5) ∧ ∃ k ks, p.kids = k :: ks) ∨ (p.op = 6 ∧ ∃ k, p.kids = [k]) := by
  rw [nodeB_iff] at h
  unfold NodeOk at h
  rcases h with h | h | h | h
  · exact .inl ⟨h.1, h.2.2.2.2⟩
  · exact .inr (.inl ⟨h.1, h.2.2.2.2.2⟩)
  · refine .inr (.inr (.inl ⟨h.1, ?_⟩))
    rcases hk : p.kids with _ | ⟨k, ks⟩
    · rw [hk] at h; simp at h
    · exact ⟨k, ks, rfl⟩
  · refine .inr (.inr (.inr ⟨h.1, ?_⟩))
    rcases hk : p.kids with _ | ⟨k, _ | ⟨a, ks⟩⟩
    · rw [hk] at h; simp at h
    · exact ⟨k, rfl⟩
    · rw [hk] at h; simp at h
theorem sizePs_rng : ∀ (ks : List Pat) (n : Int), 0 ≤ n → n ≤ 1000 → (∀ k ∈ ks, 0 ≤ sizeP k) → 0 ≤ sizePs ks n ∧ sizePs ks n ≤ 1000
  | [], n, h0, h1, _ => by rw [sizePs]; exact ⟨h0, h1⟩
  | k :: ks, n, h0, h1, h => by
    rw [sizePs]
    have := h k (by simp)
    exact sizePs_rng ks _ (by omega) (by omega) fun x hx => h x (by simp [hx])
theorem sizeP_rng {v : B → Bool} (p : Pat) : patB v p = true → 0 ≤ sizeP p ∧ sizeP p ≤ 1000 := by
  induction p using pat_ind with | _ p ih => ?_
  intro h
  have hk := sizePs_rng p.kids 0 (by omega) (by omega) fun k hk => (ih k hk (patB_kid h hk)).1
  have hn := (patB_node h).2.2
  unfold numB at hn
  rw [decide_eq_true_eq] at hn
  rw [sizeP_eq]
  generalize sizePs p.kids 0 = n at hk
  unfold sizeN
  split
  · omega
  · split
    · rename_i h6
      have hn := hn h6
      split
      · have : 0 ≤ n * (p.mn + 1) := Int.mul_nonneg hk.1 (by omega)
        omega
      · split
        · exact hk
        · have : 0 ≤ n * p.mx := Int.mul_nonneg hk.1 (by omega)
          omega
    · exact hk
def WidOk (w : Int × Int) : Prop := 0 ≤ w.1 ∧ w.1 ≤ 10000 ∧ -1 ≤ w.2 ∧ w.2 ≤ 10000
theorem widC_ok {s : Bool} {a b : Int × Int} (ha : WidOk a) (hb : WidOk b) : WidOk (widC s a b) := by
  unfold WidOk widC at *
  split <;> simp only <;> split <;> omega
theorem widPs_ok (s : Bool) : ∀ (ks : List Pat) (w : Int × Int), WidOk w → (∀ k ∈ ks, WidOk (widP k)) → WidOk (widPs s ks w)
  | [], w, h, _ => by rw [widPs]; exact h
  | k :: ks, w, h, hk => by
    rw [widPs]
    exact widPs_ok s ks _ (widC_ok h (hk k (by simp))) fun x hx => hk x (by simp [hx])
theorem widP_ok {v : B → Bool} (p : Pat) : patB v p = true → WidOk (widP p) := by
  induction p using pat_ind with | _ p ih => ?_
  intro h
  obtain ⟨h1, _, hn⟩ := patB_node h
  unfold numB at hn
  rw [decide_eq_true_eq] at hn
  rcases node_kids h1 with ⟨ho, _⟩ | ⟨ho, _⟩ | ⟨ho, k, ks, hk⟩ | ⟨ho, k, hk⟩
  · rw [widP1 ho]; simp [WidOk]
  · rw [widP2 ho]; simp [WidOk]
  · rw [widP4 ho hk]
    exact widPs_ok _ _ _ (ih k (by rw [hk]; simp) (patB_kid h (by rw [hk]; simp))) fun x hx => ih x (by rw [hk]; simp [hx]) (patB_kid h (by rw [hk]; simp [hx]))
  · rw [widP6 ho hk]
    have hw := ih k (by rw [hk]; simp) (patB_kid h (by rw [hk]; simp))
    have hn := hn ho
    generalize widP k = w at hw
    unfold WidOk at *
    have h1 : 0 ≤ w.1 * p.mn := Int.mul_nonneg hw.1 hn.1
    refine ⟨by simp only; omega, by simp only; omega, ?_⟩
    simp only
    split
    · omega
    · split
      · omega
      · have h2 : 0 ≤ w.2 * p.mx := Int.mul_nonneg (by omega) (by omega)
        omega
end Go.Gv

namespace Go.Gv
set_option linter.unusedSimpArgs false
set_option linter.unusedVariables false

/-! ### Generated patterns -/
def b_s : B := ⟨#[115]⟩
def b_np : B := ⟨#[110, 112]⟩
def b_t : B := ⟨#[116]⟩
def b_x : B := ⟨#[120]⟩
def b_y : B := ⟨#[121]⟩
def Types : List B := [b_s, b_np, b_t]
def Reps : List (Int × Int) := [(0, 1), (0, -1), (1, -1), (2, 2), (0, 2), (1, 3), (0, 0)]
/-- A leaf of a generated pattern. -/
def WP0 (lb : List B) (p : Pat) : Prop := (p.op = 1 ∧ (p.lab = ⟨#[]⟩ ∨ p.lab ∈ lb) ∧ p.reg = ⟨#[]⟩ ∧ p.mn = 0 ∧ p.mx = 0 ∧ p.kids = []) ∨ ((p.op = 2 ∨ p.op = 3) ∧ p.cond = Cond0 ∧ p.lab = ⟨#[]⟩ ∧ p.reg ∈ Types ∧ p.mn = 0 ∧ p.mx = 0 ∧ p.kids = [])
/-- A pattern that was generated, of at most n levels above the leaves. -/
def WP (lb : List B) : Nat → Pat → Prop
  | 0, p => WP0 lb p
  | n + 1, p => WP0 lb p ∨ ((p.op = 4 ∨ p.op = 5) ∧ p.cond = Cond0 ∧ p.lab = ⟨#[]⟩ ∧ p.reg = ⟨#[]⟩ ∧ p.mn = 0 ∧ p.mx = 0 ∧ ∃ a b, p.kids = [a, b] ∧ WP lb n a ∧ WP lb n b) ∨
    (p.op = 6 ∧ p.cond = Cond0 ∧ p.lab = ⟨#[]⟩ ∧ p.reg = ⟨#[]⟩ ∧ (p.mn, p.mx) ∈ Reps ∧ ∃ a, p.kids = [a] ∧ WP lb n a)
theorem wp0 {lb : List B} {n : Nat} {p : Pat} (h : WP0 lb p) : WP lb n p := by
  cases n
  · exact h
  · exact .inl h
/-- The labels that a generated pattern may bind. -/
def LabOk (lb : List B) : Prop := ∀ l ∈ lb, l = b_x ∨ l = b_y
theorem wp_cases {lb : List B} {n : Nat} {p : Pat} (h : WP lb n p) : WP0 lb p ∨ ∃ m, n = m + 1 ∧ (((p.op = 4 ∨ p.op = 5) ∧ p.cond = Cond0 ∧ p.lab = ⟨#[]⟩ ∧ p.reg = ⟨#[]⟩ ∧ p.mn = 0 ∧ p.mx = 0 ∧ ∃ a b, p.kids = [a, b] ∧ WP lb m a ∧ WP lb m b) ∨
    (p.op = 6 ∧ p.cond = Cond0 ∧ p.lab = ⟨#[]⟩ ∧ p.reg = ⟨#[]⟩ ∧ (p.mn, p.mx) ∈ Reps ∧ ∃ a, p.kids = [a] ∧ WP lb m a)) := by
  cases n with
  | zero => exact .inl h
  | succ m => exact h.elim .inl fun h => .inr ⟨m, rfl, h⟩
theorem wp_ind {lb : List B} {C : Nat → Pat → Prop} (h : ∀ n p, WP lb n p → (∀ k ∈ p.kids, ∃ m, n = m + 1 ∧ WP lb m k ∧ C m k) → C n p) : ∀ n p, WP lb n p → C n p := by
  intro n
  induction n with
  | zero =>
    intro p hp
    refine h 0 p hp fun k hk => ?_
    rcases hp with hp | hp
    · rw [hp.2.2.2.2.2] at hk; simp at hk
    · rw [hp.2.2.2.2.2.2] at hk; simp at hk
  | succ m ih =>
    intro p hp
    refine h (m + 1) p hp fun k hk => ⟨m, rfl, ?_⟩
    have : WP lb m k := by
      rcases hp with (hp | hp) | hp | hp
      · rw [hp.2.2.2.2.2] at hk; simp at hk
      · rw [hp.2.2.2.2.2.2] at hk; simp at hk
      · obtain ⟨a, b, e, ha, hb⟩ := hp.2.2.2.2.2.2
        rw [e] at hk
        simp at hk
        rcases hk with rfl | rfl
        · exact ha
        · exact hb
      · obtain ⟨a, e, ha⟩ := hp.2.2.2.2.2
        rw [e] at hk
        simp at hk
        subst hk
        exact ha
    exact ⟨this, ih k this⟩
theorem wp_patB {v : B → Bool} {lb : List B} (hl : LabOk lb) (hv : v b_s = true ∧ v b_np = true ∧ v b_t = true ∧ v b_x = true ∧ v b_y = true) : ∀ n p, WP lb n p → n ≤ 90 → patB v p = true := by
  have key : ∀ n p, WP lb n p → (n ≤ 90 → ∀ d : Int, d + n ≤ 100 → shallowB p d = true) ∧ everyB nodeB p = true ∧ everyB (nameB v) p = true ∧ everyB numB p = true := by
    refine wp_ind fun n p hp ih => ?_
    have hnode : nodeB p = true ∧ nameB v p = true ∧ numB p = true := by
      rw [nodeB_iff]
      unfold NodeOk nameB numB
      rw [decide_eq_true_eq, decide_eq_true_eq]
      have hr : (p.mn, p.mx) ∈ Reps → 0 ≤ p.mn ∧ p.mn ≤ 16 ∧ (p.mx = -1 ∨ p.mn ≤ p.mx ∧ p.mx ≤ 16) := by
        intro h
        simp [Reps] at h
        omega
      have ht : p.reg ∈ Types → v p.reg = true := by
        intro h
        simp [Types] at h
        rcases h with h | h | h <;> rw [h]
        · exact hv.1
        · exact hv.2.1
        · exact hv.2.2.1
      rcases wp_cases hp with (⟨h1, h2, h3, h4, h5, h6⟩ | ⟨h1, h2, h3, h4, h5, h6, h7⟩) | ⟨m, _, (⟨h1, h2, h3, h4, h5, h6, a, b, h7, _⟩ | ⟨h1, h2, h3, h4, h5, a, h7, _⟩)⟩
      · refine ⟨.inl ⟨h1, h3, h4, h5, h6⟩, ⟨fun h => by omega, fun hne => ?_⟩, fun h => by omega⟩
        rcases h2 with h2 | h2
        · exact absurd h2 hne
        · rcases hl _ h2 with h | h <;> rw [h]
          · exact hv.2.2.2.1
          · exact hv.2.2.2.2
      · exact ⟨.inr (.inl ⟨h1, h2, h3, h5, h6, h7⟩), ⟨fun _ => ht h4, fun h => absurd h3 h⟩, fun h => by omega⟩
      · exact ⟨.inr (.inr (.inl ⟨h1, h2, h3, h4, h5, h6, by rw [h7]; simp⟩)), ⟨fun h => by omega, fun h => absurd h3 h⟩, fun h => by omega⟩
      · exact ⟨.inr (.inr (.inr ⟨h1, h2, h3, h4, by rw [h7]; simp⟩)), ⟨fun h => by omega, fun h => absurd h3 h⟩, fun _ => hr h5⟩
    refine ⟨fun hn d hd => ?_, ?_, ?_, ?_⟩
    · rw [shallowB_eq, Bool.and_eq_true, decide_eq_true_eq, List.all_eq_true]
      refine ⟨by omega, fun k hk => ?_⟩
      obtain ⟨m, e, _, h, _⟩ := ih k hk
      exact h (by omega) _ (by omega)
    · rw [everyB_eq, Bool.and_eq_true, List.all_eq_true]
      exact ⟨hnode.1, fun k hk => by obtain ⟨m, e, _, h⟩ := ih k hk; exact h.2.1⟩
    · rw [everyB_eq, Bool.and_eq_true, List.all_eq_true]
      exact ⟨hnode.2.1, fun k hk => by obtain ⟨m, e, _, h⟩ := ih k hk; exact h.2.2.1⟩
    · rw [everyB_eq, Bool.and_eq_true, List.all_eq_true]
      exact ⟨hnode.2.2, fun k hk => by obtain ⟨m, e, _, h⟩ := ih k hk; exact h.2.2.2⟩
  intro n p hp hn
  obtain ⟨h1, h2, h3, h4⟩ := key n p hp
  unfold patB
  rw [h1 hn 1 (by omega), h2, h3, h4]
  rfl
/-- Sizes of generated patterns. -/
theorem wp_size {lb : List B} : ∀ n p, WP lb n p → n ≤ 5 → 1 ≤ sizeP p ∧ sizeP p ≤ 3 ^ n ∧ pNum p + 1 ≤ 2 ^ (n + 1) := by
  refine wp_ind fun n p hp ih hn => ?_
  have hb : (1 : Int) ≤ 3 ^ n ∧ 1 ≤ 2 ^ n := ⟨Int.pow_pos (by omega), Nat.one_le_two_pow⟩
  rcases wp_cases hp with (⟨h1, h2, h3, h4, h5, h6⟩ | ⟨h1, h2, h3, h4, h5, h6, h7⟩) | ⟨m, rfl, (⟨h1, h2, h3, h4, h5, h6, a, b, h7, _⟩ | ⟨h1, h2, h3, h4, h5, a, h7, _⟩)⟩
  · rw [sizeP_eq, sizeN, if_pos h6, pNum_eq, h6, pNums, Nat.pow_succ]; omega
  · rw [sizeP_eq, sizeN, if_pos h7, pNum_eq, h7, pNums, Nat.pow_succ]; omega
  · obtain ⟨m1, e1, _, a1⟩ := ih a (by rw [h7]; simp)
    obtain ⟨m2, e2, _, a2⟩ := ih b (by rw [h7]; simp)
    have e1 : m1 = m := by omega
    have e2 : m2 = m := by omega
    subst e1; subst e2
    have a1 := a1 (by omega)
    have a2 := a2 (by omega)
    rw [sizeP_eq, sizeN, if_neg (by rw [h7]; simp), if_neg (by omega), pNum_eq, h7]
    simp only [sizePs, pNums]
    rw [Int.pow_succ, Nat.pow_succ]
    rw [Nat.pow_succ] at a1 a2 ⊢
    have h2 : (0 : Int) ≤ 3 ^ m2 := by omega
    have : (3 : Int) ^ m2 ≤ 243 := by
      have : m2 = 0 ∨ m2 = 1 ∨ m2 = 2 ∨ m2 = 3 ∨ m2 = 4 := by omega
      rcases this with rfl | rfl | rfl | rfl | rfl <;> decide
    omega
  · obtain ⟨m1, e1, _, a1⟩ := ih a (by rw [h7]; simp)
    have e1 : m1 = m := by omega
    subst e1
    have a1 := a1 (by omega)
    rw [sizeP_eq, sizeN, if_neg (by rw [h7]; simp), if_pos h1, pNum_eq, h7]
    simp only [sizePs, pNums]
    rw [Int.pow_succ, Nat.pow_succ]
    rw [Nat.pow_succ] at a1 ⊢
    have : (3 : Int) ^ m1 ≤ 243 := by
      have : m1 = 0 ∨ m1 = 1 ∨ m1 = 2 ∨ m1 = 3 ∨ m1 = 4 := by omega
      rcases this with rfl | rfl | rfl | rfl | rfl <;> decide
    simp only [Reps, List.mem_cons, Prod.mk.injEq, List.not_mem_nil, or_false] at h5
    rw [show min (0 + sizeP a) 1000 = sizeP a by omega]
    rcases h5 with ⟨e1, e2⟩ | ⟨e1, e2⟩ | ⟨e1, e2⟩ | ⟨e1, e2⟩ | ⟨e1, e2⟩ | ⟨e1, e2⟩ | ⟨e1, e2⟩ <;> rw [e1, e2] <;> simp <;> omega
end Go.Gv

namespace Go.Gv
set_option linter.unusedSimpArgs false
set_option linter.unusedVariables false
open Cod (enc dec)

/-- One of two contracts. -/
def orC (s t : Spc) : Spc := .gen (fun d ds H K => s.pt d ds H K ∨ t.pt d ds H K) fun d ds H K K' hk h => h.elim (fun h => .inl (s.mono d ds H K K' hk h)) (fun h => .inr (t.mono d ds H K K' hk h))
@[simp] theorem orC_pt (s t : Spc) (d : Nat) (ds : List D) (H : HMap) (K : D → HMap → Prop) : (orC s t).pt d ds H K = (s.pt d ds H K ∨ t.pt d ds H K) := id rfl
theorem tri_or {P : Program} {f : Nat} {s t : Spc} (h1 : Tri P f s.pt) (h2 : Tri P f t.pt) : Tri P f (orC s t).pt := fun O tp w vs ds H d K a b c e g h => h.elim (fun h => h1 O tp w vs ds H d K a b c e g h) (fun h => h2 O tp w vs ds H d K a b c e g h)

section
variable {X Y : Type} [Cod Y]
def frPT (A : Arg X) (pre : X → Prop) (post : X → List Y → Prop) (el n : Nat) : PT := fun d ds H K => optX (A.dec ds) fun x => pre x ∧ ∀ v l, post x l → K (.own d v) (updH H d (some (.row v el n (l.map enc))))
def ioPT (A : Arg X) (pre : X → List Y → Prop) (post : X → List Y → List Y → Prop) (el n : Nat) : PT := fun d ds H K => ∃ id v l ds' x, ds = .own id v :: ds' ∧ A.dec ds' = some x ∧ H id = some (.row v el n (l.map enc)) ∧ pre x l ∧
  ∀ v' l', post x l l' → K (.own id v') (updH H id (some (.row v' el n (l'.map enc))))
def iuPT (A : Arg X) (pre : X → List Y → Prop) (post : X → List Y → List Y → Prop) (el n : Nat) : PT := fun d ds H K => ∃ id v l ds' x, ds = .own id v :: ds' ∧ A.dec ds' = some x ∧ H id = some (.row v el n (l.map enc)) ∧ pre x l ∧
  ∀ l', post x l l' → K (.tup []) (updH H id (some (.row v el n (l'.map enc))))

theorem optX_mono {o : Option X} {k k' : X → Prop} (h : ∀ x, k x → k' x) (ho : optX o k) : optX o k' := by
  cases o with
  | none => exact ho
  | some x => exact h x ho
theorem fr_mono (A : Arg X) (pre : X → Prop) (post : X → List Y → Prop) (el n : Nat) : MonoPT (frPT A pre post el n) := fun d ds H K K' hk h => optX_mono (fun x h => ⟨h.1, fun v l hp => hk _ _ (h.2 v l hp)⟩) h
theorem io_mono (A : Arg X) (pre : X → List Y → Prop) (post : X → List Y → List Y → Prop) (el n : Nat) : MonoPT (ioPT A pre post el n) := fun d ds H K K' hk ⟨id, v, l, ds', x, h1, h2, h3, h4, h5⟩ => ⟨id, v, l, ds', x, h1, h2, h3, h4, fun v' l' hp => hk _ _ (h5 v' l' hp)⟩
theorem iu_mono (A : Arg X) (pre : X → List Y → Prop) (post : X → List Y → List Y → Prop) (el n : Nat) : MonoPT (iuPT A pre post el n) := fun d ds H K K' hk ⟨id, v, l, ds', x, h1, h2, h3, h4, h5⟩ => ⟨id, v, l, ds', x, h1, h2, h3, h4, fun l' hp => hk _ _ (h5 l' hp)⟩
def frC (A : Arg X) (pre : X → Prop) (post : X → List Y → Prop) (el n : Nat) : Spc := .gen _ (fr_mono A pre post el n)
def ioC (A : Arg X) (pre : X → List Y → Prop) (post : X → List Y → List Y → Prop) (el n : Nat) : Spc := .gen _ (io_mono A pre post el n)
def iuC (A : Arg X) (pre : X → List Y → Prop) (post : X → List Y → List Y → Prop) (el n : Nat) : Spc := .gen _ (iu_mono A pre post el n)
@[simp] theorem frC_pt (A : Arg X) (pre : X → Prop) (post : X → List Y → Prop) (el n : Nat) (d : Nat) (ds : List D) (H : HMap) (K : D → HMap → Prop) : (frC A pre post el n).pt d ds H K = optX (A.dec ds) fun x => pre x ∧ ∀ v l, post x l → K (.own d v) (updH H d (some (.row v el n (l.map enc)))) := id rfl
theorem fr_isFr (A : Arg X) (pre : X → Prop) (post : X → List Y → Prop) (el n : Nat) : IsFr (frPT A pre post el n) := by
  refine ⟨fun ds => optX (A.dec ds) pre, fun t ds d u => optX (A.dec ds) fun x => ∃ v l, post x l ∧ d = .own t v ∧ u = .row v el n (l.map enc), fun t ds H K => ?_⟩
  simp only [frPT]
  cases A.dec ds with
  | none => exact ⟨fun h => h.elim, fun h => h.1.elim⟩
  | some x =>
    simp only [optX_s]
    constructor
    · rintro ⟨a, b⟩
      exact ⟨a, fun d u ⟨v, l, h1, h2, h3⟩ => by subst h2; subst h3; exact b v l h1⟩
    · rintro ⟨a, b⟩
      exact ⟨a, fun v l h => b _ _ ⟨v, l, h, rfl, rfl⟩⟩
@[simp] theorem frC_pre (A : Arg X) (pre : X → Prop) (post : X → List Y → Prop) (el n : Nat) (d : Nat) (ds : List D) (H : HMap) (K : D → HMap → Prop) : preX (some d) (frC A pre post el n) ds H K = optX (A.dec ds) fun x => pre x ∧ ∀ v l, post x l → K (.own d v) (updH H d (some (.row v el n (l.map enc)))) :=
  propext ⟨fun h => h.2, fun h => ⟨fr_isFr A pre post el n, h⟩⟩
def ioX (A : Arg X) (pre : X → List Y → Prop) (post : X → List Y → List Y → Prop) (el n id : Nat) (v : Value) (ds : List D) (r : Option Res) (H : HMap) (K : D → HMap → Prop) : Prop := ∃ l, r = some (.row v el n (l.map enc)) ∧ optX (A.dec ds) fun x => pre x l ∧ ∀ v' l', post x l l' → K (.own id v') (updH H id (some (.row v' el n (l'.map enc))))
def iuX (A : Arg X) (pre : X → List Y → Prop) (post : X → List Y → List Y → Prop) (el n id : Nat) (v : Value) (ds : List D) (r : Option Res) (H : HMap) (K : D → HMap → Prop) : Prop := ∃ l, r = some (.row v el n (l.map enc)) ∧ optX (A.dec ds) fun x => pre x l ∧ ∀ l', post x l l' → K (.tup []) (updH H id (some (.row v el n (l'.map enc))))
@[congr] theorem ioX_cg {A : Arg X} {pre : X → List Y → Prop} {post : X → List Y → List Y → Prop} {el n id : Nat} {v : Value} {ds ds' : List D} {r r' : Option Res} {H : HMap} {K : D → HMap → Prop} (h1 : ds = ds') (h2 : r = r') : ioX A pre post el n id v ds r H K = ioX A pre post el n id v ds' r' H K := by subst h1; subst h2; rfl
@[congr] theorem iuX_cg {A : Arg X} {pre : X → List Y → Prop} {post : X → List Y → List Y → Prop} {el n id : Nat} {v : Value} {ds ds' : List D} {r r' : Option Res} {H : HMap} {K : D → HMap → Prop} (h1 : ds = ds') (h2 : r = r') : iuX A pre post el n id v ds r H K = iuX A pre post el n id v ds' r' H K := by subst h1; subst h2; rfl
@[simp] theorem ioC_pt (A : Arg X) (pre : X → List Y → Prop) (post : X → List Y → List Y → Prop) (el n : Nat) (d i : Nat) (v : Value) (ds : List D) (H : HMap) (K : D → HMap → Prop) : (ioC A pre post el n).pt d (.own i v :: ds) H K = ioX A pre post el n i v ds (H i) H K := by
  refine propext ⟨fun h => ?_, fun h => ?_⟩
  · obtain ⟨id, v, l, ds', x, h1, h2, h3, h4, h5⟩ := h
    cases h1
    refine ⟨l, h3, ?_⟩
    rw [h2]
    exact ⟨h4, h5⟩
  · obtain ⟨l, h1, h2⟩ := h
    cases hd : A.dec ds with
    | none => rw [hd] at h2; exact h2.elim
    | some x => rw [hd] at h2; exact ⟨i, v, l, ds, x, rfl, hd, h1, h2.1, h2.2⟩
@[simp] theorem iuC_pt (A : Arg X) (pre : X → List Y → Prop) (post : X → List Y → List Y → Prop) (el n : Nat) (d i : Nat) (v : Value) (ds : List D) (H : HMap) (K : D → HMap → Prop) : (iuC A pre post el n).pt d (.own i v :: ds) H K = iuX A pre post el n i v ds (H i) H K := by
  refine propext ⟨fun h => ?_, fun h => ?_⟩
  · obtain ⟨id, v, l, ds', x, h1, h2, h3, h4, h5⟩ := h
    cases h1
    refine ⟨l, h3, ?_⟩
    rw [h2]
    exact ⟨h4, h5⟩
  · obtain ⟨l, h1, h2⟩ := h
    cases hd : A.dec ds with
    | none => rw [hd] at h2; exact h2.elim
    | some x => rw [hd] at h2; exact ⟨i, v, l, ds, x, rfl, hd, h1, h2.1, h2.2⟩
/-- The resource read: its elements, one by one. -/
@[simp] theorem ioX_r (A : Arg X) (pre : X → List Y → Prop) (post : X → List Y → List Y → Prop) (el n id : Nat) (v : Value) (ds : List D) (l : List Y) (H : HMap) (K : D → HMap → Prop) : ioX A pre post el n id v ds (some (.row v el n (l.map enc))) H K = optX (A.dec ds) fun x => pre x l ∧ ∀ v' l', post x l l' → K (.own id v') (updH H id (some (.row v' el n (l'.map enc)))) := by
  refine propext ⟨fun ⟨l', h1, h2⟩ => ?_, fun h => ⟨l, rfl, h⟩⟩
  simp at h1
  subst h1
  exact h2
@[simp] theorem iuX_r (A : Arg X) (pre : X → List Y → Prop) (post : X → List Y → List Y → Prop) (el n id : Nat) (v : Value) (ds : List D) (l : List Y) (H : HMap) (K : D → HMap → Prop) : iuX A pre post el n id v ds (some (.row v el n (l.map enc))) H K = optX (A.dec ds) fun x => pre x l ∧ ∀ l', post x l l' → K (.tup []) (updH H id (some (.row v el n (l'.map enc)))) := by
  refine propext ⟨fun ⟨l', h1, h2⟩ => ?_, fun h => ⟨l, rfl, h⟩⟩
  simp at h1
  subst h1
  exact h2

/-- A slice of the caller's own is given back, of whose elements q holds. -/
def FinF (el n : Nat) (q : List Y → Prop) (r : D) (H' : HMap) : Prop := ∃ j v l, r = .own j v ∧ H' j = some (.row v el n (l.map enc)) ∧ q l
theorem finF_of {el n : Nat} {q : List Y → Prop} {j : Nat} {v : Value} {H' : HMap} (l : List Y) (h : H' j = some (.row v el n (l.map enc))) (hq : q l) : FinF el n q (.own j v) H' := ⟨j, v, l, rfl, h, hq⟩
def WalkF (cc : CC) (rs : List CRes) (S : Nat → Spc) (A : Arg X) (pre : X → Prop) (post : X → List Y → Prop) (el n : Nat) : Prop :=
  ∀ x, pre x → vc S cc (retK rs fun r H' => FinF el n (post x) r H') (initS (A.view x)) noH
variable {P : Program} {S : Nat → Spc} {f : Nat} {im : List Nat} {cc : CC} {rs : List CRes} {N : Nat} {A : Arg X} {el n : Nat}

theorem tri_walkF {pre : X → Prop} {post : X → List Y → Prop} (hS : ∀ f, Tri P f (S f).pt) (h : FnOk P f im cc rs N) (hN : ∀ x, (A.view x).length ≤ N) (hw : WalkF cc rs S A pre post el n) : Tri P f (frC A pre post el n).pt := by
  obtain ⟨mix, enter, fn, code, h1, h2, h3, h4, h5⟩ := h
  refine tri_of_vc hS mix h1 h2 enter h3 h4 h5 ?_
  intro ds H d K hA
  rw [frC_pt] at hA
  cases hd : A.dec ds with
  | none => rw [hd] at hA; exact hA.elim
  | some x =>
    rw [hd] at hA
    obtain ⟨hp, hK⟩ := hA
    have hl := A.le ds x hd
    refine ⟨by rw [hl.1]; exact hN x, A.view x, noH, id, hl, fun i r h => by simp at h, fun i j r s h => by simp at h, _, hw x hp, ?_⟩
    rintro r H' ⟨j, v, l, rfl, hj, hpost⟩
    refine ⟨.own d v, noH, updH H d (some (.row v el n (l.map enc))), fun i => if i = d then some j else none, .own _ _ _, fun j q h => by simp at h, hK v l hpost, fun i s hi => ?_, fun i j' k s q hi hj' e1 e2 => ?_⟩
    · by_cases e : i = d
      · subst e
        simp only [updH, if_true] at hi
        cases hi
        simpa using hj
      · simp only [updH, e, if_false] at hi ⊢
        exact ⟨hi, fun k q h => by simp at h⟩
    · have a : i = d := by
        by_cases e : i = d
        · exact e
        · simp [e] at e1
      have b : j' = d := by
        by_cases e : j' = d
        · exact e
        · simp [e] at e2
      exact a.trans b.symm

end

/-! ### Function values -/
/-- An argument that is not read. -/
def aD {X : Type} (A : Arg X) : Arg (D × X) := ⟨fun ds => match ds with | d :: r => (A.dec r).map fun x => (d, x) | _ => none, fun x => x.1 :: A.view x.2, fun ds x h => by
  split at h
  · simp only [Option.map_eq_some_iff] at h
    obtain ⟨y, hy, rfl⟩ := h
    exact .cons (.same _) (A.le _ _ hy)
  · cases h⟩
def aE (X : Type) [Cod X] {Y : Type} (A : Arg Y) : Arg (X × Y) := ⟨fun ds => match ds with | d :: r => (dec d).bind fun x => (A.dec r).map fun y => (x, y) | _ => none, fun x => enc x.1 :: A.view x.2, fun ds x h => by
  split at h
  · simp only [Option.bind_eq_some_iff, Option.map_eq_some_iff] at h
    obtain ⟨x, hx, y, hy, rfl⟩ := h
    exact .cons (Cod.le _ _ hx) (A.le _ _ hy)
  · cases h⟩
@[simp] theorem aD_dec {X : Type} (A : Arg X) (d : D) (r : List D) : (aD A).dec (d :: r) = (A.dec r).map fun x => (d, x) := id rfl
@[simp] theorem aD_view {X : Type} (A : Arg X) (d : D) (x : X) : (aD A).view (d, x) = d :: A.view x := id rfl
@[simp] theorem aE_dec {X Y : Type} [Cod X] (A : Arg Y) (d : D) (r : List D) : (aE X A).dec (d :: r) = (dec d).bind fun x => (A.dec r).map fun y => (x, y) := id rfl
@[simp] theorem aE_view {X Y : Type} [Cod X] (A : Arg Y) (x : X) (y : Y) : (aE X A).view (x, y) = enc x :: A.view y := id rfl

/-- d is a function that gives p. -/
def FunIs {X Y : Type} [Cod X] [Cod Y] (S : Nat → Spc) (d : D) (p : X → Y) : Prop :=
  ∃ g caps pc, d = .clo g caps ∧ S g = .pure pc ∧ ∀ x : X, pc.pre (enc x :: caps) ∧ ∀ r, pc.post (enc x :: caps) r → r = enc (p x)

theorem FunIs.use' {X Y : Type} [Cod X] [Cod Y] {S : Nat → Spc} {d : D} {p : X → Y} (h : FunIs S d p) (x : X) (d' : Nat) (H : HMap) (K : D → HMap → Prop) (hk : ∀ y : Y, (∀ q, FunIs S d q → y = q x) → K (enc y) H) : callX S d d' [enc x] H K := by
  obtain ⟨g, caps, pc, rfl, h1, h2⟩ := h
  simp only [callX, h1, Spc.pt]
  refine ⟨(h2 x).1, fun r hr => ?_⟩
  have e := (h2 x).2 r hr
  rw [e]
  refine hk (p x) fun q hq => ?_
  obtain ⟨g', caps', pc', e', k1, k2⟩ := hq
  cases e'
  rw [h1] at k1
  cases k1
  exact enc_inj (e.symm.trans ((k2 x).2 r hr))
theorem FunIs.useB {X : Type} [Cod X] {S : Nat → Spc} {d : D} {p : X → Bool} (h : FunIs S d p) (x : X) {d' : Nat} {H : HMap} {K : D → HMap → Prop} (hk : ∀ y : Bool, (∀ q, FunIs S d q → y = q x) → K (.v (.bool y)) H) : callX S d d' [enc x] H K := h.use' x d' H K hk
section
variable {X Y Z : Type} [Cod Y]
def bwPT (A : Arg X) (pre : List Y × X → Prop) (er : Z → D) (post : List Y × X → Z → Prop) (el n : Nat) : PT := fun d ds H K => ∃ id v l ds' x, ds = .own id v :: ds' ∧ A.dec ds' = some x ∧ H id = some (.row v el n (l.map enc)) ∧ pre (l, x) ∧ ∀ z, post (l, x) z → K (er z) H
theorem bw_mono (A : Arg X) (pre : List Y × X → Prop) (er : Z → D) (post : List Y × X → Z → Prop) (el n : Nat) : MonoPT (bwPT A pre er post el n) := fun d ds H K K' hk ⟨id, v, l, ds', x, h1, h2, h3, h4, h5⟩ => ⟨id, v, l, ds', x, h1, h2, h3, h4, fun z hz => hk _ _ (h5 z hz)⟩
def bwC (A : Arg X) (pre : List Y × X → Prop) (er : Z → D) (post : List Y × X → Z → Prop) (el n : Nat) : Spc := .gen _ (bw_mono A pre er post el n)
def bwX (A : Arg X) (pre : List Y × X → Prop) (er : Z → D) (post : List Y × X → Z → Prop) (el n : Nat) (v : Value) (ds : List D) (r : Option Res) (H : HMap) (K : D → HMap → Prop) : Prop := ∃ l, r = some (.row v el n (l.map enc)) ∧ optX (A.dec ds) fun x => pre (l, x) ∧ ∀ z, post (l, x) z → K (er z) H
@[congr] theorem bwX_cg {A : Arg X} {pre : List Y × X → Prop} {er : Z → D} {post : List Y × X → Z → Prop} {el n : Nat} {v : Value} {ds ds' : List D} {r r' : Option Res} {H : HMap} {K : D → HMap → Prop} (h1 : ds = ds') (h2 : r = r') : bwX A pre er post el n v ds r H K = bwX A pre er post el n v ds' r' H K := by subst h1; subst h2; rfl
@[simp] theorem bwC_pt (A : Arg X) (pre : List Y × X → Prop) (er : Z → D) (post : List Y × X → Z → Prop) (el n : Nat) (d i : Nat) (v : Value) (ds : List D) (H : HMap) (K : D → HMap → Prop) : (bwC A pre er post el n).pt d (.own i v :: ds) H K = bwX A pre er post el n v ds (H i) H K := by
  refine propext ⟨fun h => ?_, fun h => ?_⟩
  · obtain ⟨id, v, l, ds', x, h1, h2, h3, h4, h5⟩ := h
    cases h1
    refine ⟨l, h3, ?_⟩
    rw [h2]
    exact ⟨h4, h5⟩
  · obtain ⟨l, h1, h2⟩ := h
    cases hd : A.dec ds with
    | none => rw [hd] at h2; exact h2.elim
    | some x => rw [hd] at h2; exact ⟨i, v, l, ds, x, rfl, hd, h1, h2.1, h2.2⟩
@[simp] theorem bwX_r (A : Arg X) (pre : List Y × X → Prop) (er : Z → D) (post : List Y × X → Z → Prop) (el n : Nat) (v : Value) (ds : List D) (l : List Y) (H : HMap) (K : D → HMap → Prop) : bwX A pre er post el n v ds (some (.row v el n (l.map enc))) H K = optX (A.dec ds) fun x => pre (l, x) ∧ ∀ z, post (l, x) z → K (er z) H := by
  refine propext ⟨fun ⟨l', h1, h2⟩ => ?_, fun h => ⟨l, rfl, h⟩⟩
  simp at h1
  subst h1
  exact h2

end
end Go.Gv

namespace Go.Gv
open Go.Proofs
/-- corpora/corporamade.Mod [int, int] -> [int] -/
def cc_m_Mod : CC :=
  .seq (.reg [
    .op (some 4) none (.mv (.const (.int .i64 0)))])
  (.keep [0, 1] [] (.seq /- 1 -/ (.seq (.reg [
    .op (some 5) none (.mv (.tmp 1)),
    .op (some 6) none (.cmp .lss (.tmp 5) (.const (.int .i64 1)))])
  (.keep [0, 1, 6] [] (.ite (.tmp 6) (.seq (.reg [
      .op (some 4) none (.mv (.const (.int .i64 0)))])
    (.keep [4] [] (.ret)))
    (.skip))))
  (.keep [0, 1] [] (.seq (.reg [
    .op (some 7) none (.mv (.tmp 0)),
    .op (some 8) none (.mv (.tmp 1)),
    .op (some 9) none (.arith .rem (.tmp 7) (.tmp 8)),
    .op (some 0) none (.mv (.tmp 9))])
  (.keep [0, 1] [] (.seq /- 5 -/ (.seq (.reg [
    .op (some 10) none (.mv (.tmp 0)),
    .op (some 11) none (.cmp .lss (.tmp 10) (.const (.int .i64 0)))])
  (.keep [0, 1, 11] [] (.ite (.tmp 11) (.reg [
      .op (some 12) none (.mv (.tmp 0)),
      .op (some 13) none (.mv (.tmp 1)),
      .op (some 14) none (.arith .add (.tmp 12) (.tmp 13)),
      .op (some 0) none (.mv (.tmp 14))])
    (.skip))))
  (.keep [0] [] (.seq (.reg [
    .op (some 15) none (.mv (.tmp 0)),
    .op (some 4) none (.mv (.tmp 15))])
  (.keep [4] [] (.ret))))))))))
def rs_m_Mod : List CRes := [.tmp 4]
def im_m_Mod : List Nat := []
theorem ok_m_Mod : FnOk Tryz.prog f_m_Mod im_m_Mod cc_m_Mod rs_m_Mod 16 := fnOk1 mixed (by kernel_rfl)
-- r04_ValidName while id=0: live [0:s, 3:i] changed [3] res []
/-- corpora/corporamade.Type [int] -> [string] -/
def cc_m_Type : CC :=
  .seq (.reg [
    .op (some 2) none (.mv (.const (.string ⟨#[]⟩)))])
  (.keep [0] [] (.seq (.reg [
    .op (some 3) none (.bslice ty_string 1 [(.const (.string ⟨#[115]⟩)), (.const (.string ⟨#[110, 112]⟩)), (.const (.string ⟨#[116]⟩))]),
    .op (some 4) none (.mv (.tmp 0)),
    .op (some 5) none (.call f_m_Mod [(.tmp 4), (.const (.int .i64 3))]),
    .op (some 6) none (.iaddr 1 (.tmp 3) (.tmp 5)),
    .op (some 7) none (.load false 1 (.tmp 6)),
    .op (some 2) none (.mv (.tmp 7))])
  (.keep [2] [] (.ret))))
def rs_m_Type : List CRes := [.tmp 2]
def im_m_Type : List Nat := []
theorem ok_m_Type : FnOk Tryz.prog f_m_Type im_m_Type cc_m_Type rs_m_Type 8 := fnOk1 mixed (by kernel_rfl)
/-- (*corpora/corporamade.Tape).Next [P_corporamade_Tape, int] -> [int] -/
def cc_m_Tape_Next : CC :=
  .seq (.reg [
    .op (some 4) none (.mv (.const (.int .i64 0)))])
  (.keep [0, 1] [] (.seq /- 1 -/ (.seq (.regd [
    .op (some 5) none (.mv (.tmp 0)),
    .op (some 6) none (.nilck (.tmp 5)),
    .op (some 7) none (.faddr 1 (.tmp 6)),
    .op (some 8) none (.load false 1 (.tmp 7)),
    .op (some 9) none (.mv (.tmp 0)),
    .op (some 10) none (.nilck (.tmp 9)),
    .op (some 11) none (.faddr 0 (.tmp 10)),
    .op (some 12) none (.load false 1 (.tmp 11)),
    .op (some 13) none (.len (.tmp 12))] [
    .op (some 14) none (.cmp .geq (.tmp 8) (.tmp 13))])
  (.keep [0, 1, 14] [] (.ite (.tmp 14) (.seq (.reg [
      .op (some 4) none (.mv (.const (.int .i64 0)))])
    (.keep [4] [] (.ret)))
    (.skip))))
  (.keep [0, 1] [] (.seq (.reg [
    .op (some 15) none (.mv (.tmp 0)),
    .op (some 16) none (.nilck (.tmp 15)),
    .op (some 17) none (.faddr 1 (.tmp 16)),
    .op (some 18) none (.load false 1 (.tmp 17)),
    .op (some 19) none (.arith .add (.tmp 18) (.const (.int .i64 1))),
    .op (some 20) none (.nilck (.tmp 15)),
    .op (some 21) none (.faddr 1 (.tmp 20)),
    .op none none (.store none 1 (.tmp 21) (.tmp 19))])
  (.keep [0, 1] [] (.seq (.regd [
    .op (some 22) none (.mv (.tmp 0)),
    .op (some 23) none (.nilck (.tmp 22)),
    .op (some 24) none (.faddr 0 (.tmp 23)),
    .op (some 25) none (.load false 1 (.tmp 24)),
    .op (some 26) none (.mv (.tmp 0)),
    .op (some 27) none (.nilck (.tmp 26)),
    .op (some 28) none (.faddr 1 (.tmp 27)),
    .op (some 29) none (.load false 1 (.tmp 28)),
    .op (some 30) none (.arith .sub (.tmp 29) (.const (.int .i64 1))),
    .op (some 31) none (.iaddr 1 (.tmp 25) (.tmp 30)),
    .op (some 32) none (.load false 1 (.tmp 31)),
    .op (some 33) none (.mv (.tmp 1))] [
    .op (some 34) none (.call f_m_Mod [(.tmp 32), (.tmp 33)]),
    .op (some 4) none (.mv (.tmp 34))])
  (.keep [4] [] (.ret))))))))
def rs_m_Tape_Next : List CRes := [.tmp 4]
def im_m_Tape_Next : List Nat := []
theorem ok_m_Tape_Next : FnOk Tryz.prog f_m_Tape_Next im_m_Tape_Next cc_m_Tape_Next rs_m_Tape_Next 35 := fnOk1 mixed (by kernel_rfl)
/-- corpora/corporamade.New [L_int] -> [P_corporamade_Tape] -/
def cc_m_New : CC :=
  .seq (.reg [
    .op (some 2) none (.mv (.const (.pointer none)))])
  (.keep [0] [] (.seq /- 1 -/ (.seq (.reg [
    .op (some 3) none (.mv (.tmp 0)),
    .op (some 4) none (.len (.tmp 3)),
    .op (some 5) none (.cmp .gtr (.tmp 4) (.const (.int .i64 120)))])
  (.keep [0, 5] [] (.ite (.tmp 5) (.reg [
      .op (some 6) none (.mv (.tmp 0)),
      .op (some 7) none (.slice 1 (.tmp 6) none (some (.const (.int .i64 120)))),
      .op (some 0) none (.mv (.tmp 7))])
    (.skip))))
  (.keep [0] [] (.seq (.reg [
    .op (some 8) none (.mv (.tmp 0)),
    .op (some 9) none (.build [(.slice none 0 0), (.int .i64 0)] [(0, 1, (.tmp 8))]),
    .op (some 10) none (.box ty_corporamade_Tape false (.tmp 9)),
    .op (some 2) none (.mv (.tmp 10))])
  (.keep [2] [10] (.ret))))))
def rs_m_New : List CRes := [.tmp 2]
def im_m_New : List Nat := [999]
theorem ok_m_New : FnOk Tryz.prog f_m_New im_m_New cc_m_New rs_m_New 11 := fnOk1 mixed (by kernel_rfl)

end Go.Gv

namespace Go.Gv
set_option linter.unusedSimpArgs false
set_option linter.unusedVariables false
set_option maxRecDepth 100000
open Cod (enc dec)
variable {S S0 : Nat → Spc}

end Go.Gv

namespace Go.Gv
set_option linter.unusedSimpArgs false
set_option linter.unusedVariables false
set_option maxRecDepth 100000
open Cod (enc dec)
variable {S S0 : Nat → Spc}

/-! ### Names -/
def begB (c : Int) : Bool := decide (65 ≤ c ∧ c ≤ 90 ∨ 97 ≤ c ∧ c ≤ 122 ∨ c = 95)
def conB (c : Int) : Bool := begB c || decide (48 ≤ c ∧ c ≤ 57 ∨ c = 45)
def ValidN (s : B) : Prop := 1 ≤ s.size ∧ s.size ≤ 32 ∧ (∀ c : UInt8, s.data[0]? = some c → begB c.toNat = true) ∧ ∀ (k : Nat) (c : UInt8), s.data[k]? = some c → conB c.toNat = true
noncomputable def validN (s : B) : Bool := @decide (ValidN s) (Classical.propDecidable _)
theorem validN_iff (s : B) : validN s = true ↔ ValidN s := @decide_eq_true_iff (ValidN s) (Classical.propDecidable _)
theorem validN_t {s : B} (h : ValidN s) : true = validN s := ((validN_iff s).2 h).symm
theorem validN_f {s : B} (h : ¬ ValidN s) : false = validN s := by
  rcases hb : validN s
  · rfl
  · exact absurd ((validN_iff s).1 hb) h
abbrev s_begins : Spc := spc (a1 U8) (fun _ => True) (enc (X := Bool)) fun x y => y = begB x.val
abbrev s_goesOn : Spc := spc (a1 U8) (fun _ => True) (enc (X := Bool)) fun x y => y = conB x.val
abbrev s_validN : Spc := spc (a1 B) (fun _ => True) (enc (X := Bool)) fun x y => y = validN x
theorem w_markup_begins : Walk cc_markup_begins rs_markup_begins S (a1 U8) (fun _ => True) (enc (X := Bool)) fun x y => y = begB x.val := by
  rintro ⟨c⟩ -
  simp [cc_markup_begins, rs_markup_begins, begB]
  repeat' first | apply And.intro | intro _
  all_goals first | omega | (rw [Bool.eq_iff_iff]; simp; omega)
theorem w_markup_goesOn (h1 : S f_markup_begins = s_begins) : Walk cc_markup_goesOn rs_markup_goesOn S (a1 U8) (fun _ => True) (enc (X := Bool)) fun x y => y = conB x.val := by
  rintro ⟨c⟩ -
  simp [cc_markup_goesOn, rs_markup_goesOn, h1, conB, -Bool.forall_bool]
  rcases hb : begB c <;> simp [hb]
  repeat' first | apply And.intro | intro _
  all_goals first | omega | (rw [Bool.eq_iff_iff]; simp; omega)
theorem w_markup_ValidName (h1 : S f_markup_begins = s_begins) (h2 : S f_markup_goesOn = s_goesOn) : Walk cc_markup_ValidName rs_markup_ValidName S (a1 B) (fun _ => True) (enc (X := Bool)) fun x y => y = validN x := by
  rintro s -
  simp [cc_markup_ValidName, rs_markup_ValidName, h1, h2]
  refine fun _ => ⟨fun k1 _ => ⟨fun k2 => ⟨by omega, fun c hc => ⟨fun hb => (validN_f fun h => by rw [h.2.2.1 c hc] at hb; cases hb).symm, fun hb _ => ?_⟩⟩, fun k2 => (validN_f fun h => by have := h.2.1; omega).symm⟩, fun k1 => (validN_f fun h => by have := h.1; omega).symm⟩
  refine vc_range (X := Unit) [0] [] s.size (fun k _ => ∀ (j : Nat) (c : UInt8), j < k → s.data[j]? = some c → conB c.toNat = true) (fun _ => []) (fun _ => []) () (by simp) (by simp) (by omega) (by simp) (by simp) (by intro j d hj; omega) (by simp) (by simp) ?_ ?_
  · rintro k - hk h5
    simp [h2]
    refine ⟨hk, fun d hd => ⟨fun hf => (validN_f fun h => by rw [h.2.2.2 k d hd] at hf; cases hf).symm, fun ht j e hj he => ?_⟩⟩
    by_cases e1 : j = k
    · subst e1
      rw [hd] at he
      cases he
      exact ht
    · exact h5 j e (by omega) he
  · rintro - h5
    simp
    refine (validN_t ⟨by omega, by omega, fun d hd => by rw [hc] at hd; cases hd; exact hb, fun j e he => h5 j e ?_ he⟩).symm
    exact (Array.getElem?_eq_some_iff.1 he).1
end Go.Gv

namespace Go.Gv
set_option linter.unusedSimpArgs false
set_option linter.unusedVariables false
set_option maxRecDepth 100000
open Cod (enc dec)
variable {S S0 : Nat → Spc}
end Go.Gv

namespace Go.Gv
set_option linter.unusedSimpArgs false
set_option linter.unusedVariables false
set_option maxRecDepth 100000
open Cod (enc dec)
variable {S S0 : Nat → Spc}
theorem mul_rng {a b A B : Int} (h0 : 0 ≤ a) (h1 : a ≤ A) (h2 : 0 ≤ b) (h3 : b ≤ B) : 0 ≤ a * b ∧ a * b ≤ A * B := ⟨Int.mul_nonneg h0 h2, Int.mul_le_mul h1 h3 h2 (by omega)⟩
def PPat (n : Nat) (p : Pat) : Prop := pDep p ≤ n ∧ patB validN p = true
theorem PPat.kid {n : Nat} {p k : Pat} (h : PPat (n + 1) p) (hk : k ∈ p.kids) : PPat n k := by
  have h1 := pDep_kid hk
  have h2 := h.1
  exact ⟨by omega, patB_kid h.2 hk⟩
abbrev s_r23_IsPattern : Spc := spc (a1 Pat) (fun _ => True) (enc (X := Bool)) fun x y => y = patB validN x
abbrev s_size (n : Nat) : Spc := spc (a1 Pat) (PPat n) (enc (X := Int)) fun x y => y = sizeP x
abbrev s_width (n : Nat) : Spc := spc (a1 Pat) (PPat n) (er2 (Y := Int) (Z := Int)) fun x y => y = widP x
end Go.Gv

namespace Go.Gv
set_option linter.unusedSimpArgs false
set_option linter.unusedVariables false

def RSub (r r' : Res) : Prop := r = r' ∨ ∃ b cs cs', r = .box b cs ∧ r' = .box b cs' ∧ cs.length = cs'.length ∧ ∀ (m : Nat) (c c' : D), cs[m]? = some c → cs'[m]? = some c' → Sub c c'
theorem RSub.blk {r r' : Res} (h : RSub r r') : r'.blk = r.blk := by
  rcases h with rfl | ⟨b, cs, cs', rfl, rfl, _⟩ <;> rfl
theorem RSub.ok {tp I : Nat → Prop} {w w' : World} {r r' : Res} (h : RSub r r') (hr : ResOk (R tp I w) w' r) : ResOk (R tp I w) w' r' := by
  rcases h with rfl | ⟨b, cs, cs', rfl, rfl, hl, hc⟩
  · exact hr
  · obtain ⟨xs, el, h1, h2, h3⟩ := hr
    refine ⟨xs, el, h1, h2.trans hl, fun k y c hy hc' => ?_⟩
    have hk : k < cs.length := by rw [hl]; exact (List.getElem?_eq_some_iff.1 hc').1
    have h4 := h3 k y cs[k] hy (List.getElem?_eq_getElem hk)
    exact ⟨h4.1, Sub_R (hc k _ _ (List.getElem?_eq_getElem hk) hc') h4.2⟩

section
variable {S : Nat → Spc} {σ σ1 : Sg} {H H1 : HMap} {K : Ex → Sg → HMap → Prop}
theorem vc_loopW {k : Nat} {b : CC} (hw : Wk σ H σ1 H1) (h : vc S (.loop k b) K σ1 H1) : vc S (.loop k b) K σ H := by
  rw [e_loop] at h ⊢
  obtain ⟨I, ⟨x, h1, h2⟩, h3⟩ := h
  exact ⟨I, ⟨x, h1, fun E a w hs => h2 E a w (hw E a w hs)⟩, h3⟩
theorem vc_rangeW {id i n c id2 i2 : Nat} {body : CC} (hw : Wk σ H σ1 H1) (h : vc S (rangeCC id i n c id2 body i2) K σ1 H1) : vc S (rangeCC id i n c id2 body i2) K σ H := by
  unfold rangeCC at h ⊢
  rw [e_block] at h ⊢
  exact vc_loopW hw h
end
end Go.Gv

namespace Go.Gv
set_option linter.unusedSimpArgs false
set_option linter.unusedVariables false
section
variable {X Y : Type}
def bxPT (ce : X → List D) (cf : Y → List D) (pre : X → Prop) (post : X → Y → Prop) : PT := fun d ds H K => ∃ L id b x, ds = [.tape L, .bptr id b 0] ∧ H id = some (.box b (ce x)) ∧ pre x ∧ ∀ y, post x y → K (.tup []) (updH H id (some (.box b (cf y))))
theorem bx_mono (ce : X → List D) (cf : Y → List D) (pre : X → Prop) (post : X → Y → Prop) : MonoPT (bxPT ce cf pre post) := fun d ds H K K' hk ⟨L, id, b, x, h1, h2, h3, h4⟩ => ⟨L, id, b, x, h1, h2, h3, fun y hy => hk _ _ (h4 y hy)⟩
def bxC (ce : X → List D) (cf : Y → List D) (pre : X → Prop) (post : X → Y → Prop) : Spc := .gen _ (bx_mono ce cf pre post)
def bxX (ce : X → List D) (cf : Y → List D) (pre : X → Prop) (post : X → Y → Prop) (id b : Nat) (r : Option Res) (H : HMap) (K : D → HMap → Prop) : Prop := ∃ x, r = some (.box b (ce x)) ∧ pre x ∧ ∀ y, post x y → K (.tup []) (updH H id (some (.box b (cf y))))
@[congr] theorem bxX_cg {ce : X → List D} {cf : Y → List D} {pre : X → Prop} {post : X → Y → Prop} {id b : Nat} {r r' : Option Res} {H : HMap} {K : D → HMap → Prop} (h : r = r') : bxX ce cf pre post id b r H K = bxX ce cf pre post id b r' H K := by subst h; rfl
@[simp] theorem bxC_pt (ce : X → List D) (cf : Y → List D) (pre : X → Prop) (post : X → Y → Prop) (d i b : Nat) (L : List Int) (H : HMap) (K : D → HMap → Prop) : (bxC ce cf pre post).pt d [.tape L, .bptr i b 0] H K = bxX ce cf pre post i b (H i) H K := by
  refine propext ⟨fun h => ?_, fun h => ?_⟩
  · obtain ⟨L', id, b', x, h1, h2, h3, h4⟩ := h
    cases h1
    exact ⟨x, h2, h3, h4⟩
  · obtain ⟨x, h1, h2, h3⟩ := h
    exact ⟨L, i, b, x, rfl, h1, h2, h3⟩

variable {P : Program} {S : Nat → Spc} {f : Nat} {im : List Nat} {cc : CC} {rs : List CRes} {N : Nat}
end
end Go.Gv

namespace Go.Gv
set_option linter.unusedSimpArgs false
set_option linter.unusedVariables false
def HWk (H H2 : HMap) : Prop := ∀ (E : Env) (tp : Nat → Prop) (w : World), StW E tp H w → StW E tp H2 w ∧ ∀ x d, R tp (Imm E.O tp H w) w x d → R tp (Imm E.O tp H2 w) w x d
theorem HWk.refl (H : HMap) : HWk H H := fun _ _ _ h => ⟨h, fun _ _ h => h⟩
theorem Wk.trans {σ σ1 σ2 : Sg} {H H1 H2 : HMap} (h : Wk σ H σ1 H1) (k : Wk σ1 H1 σ2 H2) : Wk σ H σ2 H2 := fun E a w hs => k E a w (h E a w hs)

def left (k b : Nat) (cs : List D) (ks : List Nat) (H : HMap) : HMap := fun i => if i = k then some (.box b cs) else if i ∈ ks then H i else none
section
variable {S : Nat → Spc} {σ : Sg} {H : HMap} {K : Ex → Sg → HMap → Prop}
end
section
variable {P : Program} {im : List Nat} {E : Env} {S : Nat → Spc}
end
end Go.Gv
