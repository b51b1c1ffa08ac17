/- A part of the framework and of the walks: V3 V4 W31 W33 W34 T22. -/
import Derived.Test.YtblcfloekekefaaGreatGx16
import Derived.Test.YtblcfloekekefaaGreatGx12
import Derived.Test.YtblcfloekekefaaGreatGx15
import Derived.Test.YtblcfloekekefaaGreatGx14
import Derived.Test.YtblcfloekekefaaGreatGx10
import Derived.Test.YtblcfloekekefaaGreatGx13

namespace Go.Gv
set_option linter.unusedSimpArgs false

instance : Inhabited Cond := ⟨⟨0, ⟨#[]⟩, ⟨#[]⟩, ⟨#[]⟩, ⟨#[]⟩, false, []⟩⟩
instance : Inhabited Pat := ⟨⟨0, default, ⟨#[]⟩, ⟨#[]⟩, 0, 0, []⟩⟩
/-- The condition without fields. -/
def Cond0 : Cond := ⟨0, ⟨#[]⟩, ⟨#[]⟩, ⟨#[]⟩, ⟨#[]⟩, false, []⟩

mutual
def pDep : Pat → Nat | .mk _ _ _ _ _ _ ks => pDeps ks + 1
def pDeps : List Pat → Nat | [] => 0 | k :: ks => max (pDep k) (pDeps ks)
end
mutual
def cDep : Cond → Nat | .mk _ _ _ _ _ _ ks => cDeps ks + 1
def cDeps : List Cond → Nat | [] => 0 | k :: ks => max (cDep k) (cDeps ks)
end
mutual
def pNum : Pat → Nat | .mk _ _ _ _ _ _ ks => pNums ks + 1
def pNums : List Pat → Nat | [] => 0 | k :: ks => pNum k + pNums ks
end
theorem pDep_eq (p : Pat) : pDep p = pDeps p.kids + 1 := by cases p; rw [pDep]
theorem cDep_eq (p : Cond) : cDep p = cDeps p.kids + 1 := by cases p; rw [cDep]
theorem pNum_eq (p : Pat) : pNum p = pNums p.kids + 1 := by cases p; rw [pNum]
theorem pDeps_mem {k : Pat} : ∀ {ks : List Pat}, k ∈ ks → pDep k ≤ pDeps ks
  | a :: ks, h => by
    rw [pDeps]
    rcases List.mem_cons.1 h with rfl | h
    · omega
    · have := pDeps_mem h; omega
theorem cDeps_mem {k : Cond} : ∀ {ks : List Cond}, k ∈ ks → cDep k ≤ cDeps ks
  | a :: ks, h => by
    rw [cDeps]
    rcases List.mem_cons.1 h with rfl | h
    · omega
    · have := cDeps_mem h; omega
theorem pDep_kid {p k : Pat} (h : k ∈ p.kids) : pDep k < pDep p := by have := pDeps_mem h; rw [pDep_eq p]; omega
theorem cDep_kid {p k : Cond} (h : k ∈ p.kids) : cDep k < cDep p := by have := cDeps_mem h; rw [cDep_eq p]; omega
/-- What holds of a pattern if it does so whenever it holds of its kids, holds of all. -/
theorem pat_ind {C : Pat → Prop} (h : ∀ p, (∀ k ∈ p.kids, C k) → C p) (p : Pat) : C p := by
  generalize hn : pDep p = n
  induction n using Nat.strongRecOn generalizing p with
  | _ n ih => exact h p fun k hk => ih (pDep k) (by rw [← hn]; exact pDep_kid hk) k rfl
/-! ### All nodes -/
mutual
def everyB (f : Pat → Bool) : Pat → Bool | .mk op c l r mn mx ks => f ⟨op, c, l, r, mn, mx, ks⟩ && everyBs f ks
def everyBs (f : Pat → Bool) : List Pat → Bool | [] => true | k :: ks => everyB f k && everyBs f ks
end
theorem everyBs_eq (f : Pat → Bool) : ∀ ks : List Pat, everyBs f ks = ks.all (everyB f)
  | [] => by rw [everyBs]; rfl
  | k :: ks => by rw [everyBs, everyBs_eq f ks, List.all_cons]
theorem everyB_eq (f : Pat → Bool) (p : Pat) : everyB f p = (f p && p.kids.all (everyB f)) := by cases p; rw [everyB, everyBs_eq]
mutual
def shallowB : Pat → Int → Bool | .mk _ _ _ _ _ _ ks, d => decide (d ≤ 100) && shallowBs ks (d + 1)
def shallowBs : List Pat → Int → Bool | [], _ => true | k :: ks, d => shallowB k d && shallowBs ks d
end
theorem shallowBs_eq (d : Int) : ∀ ks : List Pat, shallowBs ks d = ks.all (shallowB · d)
  | [] => by rw [shallowBs]; rfl
  | k :: ks => by rw [shallowBs, shallowBs_eq d ks, List.all_cons]
theorem shallowB_eq (p : Pat) (d : Int) : shallowB p d = (decide (d ≤ 100) && p.kids.all (shallowB · (d + 1))) := by cases p; rw [shallowB, shallowBs_eq]
theorem shallow_mono (p : Pat) : ∀ d d' : Int, d' ≤ d → shallowB p d = true → shallowB p d' = true := by
  induction p using pat_ind with | _ p ih => ?_
  intro d d' h
  rw [shallowB_eq, shallowB_eq]
  simp only [Bool.and_eq_true, decide_eq_true_eq, List.all_eq_true]
  exact fun ⟨h1, h2⟩ => ⟨by omega, fun k hk => ih k hk (d + 1) (d' + 1) (by omega) (h2 k hk)⟩

def NodeOk (p : Pat) : Prop := (p.op = 1 ∧ p.reg = ⟨#[]⟩ ∧ p.mn = 0 ∧ p.mx = 0 ∧ p.kids = []) ∨
  ((p.op = 2 ∨ p.op = 3) ∧ p.cond = Cond0 ∧ p.lab = ⟨#[]⟩ ∧ p.mn = 0 ∧ p.mx = 0 ∧ p.kids = []) ∨
  ((p.op = 4 ∨ p.op = 5) ∧ p.cond = Cond0 ∧ p.lab = ⟨#[]⟩ ∧ p.reg = ⟨#[]⟩ ∧ p.mn = 0 ∧ p.mx = 0 ∧ 2 ≤ p.kids.length) ∨
  (p.op = 6 ∧ p.cond = Cond0 ∧ p.lab = ⟨#[]⟩ ∧ p.reg = ⟨#[]⟩ ∧ p.kids.length = 1)
noncomputable def nodeB (p : Pat) : Bool := @decide (NodeOk p) (Classical.propDecidable _)
theorem nodeB_iff (p : Pat) : nodeB p = true ↔ NodeOk p := @decide_eq_true_iff (NodeOk p) (Classical.propDecidable _)
/-- The numbers of a repetition. -/
def numB (p : Pat) : Bool := decide (p.op = 6 → 0 ≤ p.mn ∧ p.mn ≤ 16 ∧ (p.mx = -1 ∨ p.mn ≤ p.mx ∧ p.mx ≤ 16))
/-- The names of a node (v: the names that are valid). -/
def nameB (v : B → Bool) (p : Pat) : Bool := decide (((p.op = 2 ∨ p.op = 3) → v p.reg = true) ∧ (p.lab ≠ ⟨#[]⟩ → v p.lab = true))
noncomputable def patB (v : B → Bool) (p : Pat) : Bool := shallowB p 1 && everyB nodeB p && everyB (nameB v) p && everyB numB p

theorem patB_kid {v : B → Bool} {p k : Pat} (h : patB v p = true) (hk : k ∈ p.kids) : patB v k = true := by
  unfold patB at *
  rw [everyB_eq, everyB_eq, everyB_eq numB, shallowB_eq] at h
  simp only [Bool.and_eq_true, List.all_eq_true] at h
  obtain ⟨⟨⟨⟨_, h1⟩, _, h2⟩, _, h3⟩, _, h4⟩ := h
  rw [h2 k hk, h3 k hk, h4 k hk, shallow_mono k _ 1 (by omega) (h1 k hk)]
  rfl
theorem patB_node {v : B → Bool} {p : Pat} (h : patB v p = true) : nodeB p = true ∧ nameB v p = true ∧ numB p = true := by
  unfold patB at *
  rw [everyB_eq, everyB_eq, everyB_eq numB] at h
  simp only [Bool.and_eq_true] at h
  exact ⟨h.1.1.2.1, h.1.2.1, h.2.1⟩

/-! ### Sizes, widths, leaves -/
def sizeN (p : Pat) (n : Int) : Int := if p.kids = [] then 1 else if p.op = 6 then (if p.mx = -1 then min (n * (p.mn + 1)) 1000 else if p.mx = 0 then n else min (n * p.mx) 1000) else n
mutual
def sizeP : Pat → Int | .mk op c l r mn mx ks => sizeN ⟨op, c, l, r, mn, mx, ks⟩ (sizePs ks 0)
def sizePs : List Pat → Int → Int | [], n => n | k :: ks, n => sizePs ks (min (n + sizeP k) 1000)
end
theorem sizeP_eq (p : Pat) : sizeP p = sizeN p (sizePs p.kids 0) := by cases p; rw [sizeP]
theorem sizePs_app (a b : List Pat) (n : Int) : sizePs (a ++ b) n = sizePs b (sizePs a n) := by
  induction a generalizing n with
  | nil => rfl
  | cons k a ih => simp only [List.cons_append, sizePs]; exact ih _

/-- The widths of two parts, put together. -/
def widC (seq : Bool) (a b : Int × Int) : Int × Int :=
  if seq then (min (a.1 + b.1) 10000, if a.2 = -1 ∨ b.2 = -1 then -1 else min (a.2 + b.2) 10000) else (min a.1 b.1, if a.2 = -1 ∨ b.2 = -1 then -1 else max a.2 b.2)
mutual
def widP : Pat → Int × Int
  | .mk op _ _ _ mn mx ks => if op = 1 then (1, 1) else if op = 2 ∨ op = 3 then (0, 0) else match ks with
    | [] => (0, 0)
    | k :: ks => if op = 6 then (min ((widP k).1 * mn) 10000, if mx = 0 ∨ (widP k).2 = 0 then 0 else if mx = -1 ∨ (widP k).2 = -1 then -1 else min ((widP k).2 * mx) 10000) else widPs (decide (op = 4)) ks (widP k)
def widPs (seq : Bool) : List Pat → Int × Int → Int × Int | [], w => w | k :: ks, w => widPs seq ks (widC seq w (widP k))
end
theorem widPs_app (s : Bool) (a b : List Pat) (n : Int × Int) : widPs s (a ++ b) n = widPs s b (widPs s a n) := by
  induction a generalizing n with
  | nil => rfl
  | cons k a ih => simp only [List.cons_append, widPs]; exact ih _
theorem widP1 {p : Pat} (h : p.op = 1) : widP p = (1, 1) := by cases p; simp only at h; unfold widP; rw [if_pos h]
theorem widP2 {p : Pat} (h : p.op = 2 ∨ p.op = 3) : widP p = (0, 0) := by cases p; simp only at h; unfold widP; rw [if_neg (by omega), if_pos h]
theorem widP6 {p k : Pat} (h : p.op = 6) {ks : List Pat} (hk : p.kids = k :: ks) : widP p = (min ((widP k).1 * p.mn) 10000, if p.mx = 0 ∨ (widP k).2 = 0 then 0 else if p.mx = -1 ∨ (widP k).2 = -1 then -1 else min ((widP k).2 * p.mx) 10000) := by
  cases p; simp only at h hk; subst hk; rw [widP, if_neg (by omega), if_neg (by omega)]; simp only [h, if_true]
theorem widP4 {p k : Pat} (h : p.op = 4 ∨ p.op = 5) {ks : List Pat} (hk : p.kids = k :: ks) : widP p = widPs (decide (p.op = 4)) ks (widP k) := by
  cases p; simp only at h hk; subst hk; rw [widP, if_neg (by omega), if_neg (by omega)]; simp only; rw [if_neg (by omega)]

mutual
def leavesP : Pat → List Pat | .mk op c l r mn mx ks => if op = 1 then [⟨op, c, l, r, mn, mx, ks⟩] else leavesPs ks
def leavesPs : List Pat → List Pat | [] => [] | k :: ks => leavesP k ++ leavesPs ks
end
theorem leavesPs_eq : ∀ ks : List Pat, leavesPs ks = ks.flatMap leavesP
  | [] => by rw [leavesPs]; rfl
  | k :: ks => by rw [leavesPs, leavesPs_eq ks, List.flatMap_cons]
theorem leavesP_eq (p : Pat) : leavesP p = if p.op = 1 then [p] else p.kids.flatMap leavesP := by cases p; rw [leavesP, leavesPs_eq]
theorem leavesP_le (p : Pat) : (leavesP p).length ≤ pNum p := by
  induction p using pat_ind with | _ p ih => ?_
  rw [leavesP_eq, pNum_eq]
  split
  · simp
  · have : ∀ ks : List Pat, (∀ k ∈ ks, (leavesP k).length ≤ pNum k) → (ks.flatMap leavesP).length ≤ pNums ks := by
      intro ks
      induction ks with
      | nil => intro _; simp [pNums]
      | cons k ks ih =>
        intro h
        rw [List.flatMap_cons, List.length_append, pNums]
        have h1 := h k (by simp)
        have h2 := ih fun x hx => h x (by simp [hx])
        omega
    have := this p.kids ih
    omega

/-! ### Bounds -/
theorem node_kids {p : Pat} (h : nodeB p = true) : (p.op = 1 ∧ p.kids = []) ∨ ((p.op = 2 ∨ p.op = 3) ∧ p.kids = []) ∨ ((p.op = 4 ∨ p.op = 5) ∧ ∃ k ks, p.kids = k :: ks) ∨ (p.op = 6 ∧ ∃ k, p.kids = [k]) := by
  rw [nodeB_iff] at h
  unfold NodeOk at h
  rcases h with h | h | h | h
  · exact .inl ⟨h.1, h.2.2.2.2⟩
  · exact .inr (.inl ⟨h.1, h.2.2.2.2.2⟩)
  · refine .inr (.inr (.inl ⟨h.1, ?_⟩))
    rcases hk : p.kids with _ | ⟨k, ks⟩
    · rw [hk] at h; simp at h
    · exact ⟨k, ks, rfl⟩
  · refine .inr (.inr (.inr ⟨h.1, ?_⟩))
    rcases hk : p.kids with _ | ⟨k, _ | ⟨a, ks⟩⟩
    · rw [hk] at h; simp at h
    · exact ⟨k, rfl⟩
    · rw [hk] at h; simp at h
theorem sizePs_rng : ∀ (ks : List Pat) (n : Int), 0 ≤ n → n ≤ 1000 → (∀ k ∈ ks, 0 ≤ sizeP k) → 0 ≤ sizePs ks n ∧ sizePs ks n ≤ 1000
  | [], n, h0, h1, _ => by rw [sizePs]; exact ⟨h0, h1⟩
  | k :: ks, n, h0, h1, h => by
    rw [sizePs]
    have := h k (by simp)
    exact sizePs_rng ks _ (by omega) (by omega) fun x hx => h x (by simp [hx])
theorem sizeP_rng {v : B → Bool} (p : Pat) : patB v p = true → 0 ≤ sizeP p ∧ sizeP p ≤ 1000 := by
  induction p using pat_ind with | _ p ih => ?_
  intro h
  have hk := sizePs_rng p.kids 0 (by omega) (by omega) fun k hk => (ih k hk (patB_kid h hk)).1
  have hn := (patB_node h).2.2
  unfold numB at hn
  rw [decide_eq_true_eq] at hn
  rw [sizeP_eq]
  generalize sizePs p.kids 0 = n at hk
  unfold sizeN
  split
  · omega
  · split
    · rename_i h6
      have hn := hn h6
      split
      · have : 0 ≤ n * (p.mn + 1) := Int.mul_nonneg hk.1 (by omega)
        omega
      · split
        · exact hk
        · have : 0 ≤ n * p.mx := Int.mul_nonneg hk.1 (by omega)
          omega
    · exact hk
def WidOk (w : Int × Int) : Prop := 0 ≤ w.1 ∧ w.1 ≤ 10000 ∧ -1 ≤ w.2 ∧ w.2 ≤ 10000
theorem widC_ok {s : Bool} {a b : Int × Int} (ha : WidOk a) (hb : WidOk b) : WidOk (widC s a b) := by
  unfold WidOk widC at *
  split <;> simp only <;> split <;> omega
theorem widPs_ok (s : Bool) : ∀ (ks : List Pat) (w : Int × Int), WidOk w → (∀ k ∈ ks, WidOk (widP k)) → WidOk (widPs s ks w)
  | [], w, h, _ => by rw [widPs]; exact h
  | k :: ks, w, h, hk => by
    rw [widPs]
    exact widPs_ok s ks _ (widC_ok h (hk k (by simp))) fun x hx => hk x (by simp [hx])
theorem widP_ok {v : B → Bool} (p : Pat) : patB v p = true → WidOk (widP p) := by
  induction p using pat_ind with | _ p ih => ?_
  intro h
  obtain ⟨h1, _, hn⟩ := patB_node h
  unfold numB at hn
  rw [decide_eq_true_eq] at hn
  rcases node_kids h1 with ⟨ho, _⟩ | ⟨ho, _⟩ | ⟨ho, k, ks, hk⟩ | ⟨ho, k, hk⟩
  · rw [widP1 ho]; simp [WidOk]
  · rw [widP2 ho]; simp [WidOk]
  · rw [widP4 ho hk]
    exact widPs_ok _ _ _ (ih k (by rw [hk]; simp) (patB_kid h (by rw [hk]; simp))) fun x hx => ih x (by rw [hk]; simp [hx]) (patB_kid h (by rw [hk]; simp [hx]))
  · rw [widP6 ho hk]
    have hw := ih k (by rw [hk]; simp) (patB_kid h (by rw [hk]; simp))
    have hn := hn ho
    generalize widP k = w at hw
    unfold WidOk at *
    have h1 : 0 ≤ w.1 * p.mn := Int.mul_nonneg hw.1 hn.1
    refine ⟨by simp only; omega, by simp only; omega, ?_⟩
    simp only
    split
    · omega
    · split
      · omega
      · have h2 : 0 ≤ w.2 * p.mx := Int.mul_nonneg (by omega) (by omega)
        omega
end Go.Gv

namespace Go.Gv
set_option linter.unusedSimpArgs false
set_option linter.unusedVariables false

/-! ### Sources -/
mutual
/-- s is a source of a pattern that stands at the distance d and whose first leaf has a number. -/
def Src : Pat → Int → Int → Span → Prop
  | .mk op c l r mn mx ks, d, leaf, s => if op = 1 then s = ⟨leaf, d⟩ else if op = 4 then Srcs ks d leaf s else if op = 6 then (match ks with | [] => False | k :: _ => ∃ i : Int, 0 ≤ i ∧ i < mn ∧ (i = 0 ∨ (widP k).1 = (widP k).2) ∧ Src k (d + i * (widP k).1) leaf s) else False
def Srcs : List Pat → Int → Int → Span → Prop
  | [], _, _, _ => False
  | k :: ks, d, leaf, s => Src k d leaf s ∨ ((widP k).1 = (widP k).2 ∧ Srcs ks (d + (widP k).1) (leaf + (leavesP k).length) s)
end
theorem src1 {p : Pat} (h : p.op = 1) (d leaf : Int) (s : Span) : Src p d leaf s ↔ s = ⟨leaf, d⟩ := by cases p; simp only at h; unfold Src; rw [if_pos h]
theorem src4 {p : Pat} (h : p.op = 4) (d leaf : Int) (s : Span) : Src p d leaf s ↔ Srcs p.kids d leaf s := by cases p; simp only at h; unfold Src; rw [if_neg (by omega), if_pos h]
theorem src6 {p k : Pat} (h : p.op = 6) {ks : List Pat} (hk : p.kids = k :: ks) (d leaf : Int) (s : Span) : Src p d leaf s ↔ ∃ i : Int, 0 ≤ i ∧ i < p.mn ∧ (i = 0 ∨ (widP k).1 = (widP k).2) ∧ Src k (d + i * (widP k).1) leaf s := by
  cases p; simp only at h hk; subst hk; rw [Src.eq_def]; simp only; rw [if_neg (by omega), if_neg (by omega), if_pos h]
theorem src0 {p : Pat} (h : p.op ≠ 1 ∧ p.op ≠ 4 ∧ p.op ≠ 6) (d leaf : Int) (s : Span) : ¬ Src p d leaf s := by
  cases p; simp only at h; rw [Src.eq_def]; simp only; rw [if_neg h.1, if_neg h.2.1, if_neg h.2.2]; exact id

/-- The list of sources: in order, each once. -/
def SrcsOf (p : Pat) (r : List Span) : Prop := SS r ∧ ∀ s, s ∈ r ↔ Src p 0 0 s
theorem SrcsOf.eq {p : Pat} {a b : List Span} (h : SrcsOf p a) (k : SrcsOf p b) : a = b := ss_ext h.1 k.1 fun x => (h.2 x).trans (k.2 x).symm

/-! ### Generated patterns -/
def b_s : B := ⟨#[115]⟩
def b_np : B := ⟨#[110, 112]⟩
def b_t : B := ⟨#[116]⟩
def b_x : B := ⟨#[120]⟩
def b_y : B := ⟨#[121]⟩
def Types : List B := [b_s, b_np, b_t]
def Reps : List (Int × Int) := [(0, 1), (0, -1), (1, -1), (2, 2), (0, 2), (1, 3), (0, 0)]
/-- A leaf of a generated pattern. -/
def WP0 (lb : List B) (p : Pat) : Prop := (p.op = 1 ∧ (p.lab = ⟨#[]⟩ ∨ p.lab ∈ lb) ∧ p.reg = ⟨#[]⟩ ∧ p.mn = 0 ∧ p.mx = 0 ∧ p.kids = []) ∨ ((p.op = 2 ∨ p.op = 3) ∧ p.cond = Cond0 ∧ p.lab = ⟨#[]⟩ ∧ p.reg ∈ Types ∧ p.mn = 0 ∧ p.mx = 0 ∧ p.kids = [])
/-- A pattern that was generated, of at most n levels above the leaves. -/
def WP (lb : List B) : Nat → Pat → Prop
  | 0, p => WP0 lb p
  | n + 1, p => WP0 lb p ∨ ((p.op = 4 ∨ p.op = 5) ∧ p.cond = Cond0 ∧ p.lab = ⟨#[]⟩ ∧ p.reg = ⟨#[]⟩ ∧ p.mn = 0 ∧ p.mx = 0 ∧ ∃ a b, p.kids = [a, b] ∧ WP lb n a ∧ WP lb n b) ∨
    (p.op = 6 ∧ p.cond = Cond0 ∧ p.lab = ⟨#[]⟩ ∧ p.reg = ⟨#[]⟩ ∧ (p.mn, p.mx) ∈ Reps ∧ ∃ a, p.kids = [a] ∧ WP lb n a)
theorem wp0 {lb : List B} {n : Nat} {p : Pat} (h : WP0 lb p) : WP lb n p := by
  cases n
  · exact h
  · exact .inl h
/-- The labels that a generated pattern may bind. -/
def LabOk (lb : List B) : Prop := ∀ l ∈ lb, l = b_x ∨ l = b_y
theorem wp_cases {lb : List B} {n : Nat} {p : Pat} (h : WP lb n p) : WP0 lb p ∨ ∃ m, n = m + 1 ∧ (((p.op = 4 ∨ p.op = 5) ∧ p.cond = Cond0 ∧ p.lab = ⟨#[]⟩ ∧ p.reg = ⟨#[]⟩ ∧ p.mn = 0 ∧ p.mx = 0 ∧ ∃ a b, p.kids = [a, b] ∧ WP lb m a ∧ WP lb m b) ∨
    (p.op = 6 ∧ p.cond = Cond0 ∧ p.lab = ⟨#[]⟩ ∧ p.reg = ⟨#[]⟩ ∧ (p.mn, p.mx) ∈ Reps ∧ ∃ a, p.kids = [a] ∧ WP lb m a)) := by
  cases n with
  | zero => exact .inl h
  | succ m => exact h.elim .inl fun h => .inr ⟨m, rfl, h⟩
theorem wp_ind {lb : List B} {C : Nat → Pat → Prop} (h : ∀ n p, WP lb n p → (∀ k ∈ p.kids, ∃ m, n = m + 1 ∧ WP lb m k ∧ C m k) → C n p) : ∀ n p, WP lb n p → C n p := by
  intro n
  induction n with
  | zero =>
    intro p hp
    refine h 0 p hp fun k hk => ?_
    rcases hp with hp | hp
    · rw [hp.2.2.2.2.2] at hk; simp at hk
    · rw [hp.2.2.2.2.2.2] at hk; simp at hk
  | succ m ih =>
    intro p hp
    refine h (m + 1) p hp fun k hk => ⟨m, rfl, ?_⟩
    have : WP lb m k := by
      rcases hp with (hp | hp) | hp | hp
      · rw [hp.2.2.2.2.2] at hk; simp at hk
      · rw [hp.2.2.2.2.2.2] at hk; simp at hk
      · obtain ⟨a, b, e, ha, hb⟩ := hp.2.2.2.2.2.2
        rw [e] at hk
        simp at hk
        rcases hk with rfl | rfl
        · exact ha
        · exact hb
      · obtain ⟨a, e, ha⟩ := hp.2.2.2.2.2
        rw [e] at hk
        simp at hk
        subst hk
        exact ha
    exact ⟨this, ih k this⟩
theorem wp_patB {v : B → Bool} {lb : List B} (hl : LabOk lb) (hv : v b_s = true ∧ v b_np = true ∧ v b_t = true ∧ v b_x = true ∧ v b_y = true) : ∀ n p, WP lb n p → n ≤ 90 → patB v p = true := by
  have key : ∀ n p, WP lb n p → (n ≤ 90 → ∀ d : Int, d + n ≤ 100 → shallowB p d = true) ∧ everyB nodeB p = true ∧ everyB (nameB v) p = true ∧ everyB numB p = true := by
    refine wp_ind fun n p hp ih => ?_
    have hnode : nodeB p = true ∧ nameB v p = true ∧ numB p = true := by
      rw [nodeB_iff]
      unfold NodeOk nameB numB
      rw [decide_eq_true_eq, decide_eq_true_eq]
      have hr : (p.mn, p.mx) ∈ Reps → 0 ≤ p.mn ∧ p.mn ≤ 16 ∧ (p.mx = -1 ∨ p.mn ≤ p.mx ∧ p.mx ≤ 16) := by
        intro h
        simp [Reps] at h
        omega
      have ht : p.reg ∈ Types → v p.reg = true := by
        intro h
        simp [Types] at h
        rcases h with h | h | h <;> rw [h]
        · exact hv.1
        · exact hv.2.1
        · exact hv.2.2.1
      rcases wp_cases hp with (⟨h1, h2, h3, h4, h5, h6⟩ | ⟨h1, h2, h3, h4, h5, h6, h7⟩) | ⟨m, _, (⟨h1, h2, h3, h4, h5, h6, a, b, h7, _⟩ | ⟨h1, h2, h3, h4, h5, a, h7, _⟩)⟩
      · refine ⟨.inl ⟨h1, h3, h4, h5, h6⟩, ⟨fun h => by omega, fun hne => ?_⟩, fun h => by omega⟩
        rcases h2 with h2 | h2
        · exact absurd h2 hne
        · rcases hl _ h2 with h | h <;> rw [h]
          · exact hv.2.2.2.1
          · exact hv.2.2.2.2
      · exact ⟨.inr (.inl ⟨h1, h2, h3, h5, h6, h7⟩), ⟨fun _ => ht h4, fun h => absurd h3 h⟩, fun h => by omega⟩
      · exact ⟨.inr (.inr (.inl ⟨h1, h2, h3, h4, h5, h6, by rw [h7]; simp⟩)), ⟨fun h => by omega, fun h => absurd h3 h⟩, fun h => by omega⟩
      · exact ⟨.inr (.inr (.inr ⟨h1, h2, h3, h4, by rw [h7]; simp⟩)), ⟨fun h => by omega, fun h => absurd h3 h⟩, fun _ => hr h5⟩
    refine ⟨fun hn d hd => ?_, ?_, ?_, ?_⟩
    · rw [shallowB_eq, Bool.and_eq_true, decide_eq_true_eq, List.all_eq_true]
      refine ⟨by omega, fun k hk => ?_⟩
      obtain ⟨m, e, _, h, _⟩ := ih k hk
      exact h (by omega) _ (by omega)
    · rw [everyB_eq, Bool.and_eq_true, List.all_eq_true]
      exact ⟨hnode.1, fun k hk => by obtain ⟨m, e, _, h⟩ := ih k hk; exact h.2.1⟩
    · rw [everyB_eq, Bool.and_eq_true, List.all_eq_true]
      exact ⟨hnode.2.1, fun k hk => by obtain ⟨m, e, _, h⟩ := ih k hk; exact h.2.2.1⟩
    · rw [everyB_eq, Bool.and_eq_true, List.all_eq_true]
      exact ⟨hnode.2.2, fun k hk => by obtain ⟨m, e, _, h⟩ := ih k hk; exact h.2.2.2⟩
  intro n p hp hn
  obtain ⟨h1, h2, h3, h4⟩ := key n p hp
  unfold patB
  rw [h1 hn 1 (by omega), h2, h3, h4]
  rfl
/-- Sizes of generated patterns. -/
theorem wp_size {lb : List B} : ∀ n p, WP lb n p → n ≤ 5 → 1 ≤ sizeP p ∧ sizeP p ≤ 3 ^ n ∧ pNum p + 1 ≤ 2 ^ (n + 1) := by
  refine wp_ind fun n p hp ih hn => ?_
  have hb : (1 : Int) ≤ 3 ^ n ∧ 1 ≤ 2 ^ n := ⟨Int.pow_pos (by omega), Nat.one_le_two_pow⟩
  rcases wp_cases hp with (⟨h1, h2, h3, h4, h5, h6⟩ | ⟨h1, h2, h3, h4, h5, h6, h7⟩) | ⟨m, rfl, (⟨h1, h2, h3, h4, h5, h6, a, b, h7, _⟩ | ⟨h1, h2, h3, h4, h5, a, h7, _⟩)⟩
  · rw [sizeP_eq, sizeN, if_pos h6, pNum_eq, h6, pNums, Nat.pow_succ]; omega
  · rw [sizeP_eq, sizeN, if_pos h7, pNum_eq, h7, pNums, Nat.pow_succ]; omega
  · obtain ⟨m1, e1, _, a1⟩ := ih a (by rw [h7]; simp)
    obtain ⟨m2, e2, _, a2⟩ := ih b (by rw [h7]; simp)
    have e1 : m1 = m := by omega
    have e2 : m2 = m := by omega
    subst e1; subst e2
    have a1 := a1 (by omega)
    have a2 := a2 (by omega)
    rw [sizeP_eq, sizeN, if_neg (by rw [h7]; simp), if_neg (by omega), pNum_eq, h7]
    simp only [sizePs, pNums]
    rw [Int.pow_succ, Nat.pow_succ]
    rw [Nat.pow_succ] at a1 a2 ⊢
    have h2 : (0 : Int) ≤ 3 ^ m2 := by omega
    have : (3 : Int) ^ m2 ≤ 243 := by
      have : m2 = 0 ∨ m2 = 1 ∨ m2 = 2 ∨ m2 = 3 ∨ m2 = 4 := by omega
      rcases this with rfl | rfl | rfl | rfl | rfl <;> decide
    omega
  · obtain ⟨m1, e1, _, a1⟩ := ih a (by rw [h7]; simp)
    have e1 : m1 = m := by omega
    subst e1
    have a1 := a1 (by omega)
    rw [sizeP_eq, sizeN, if_neg (by rw [h7]; simp), if_pos h1, pNum_eq, h7]
    simp only [sizePs, pNums]
    rw [Int.pow_succ, Nat.pow_succ]
    rw [Nat.pow_succ] at a1 ⊢
    have : (3 : Int) ^ m1 ≤ 243 := by
      have : m1 = 0 ∨ m1 = 1 ∨ m1 = 2 ∨ m1 = 3 ∨ m1 = 4 := by omega
      rcases this with rfl | rfl | rfl | rfl | rfl <;> decide
    simp only [Reps, List.mem_cons, Prod.mk.injEq, List.not_mem_nil, or_false] at h5
    rw [show min (0 + sizeP a) 1000 = sizeP a by omega]
    rcases h5 with ⟨e1, e2⟩ | ⟨e1, e2⟩ | ⟨e1, e2⟩ | ⟨e1, e2⟩ | ⟨e1, e2⟩ | ⟨e1, e2⟩ | ⟨e1, e2⟩ <;> rw [e1, e2] <;> simp <;> omega
end Go.Gv

namespace Go.Gv
set_option linter.unusedSimpArgs false
set_option linter.unusedVariables false
set_option maxRecDepth 100000
open Cod (enc dec)
variable {S S0 : Nat → Spc}

/-! ### Names -/
def begB (c : Int) : Bool := decide (65 ≤ c ∧ c ≤ 90 ∨ 97 ≤ c ∧ c ≤ 122 ∨ c = 95)
def conB (c : Int) : Bool := begB c || decide (48 ≤ c ∧ c ≤ 57 ∨ c = 45)
def ValidN (s : B) : Prop := 1 ≤ s.size ∧ s.size ≤ 32 ∧ (∀ c : UInt8, s.data[0]? = some c → begB c.toNat = true) ∧ ∀ (k : Nat) (c : UInt8), s.data[k]? = some c → conB c.toNat = true
noncomputable def validN (s : B) : Bool := @decide (ValidN s) (Classical.propDecidable _)
theorem validN_iff (s : B) : validN s = true ↔ ValidN s := @decide_eq_true_iff (ValidN s) (Classical.propDecidable _)
theorem validN_t {s : B} (h : ValidN s) : true = validN s := ((validN_iff s).2 h).symm
theorem validN_f {s : B} (h : ¬ ValidN s) : false = validN s := by
  rcases hb : validN s
  · rfl
  · exact absurd ((validN_iff s).1 hb) h
abbrev s_begins : Spc := spc (a1 U8) (fun _ => True) (enc (X := Bool)) fun x y => y = begB x.val
abbrev s_goesOn : Spc := spc (a1 U8) (fun _ => True) (enc (X := Bool)) fun x y => y = conB x.val
abbrev s_validN : Spc := spc (a1 B) (fun _ => True) (enc (X := Bool)) fun x y => y = validN x
theorem w_markup_begins : Walk cc_markup_begins rs_markup_begins S (a1 U8) (fun _ => True) (enc (X := Bool)) fun x y => y = begB x.val := by
  rintro ⟨c⟩ -
  simp [cc_markup_begins, rs_markup_begins, begB]
  repeat' first | apply And.intro | intro _
  all_goals first | omega | (rw [Bool.eq_iff_iff]; simp; omega)
theorem w_r04_FirstF : Walk cc_r04_First rs_r04_First S (a1 U8) (fun _ => True) (enc (X := Bool)) fun x y => y = begB x.val := by
  rintro ⟨c⟩ -
  simp [cc_r04_First, rs_r04_First, begB]
  repeat' first | apply And.intro | intro _
  all_goals first | omega | (rw [Bool.eq_iff_iff]; simp; omega)
theorem w_markup_goesOn (h1 : S f_markup_begins = s_begins) : Walk cc_markup_goesOn rs_markup_goesOn S (a1 U8) (fun _ => True) (enc (X := Bool)) fun x y => y = conB x.val := by
  rintro ⟨c⟩ -
  simp [cc_markup_goesOn, rs_markup_goesOn, h1, conB, -Bool.forall_bool]
  rcases hb : begB c <;> simp [hb]
  repeat' first | apply And.intro | intro _
  all_goals first | omega | (rw [Bool.eq_iff_iff]; simp; omega)
theorem w_r04_NextF (h1 : S f_r04_First = s_begins) : Walk cc_r04_Next rs_r04_Next S (a1 U8) (fun _ => True) (enc (X := Bool)) fun x y => y = conB x.val := by
  rintro ⟨c⟩ -
  simp [cc_r04_Next, rs_r04_Next, h1, conB, -Bool.forall_bool]
  rcases hb : begB c <;> simp [hb]
  repeat' first | apply And.intro | intro _
  all_goals first | omega | (rw [Bool.eq_iff_iff]; simp; omega)
theorem w_r04_ValidNameF (h1 : S f_r04_First = s_begins) (h2 : S f_r04_Next = s_goesOn) : Walk cc_r04_ValidName rs_r04_ValidName S (a1 B) (fun _ => True) (enc (X := Bool)) fun x y => y = validN x := by
  rintro s -
  simp [cc_r04_ValidName, rs_r04_ValidName, h1, h2]
  refine fun _ => ⟨fun k1 _ => ⟨fun k2 => ⟨by omega, fun c hc => ⟨fun hb => (validN_f fun h => by rw [h.2.2.1 c hc] at hb; cases hb).symm, fun hb => ?_⟩⟩, fun k2 => (validN_f fun h => by have := h.2.1; omega).symm⟩, fun k1 => (validN_f fun h => by have := h.1; omega).symm⟩
  refine vc_while (X := Nat) [0] [] (fun k => 1 ≤ k ∧ k ≤ s.size ∧ ∀ (j : Nat) (c : UInt8), j < k → s.data[j]? = some c → conB c.toNat = true) (fun k => [(3, enc (k : Int))]) (fun _ => []) (fun k => s.size - k) 1 ⟨by omega, by omega, fun j d hj hd => ?_⟩ (by simp) (by simp) ?_
  · have : j = 0 := by omega
    subst this
    rw [hc] at hd
    cases hd
    simp [conB, hb]
  rintro k ⟨h3, h4, h5⟩
  simp [h2]
  refine fun _ => ⟨fun hk => ⟨by omega, fun d hd => ⟨fun hf => (validN_f fun h => by rw [h.2.2.2 k d hd] at hf; cases hf).symm, fun ht => ⟨by simp only [InR]; omega, k + 1, ⟨by omega, by omega, fun j e hj he => ?_⟩, by omega, by omega⟩⟩⟩, fun hk => ?_⟩
  · by_cases e1 : j = k
    · subst e1
      rw [hd] at he
      cases he
      exact ht
    · exact h5 j e (by omega) he
  · refine (validN_t ⟨by omega, by omega, fun d hd => by rw [hc] at hd; cases hd; exact hb, fun j e he => h5 j e ?_ he⟩).symm
    have := (Array.getElem?_eq_some_iff.1 he).1
    have : j < s.size := this
    omega
theorem w_markup_ValidName (h1 : S f_markup_begins = s_begins) (h2 : S f_markup_goesOn = s_goesOn) : Walk cc_markup_ValidName rs_markup_ValidName S (a1 B) (fun _ => True) (enc (X := Bool)) fun x y => y = validN x := by
  rintro s -
  simp [cc_markup_ValidName, rs_markup_ValidName, h1, h2]
  refine fun _ => ⟨fun k1 _ => ⟨fun k2 => ⟨by omega, fun c hc => ⟨fun hb => (validN_f fun h => by rw [h.2.2.1 c hc] at hb; cases hb).symm, fun hb _ => ?_⟩⟩, fun k2 => (validN_f fun h => by have := h.2.1; omega).symm⟩, fun k1 => (validN_f fun h => by have := h.1; omega).symm⟩
  refine vc_range (X := Unit) [0] [] s.size (fun k _ => ∀ (j : Nat) (c : UInt8), j < k → s.data[j]? = some c → conB c.toNat = true) (fun _ => []) (fun _ => []) () (by simp) (by simp) (by omega) (by simp) (by simp) (by intro j d hj; omega) (by simp) (by simp) ?_ ?_
  · rintro k - hk h5
    simp [h2]
    refine ⟨hk, fun d hd => ⟨fun hf => (validN_f fun h => by rw [h.2.2.2 k d hd] at hf; cases hf).symm, fun ht j e hj he => ?_⟩⟩
    by_cases e1 : j = k
    · subst e1
      rw [hd] at he
      cases he
      exact ht
    · exact h5 j e (by omega) he
  · rintro - h5
    simp
    refine (validN_t ⟨by omega, by omega, fun d hd => by rw [hc] at hd; cases hd; exact hb, fun j e he => h5 j e ?_ he⟩).symm
    exact (Array.getElem?_eq_some_iff.1 he).1
end Go.Gv

namespace Go.Gv
set_option linter.unusedSimpArgs false
set_option linter.unusedVariables false
set_option maxRecDepth 100000
open Cod (enc dec)
variable {S S0 : Nat → Spc}
theorem take_all {α : Type} {l : List α} {k : Nat} {a : α} {P : α → Prop} (h : ∀ x ∈ l.take k, P x) (ha : l[k]? = some a) (hp : P a) : ∀ x ∈ l.take (k + 1), P x := by
  rw [take_snoc ha]
  intro x hx
  rcases List.mem_append.1 hx with hx | hx
  · exact h x hx
  · simp at hx
    subst hx
    exact hp
def PreN {X : Type} (m : X → Nat) (n : Nat) (x : X) : Prop := m x ≤ n
abbrev s_sameC (n : Nat) : Spc := spc (a2 Cond Cond) (PreN (fun x => cDep x.1) n) (enc (X := Bool)) fun x y => (y = true ↔ x.1 = x.2)
theorem cond_ext {a b : Cond} (h1 : a.op = b.op) (h2 : a.name = b.name) (h3 : a.arg = b.arg) (h4 : a.val = b.val) (h5 : a.lab = b.lab) (h6 : a.fold = b.fold) (h7 : a.kids = b.kids) : a = b := by
  cases a; cases b; simp only at *; subst h1; subst h2; subst h3; subst h4; subst h5; subst h6; subst h7; rfl
theorem w_r22_Same (n : Nat) (h1 : S f_r22_Same = s_sameC n) : Walk cc_r22_Same rs_r22_Same S (a2 Cond Cond) (PreN (fun x => cDep x.1) (n + 1)) (enc (X := Bool)) fun x y => (y = true ↔ x.1 = x.2) := by
  rintro ⟨a, b⟩ hn
  have hn : cDep a ≤ n + 1 := hn
  have hpre : ∀ k ∈ a.kids, ∀ y, PreN (fun x : Cond × Cond => cDep x.1) n (k, y) := fun k hk y => by have := cDep_kid hk; show cDep k ≤ n; omega
  simp [cc_r22_Same, rs_r22_Same]
  refine ⟨fun e1 => ⟨fun e2 => ⟨fun e3 => ⟨fun e4 => ⟨fun e5 => ⟨fun e6 _ _ => ⟨fun h e => h (by rw [e]), fun hl _ => ?_⟩, fun h e => h (by rw [e])⟩, fun h e => h (by rw [e])⟩, fun h e => h (by rw [e])⟩, fun h e => h (by rw [e])⟩, fun h e => h (by rw [e])⟩, fun h e => h (by rw [e])⟩
  refine vc_range (X := Unit) [2, 3] [] a.kids.length (fun k _ => a.kids.take k = b.kids.take k) (fun _ => []) (fun _ => []) () (by simp) (by simp) (by omega) (by simp) (by simp) (by simp) (by simp) (by simp) ?_ ?_
  · rintro k - hk hP
    obtain ⟨x, hx⟩ := at_lt hk
    obtain ⟨y, hy⟩ := at_lt (l := b.kids) (k := k) (by omega)
    have hx1 := mem_at hx
    obtain ⟨_, hgx⟩ := List.getElem?_eq_some_iff.1 hx
    obtain ⟨_, hgy⟩ := List.getElem?_eq_some_iff.1 hy
    simp [h1, hk, hx, hy, hgx, hgy, hpre x hx1, -Bool.forall_bool]
    refine ⟨by omega, fun r hr => ⟨fun hf e => ?_, fun ht => ?_⟩⟩
    · subst e
      rw [hx] at hy
      cases hy
      rw [hr.2 rfl] at hf
      cases hf
    · rw [take_snoc hx, take_snoc hy, hP, hr.1 ht]
  · rintro - hP
    simp
    have h8 : a.kids = b.kids := by
      rw [List.take_of_length_le (by omega), List.take_of_length_le (by omega)] at hP
      exact hP
    exact cond_ext e1 e2 e3 e4 e5 e6 h8
abbrev s_r23_shape : Spc := spc (a2 Pat Int) (fun _ => True) (enc (X := Bool)) fun x y => y = (decide (x.2 ≤ 100) && nodeB x.1)
abbrev s_sameA : Spc := spc (a2 Cond Cond) (fun _ => True) (enc (X := Bool)) fun x y => (y = true ↔ x.1 = x.2)
theorem w_r23_shape (h1 : S f_r22_Same = s_sameA) : Walk cc_r23_shape rs_r23_shape S (a2 Pat Int) (fun _ => True) (enc (X := Bool)) fun x y => y = (decide (x.2 ≤ 100) && nodeB x.1) := by
  rintro ⟨p, d⟩ -
  simp [cc_r23_shape, rs_r23_shape, h1, -Bool.forall_bool]
  clear h1
  refine ⟨fun h h' => absurd h (by omega), fun hd y hy => ?_⟩
  have hy : y = true ↔ p.cond = Cond0 := hy
  rw [decide_eq_true hd, Bool.true_and]
  revert hy
  revert y
  repeat' first | apply And.intro | intro _
  all_goals (rw [Bool.eq_iff_iff, nodeB_iff]; unfold NodeOk; simp_all; try omega)
abbrev s_shapes (n : Nat) : Spc := spc (a2 Pat Int) (fun x => pDep x.1 ≤ n ∧ 0 ≤ x.2 ∧ x.2 ≤ 101) (enc (X := Bool)) fun x y => y = (shallowB x.1 x.2 && everyB nodeB x.1)
theorem w_r23_shapes (n : Nat) (h1 : S f_r23_shape = s_r23_shape) (h2 : S f_r23_shapes = s_shapes n) : Walk cc_r23_shapes rs_r23_shapes S (a2 Pat Int) (fun x => pDep x.1 ≤ n + 1 ∧ 0 ≤ x.2 ∧ x.2 ≤ 101) (enc (X := Bool)) fun x y => y = (shallowB x.1 x.2 && everyB nodeB x.1) := by
  rintro ⟨p, d⟩ ⟨hn, hd0, hd1⟩
  have hpre : ∀ k ∈ p.kids, pDep k ≤ n := fun k hk => by have := pDep_kid hk; have : pDep p ≤ n + 1 := hn; omega
  simp only at hd0 hd1
  simp [cc_r23_shapes, rs_r23_shapes, h1]
  rw [shallowB_eq, everyB_eq]
  refine ⟨fun h => ?_, fun hd hnd _ => ?_⟩
  · simp only [Bool.and_eq_true, decide_eq_true_eq]
    intro h1
    rw [h h1.1, Bool.false_and]
  refine vc_range (X := Unit) [1, 12] [] p.kids.length (fun k _ => ∀ x ∈ p.kids.take k, (shallowB x (d + 1) && everyB nodeB x) = true) (fun _ => []) (fun _ => []) () (by simp) (by simp) (by omega) (by simp) (by simp) (by simp) (by simp) (by simp) ?_ ?_
  · rintro k - hk hP
    obtain ⟨x, hx⟩ := at_lt hk
    have hx1 := mem_at hx
    obtain ⟨_, hgx⟩ := List.getElem?_eq_some_iff.1 hx
    have q1 := hpre x hx1
    simp [h2, hk, hx, hgx, q1, -Bool.forall_bool]
    refine ⟨by simp only [InR]; omega, by omega, fun hf _ hall _ => ⟨x, hx1, hf (hall x hx1)⟩, fun t1 t2 => ?_⟩
    have := take_all (P := fun x => (shallowB x (d + 1) && everyB nodeB x) = true) hP hx (by simp [t1, t2])
    simpa using this
  · rintro - hP
    simp
    simp at hP
    simp [hnd, hd]
    exact ⟨fun x hx => (hP x hx).1, fun x hx => (hP x hx).2⟩
abbrev s_names (n : Nat) : Spc := spc (a1 Pat) (fun x => pDep x ≤ n) (enc (X := Bool)) fun x y => y = everyB (nameB validN) x
theorem w_r23_names (n : Nat) (h1 : S f_r04_ValidName = s_validN) (h2 : S f_r23_names = s_names n) : Walk cc_r23_names rs_r23_names S (a1 Pat) (fun x => pDep x ≤ n + 1) (enc (X := Bool)) fun x y => y = everyB (nameB validN) x := by
  rintro p hn
  have hpre : ∀ k ∈ p.kids, pDep k ≤ n := fun k hk => by have := pDep_kid hk; have : pDep p ≤ n + 1 := hn; omega
  simp [cc_r23_names, rs_r23_names, h1]
  refine vc_mid (X := Unit) [1] [] (fun _ => nameB validN p = true) (fun _ => []) (fun _ => []) ?_ ?_
  · simp [h1, nameB]
    rw [everyB_eq]
    unfold nameB
    repeat' first | apply And.intro | intro _
    all_goals (first | omega | simp_all; try omega)
  rintro - hnd
  rw [everyB_eq]
  simp
  intro _
  refine vc_range (X := Unit) [31] [] p.kids.length (fun k _ => ∀ x ∈ p.kids.take k, everyB (nameB validN) x = true) (fun _ => []) (fun _ => []) () (by simp) (by simp) (by omega) (by simp) (by simp) (by simp) (by simp) (by simp) ?_ ?_
  · rintro k - hk hP
    obtain ⟨x, hx⟩ := at_lt hk
    have hx1 := mem_at hx
    obtain ⟨_, hgx⟩ := List.getElem?_eq_some_iff.1 hx
    have q1 := hpre x hx1
    simp [h2, hk, hx, hgx, q1, -Bool.forall_bool]
    exact ⟨fun hf _ => ⟨x, hx1, hf⟩, fun ht => take_all hP hx ht⟩
  · rintro - hP
    simp
    simp at hP
    rw [hnd]
    simpa using hP
abbrev s_numbers (n : Nat) : Spc := spc (a1 Pat) (fun x => pDep x ≤ n) (enc (X := Bool)) fun x y => y = everyB numB x
theorem w_r23_numbers (n : Nat) (h2 : S f_r23_numbers = s_numbers n) : Walk cc_r23_numbers rs_r23_numbers S (a1 Pat) (fun x => pDep x ≤ n + 1) (enc (X := Bool)) fun x y => y = everyB numB x := by
  rintro p hn
  have hpre : ∀ k ∈ p.kids, pDep k ≤ n := fun k hk => by have := pDep_kid hk; have : pDep p ≤ n + 1 := hn; omega
  simp [cc_r23_numbers, rs_r23_numbers]
  refine vc_mid (X := Unit) [1] [] (fun _ => numB p = true) (fun _ => []) (fun _ => []) ?_ ?_
  · simp [numB]
    rw [everyB_eq]
    unfold numB
    repeat' first | apply And.intro | intro _
    all_goals (first | omega | (rw [Bool.eq_iff_iff]; simp; omega))
  rintro - hnd
  rw [everyB_eq]
  simp
  intro _
  refine vc_range (X := Unit) [36] [] p.kids.length (fun k _ => ∀ x ∈ p.kids.take k, everyB (numB) x = true) (fun _ => []) (fun _ => []) () (by simp) (by simp) (by omega) (by simp) (by simp) (by simp) (by simp) (by simp) ?_ ?_
  · rintro k - hk hP
    obtain ⟨x, hx⟩ := at_lt hk
    have hx1 := mem_at hx
    obtain ⟨_, hgx⟩ := List.getElem?_eq_some_iff.1 hx
    have q1 := hpre x hx1
    simp [h2, hk, hx, hgx, q1, -Bool.forall_bool]
    exact ⟨fun hf _ => ⟨x, hx1, hf⟩, fun ht => take_all hP hx ht⟩
  · rintro - hP
    simp
    simp at hP
    rw [hnd]
    simpa using hP
end Go.Gv

namespace Go.Gv
set_option linter.unusedSimpArgs false
set_option linter.unusedVariables false
set_option maxRecDepth 100000
open Cod (enc dec)
variable {S S0 : Nat → Spc}
theorem mul_rng {a b A B : Int} (h0 : 0 ≤ a) (h1 : a ≤ A) (h2 : 0 ≤ b) (h3 : b ≤ B) : 0 ≤ a * b ∧ a * b ≤ A * B := ⟨Int.mul_nonneg h0 h2, Int.mul_le_mul h1 h3 h2 (by omega)⟩
def PPat (n : Nat) (p : Pat) : Prop := pDep p ≤ n ∧ patB validN p = true
theorem PPat.kid {n : Nat} {p k : Pat} (h : PPat (n + 1) p) (hk : k ∈ p.kids) : PPat n k := by
  have h1 := pDep_kid hk
  have h2 := h.1
  exact ⟨by omega, patB_kid h.2 hk⟩
abbrev s_r23_IsPattern : Spc := spc (a1 Pat) (fun _ => True) (enc (X := Bool)) fun x y => y = patB validN x
abbrev s_shapesA : Spc := spc (a2 Pat Int) (fun x => 0 ≤ x.2 ∧ x.2 ≤ 101) (enc (X := Bool)) fun x y => y = (shallowB x.1 x.2 && everyB nodeB x.1)
abbrev s_namesA : Spc := spc (a1 Pat) (fun _ => True) (enc (X := Bool)) fun x y => y = everyB (nameB validN) x
abbrev s_numbersA : Spc := spc (a1 Pat) (fun _ => True) (enc (X := Bool)) fun x y => y = everyB numB x
theorem w_r23_IsPattern (h1 : S f_r23_shapes = s_shapesA) (h2 : S f_r23_names = s_namesA) (h3 : S f_r23_numbers = s_numbersA) : Walk cc_r23_IsPattern rs_r23_IsPattern S (a1 Pat) (fun _ => True) (enc (X := Bool)) fun x y => y = patB validN x := by
  rintro p -
  simp [cc_r23_IsPattern, rs_r23_IsPattern, h1, h2, h3, patB, -Bool.forall_bool]
  clear h1 h2 h3
  refine ⟨fun h1 h2 => ⟨fun h3 _ => ⟨⟨h1, h2⟩, h3⟩, fun h3 _ _ h4 => absurd h4 (by rw [h3]; simp)⟩, fun h h1 h2 => absurd h2 (by rw [h h1]; simp)⟩
abbrev s_size (n : Nat) : Spc := spc (a1 Pat) (PPat n) (enc (X := Int)) fun x y => y = sizeP x
theorem w_r23_size (n : Nat) (h1 : S f_r23_size = s_size n) : Walk cc_r23_size rs_r23_size S (a1 Pat) (PPat (n + 1)) (enc (X := Int)) fun x y => y = sizeP x := by
  rintro p hp
  have hk : ∀ k ∈ p.kids, PPat n k := fun k => hp.kid
  have hs : ∀ k ∈ p.kids, 0 ≤ sizeP k ∧ sizeP k ≤ 1000 := fun k h => sizeP_rng (v := validN) k (hk k h).2
  simp [cc_r23_size, rs_r23_size]
  intro _
  refine ⟨fun h => by rw [sizeP_eq, sizeN, if_pos h], fun h0 _ => ?_⟩
  refine vc_range (X := Int) [1, 11] [] p.kids.length (fun k n => n = sizePs (p.kids.take k) 0) (fun n => [(3, enc n)]) (fun _ => []) 0 (by simp) (by simp) (by omega) (by simp) (by simp) (by simp [sizePs]) (by simp) (by simp) ?_ ?_
  · rintro k m hkl hP
    obtain ⟨x, hx⟩ := at_lt hkl
    have hx1 := mem_at hx
    obtain ⟨_, hgx⟩ := List.getElem?_eq_some_iff.1 hx
    have hm := sizePs_rng (p.kids.take k) 0 (by omega) (by omega) (fun y hy => (hs y (List.mem_of_mem_take hy)).1)
    have h2 := hs x hx1
    rw [← hP] at hm
    have q1 := hk x hx1
    simp [h1, hkl, hx, hgx, q1]
    refine ⟨by simp only [InR]; omega, ?_⟩
    rw [take_snoc hx, sizePs_app, ← hP, sizePs, sizePs]
  · rintro m hP
    have hm := sizePs_rng (p.kids.take p.kids.length) 0 (by omega) (by omega) (fun y hy => (hs y (List.mem_of_mem_take hy)).1)
    rw [← hP] at hm
    rw [List.take_length] at hP
    have hn := (patB_node hp.2).2.2
    unfold numB at hn
    rw [decide_eq_true_eq] at hn
    rw [sizeP_eq, sizeN, if_neg h0, ← hP]
    simp
    refine ⟨fun h6 => ?_, fun h6 => ?_⟩
    · have hn := hn h6
      simp only [h6, if_true]
      refine ⟨fun e => ?_, fun e => ⟨fun e2 => ?_, fun e2 => ?_⟩⟩
      · have h1 : max 1 (p.mn + 1) = p.mn + 1 := by omega
        have h2 := mul_rng hm.1 hm.2 (show 0 ≤ p.mn + 1 by omega) (show p.mn + 1 ≤ 17 by omega)
        rw [h1, if_pos e]
        exact ⟨by simp only [InR]; omega, by simp only [InR]; omega, rfl⟩
      · rw [if_neg e, if_pos e2]; omega
      · have h2 := mul_rng hm.1 hm.2 (show 0 ≤ p.mx by omega) (show p.mx ≤ 16 by omega)
        rw [if_neg e, if_neg e2]
        exact ⟨by simp only [InR]; omega, rfl⟩
    · simp only [h6, if_false]
      omega
abbrev s_width (n : Nat) : Spc := spc (a1 Pat) (PPat n) (er2 (Y := Int) (Z := Int)) fun x y => y = widP x
theorem w_r23_width (n : Nat) (h1 : S f_r23_width = s_width n) : Walk cc_r23_width rs_r23_width S (a1 Pat) (PPat (n + 1)) (er2 (Y := Int) (Z := Int)) fun x y => y = widP x := by
  rintro p hp
  have hk : ∀ k ∈ p.kids, PPat n k := fun k => hp.kid
  have hs : ∀ k ∈ p.kids, WidOk (widP k) := fun k h => widP_ok (v := validN) k (hk k h).2
  have hn := (patB_node hp.2).2.2
  unfold numB at hn
  rw [decide_eq_true_eq] at hn
  rcases node_kids (patB_node hp.2).1 with ⟨ho, _⟩ | ⟨ho, _⟩ | ⟨ho, k0, ks, hkk⟩ | ⟨ho, k0, hkk⟩
  · simp [cc_r23_width, rs_r23_width, h1, ho, widP1 ho]
  · have := widP2 ho
    rcases ho with ho | ho <;> simp [cc_r23_width, rs_r23_width, h1, ho, this]
  · have hc : p.op ≠ 1 ∧ p.op ≠ 2 ∧ p.op ≠ 3 ∧ p.op ≠ 6 := by omega
    simp [cc_r23_width, rs_r23_width, h1, hc, er2]
    intro _
    refine vc_range (X := Int × Int) [1, 55] [] p.kids.length (fun k w => (k = 0 → w = (0, 0)) ∧ (0 < k → w = widPs (decide (p.op = 4)) (ks.take (k - 1)) (widP k0)) ∧ WidOk w) (fun w => [(6, enc w.1), (7, enc w.2)]) (fun _ => []) (0, 0) (by simp) (by simp) (by omega) (by simp) (by simp) (by simp [WidOk]) (by simp) (by simp) ?_ ?_
    · rintro k w hkl ⟨hP0, hP1, hP2⟩
      obtain ⟨x, hx⟩ := at_lt hkl
      have hx1 := mem_at hx
      obtain ⟨_, hgx⟩ := List.getElem?_eq_some_iff.1 hx
      have q1 := hk x hx1
      have q2 := hs x hx1
      have key : (0 < k → ∀ r : Int × Int, r = widC (decide (p.op = 4)) w (widP x) → r = widPs (decide (p.op = 4)) (ks.take (k + 1 - 1)) (widP k0) ∧ WidOk r) ∧ (k = 0 → ∀ r : Int × Int, r = widP x → r = widPs (decide (p.op = 4)) (ks.take (k + 1 - 1)) (widP k0) ∧ WidOk r) := by
        refine ⟨fun h0 r hr => ?_, fun h0 r hr => ?_⟩
        · obtain ⟨j, rfl⟩ : ∃ j, k = j + 1 := ⟨k - 1, by omega⟩
          rw [hkk, List.getElem?_cons_succ] at hx
          rw [Nat.add_sub_cancel, take_snoc hx, widPs_app, widPs, widPs]
          have e := hP1 h0
          rw [Nat.add_sub_cancel] at e
          rw [← e]
          exact ⟨hr, by rw [hr]; exact widC_ok hP2 q2⟩
        · subst h0
          rw [hkk, List.getElem?_cons_zero] at hx
          cases hx
          exact ⟨by rw [hr]; rfl, by rw [hr]; exact q2⟩
      simp [h1, hkl, hx, hgx, q1, er2]
      clear h1
      have fin : ∀ a b : Int, (0 < k → (a, b) = widC (decide (p.op = 4)) w (widP x)) → (k = 0 → (a, b) = widP x) → ((a, b) = widPs (decide (p.op = 4)) (List.take k ks) (widP k0) ∧ WidOk (a, b)) := by
        intro a b f1 f2
        rcases Nat.eq_zero_or_pos k with h | h
        · exact key.2 h _ (f2 h)
        · exact key.1 h _ (f1 h)
      clear key
      generalize widP x = u at q2 fin
      obtain ⟨u1, u2⟩ := u
      obtain ⟨w1, w2⟩ := w
      unfold WidOk at q2 hP2
      simp only at q2 hP2
      simp only [Prod.mk.injEq] at hP0
      refine ⟨fun h4 => ⟨by simp only [InR]; omega, fun e1 => ⟨fun e2 => fin _ _ (fun _ => ?_) (fun h => ?_), fun e2 => ⟨by simp only [InR]; omega, fin _ _ (fun _ => ?_) (fun h => ?_)⟩⟩, fun e1 => fin _ _ (fun _ => ?_) (fun h => ?_)⟩, fun h4 => ⟨fun h0 => fin _ _ (fun h => absurd h (by omega)) (fun h => rfl), fun h0 => ⟨fun e1 => ⟨fun e2 => fin _ _ (fun _ => ?_) (fun h => absurd h h0), fun e2 => fin _ _ (fun _ => ?_) (fun h => absurd h h0)⟩, fun e1 => fin _ _ (fun _ => ?_) (fun h => absurd h h0)⟩⟩⟩
      all_goals (try simp only at e1)
      all_goals (try simp only at e2)
      all_goals first | (have hw := hP0 h; simp only [Prod.mk.injEq]; omega) | (unfold widC; simp [h4, e1, e2]; done) | (unfold widC; simp [h4, e1]; done) | (unfold widC; simp [h4]; omega)
    · rintro w ⟨_, hP, _⟩
      simp [er2]
      rw [widP4 ho hkk]
      have := hP (by rw [hkk]; simp)
      rw [hkk, List.length_cons, Nat.add_sub_cancel, List.take_length] at this
      rw [← this]
  · have q1 := hk k0 (by rw [hkk]; simp)
    have q2 := hs k0 (by rw [hkk]; simp)
    have hn := hn ho
    simp [cc_r23_width, rs_r23_width, h1, ho, hkk, q1, er2]
    rw [widP6 ho hkk]
    generalize widP k0 = w at q2
    unfold WidOk at q2
    have h2 := mul_rng q2.1 q2.2.1 hn.1 hn.2.1
    refine ⟨fun e1 => ⟨fun e2 => ⟨by simp only [InR]; omega, by rw [if_pos (.inr e2)]⟩, fun e2 => ⟨fun e3 => ⟨fun e4 => ⟨by simp only [InR]; omega, ?_⟩, fun e4 => ?_⟩, fun e3 => ⟨by simp only [InR]; omega, ?_⟩⟩⟩, fun e1 => ⟨by simp only [InR]; omega, by rw [if_pos (.inl e1)]⟩⟩
    · rw [if_neg (by omega), if_pos (.inr e4)]
    · have h3 := mul_rng (show 0 ≤ w.2 by omega) q2.2.2.2 (show 0 ≤ p.mx by omega) (show p.mx ≤ 16 by omega)
      refine ⟨by simp only [InR]; omega, by simp only [InR]; omega, ?_⟩
      rw [if_neg (by omega), if_neg (by omega)]
    · rw [if_neg (by omega), if_pos (.inl e3)]
end Go.Gv

namespace Go.Gv
set_option linter.unusedSimpArgs false
set_option linter.unusedVariables false
set_option linter.unusedSectionVars false
open Cod (enc dec)

section
variable {X Y : Type} [Cod X] [Cod Y]
def i2PT (pre : X → List Y → Prop) (post : X → List Y → List Y → Prop) (el n : Nat) : PT := fun d ds H K => ∃ id v l a x, ds = [a, .own id v] ∧ dec a = some x ∧ H id = some (.row v el n (l.map enc)) ∧ pre x l ∧
  ∀ v' l', post x l l' → K (.own id v') (updH H id (some (.row v' el n (l'.map enc))))
theorem i2_mono (pre : X → List Y → Prop) (post : X → List Y → List Y → Prop) (el n : Nat) : MonoPT (i2PT pre post el n) := fun d ds H K K' hk ⟨id, v, l, a, x, h1, h2, h3, h4, h5⟩ => ⟨id, v, l, a, x, h1, h2, h3, h4, fun v' l' hp => hk _ _ (h5 v' l' hp)⟩
/-- A function of x and of a slice of the caller's own, which it gives back changed. -/
def i2C (pre : X → List Y → Prop) (post : X → List Y → List Y → Prop) (el n : Nat) : Spc := .gen _ (i2_mono pre post el n)
def i2X (pre : X → List Y → Prop) (post : X → List Y → List Y → Prop) (el n id : Nat) (v : Value) (o : Option X) (r : Option Res) (H : HMap) (K : D → HMap → Prop) : Prop := ∃ l, r = some (.row v el n (l.map enc)) ∧ optX o fun x => pre x l ∧ ∀ v' l', post x l l' → K (.own id v') (updH H id (some (.row v' el n (l'.map enc))))
@[congr] theorem i2X_cg {pre : X → List Y → Prop} {post : X → List Y → List Y → Prop} {el n id : Nat} {v : Value} {o o' : Option X} {r r' : Option Res} {H : HMap} {K : D → HMap → Prop} (h1 : o = o') (h2 : r = r') : i2X pre post el n id v o r H K = i2X pre post el n id v o' r' H K := by subst h1; subst h2; rfl
@[simp] theorem i2C_pt (pre : X → List Y → Prop) (post : X → List Y → List Y → Prop) (el n : Nat) (d i : Nat) (a : D) (v : Value) (H : HMap) (K : D → HMap → Prop) : (i2C pre post el n).pt d [a, .own i v] H K = i2X pre post el n i v (dec a) (H i) H K := by
  refine propext ⟨fun h => ?_, fun h => ?_⟩
  · obtain ⟨id, v, l, a, x, h1, h2, h3, h4, h5⟩ := h
    cases h1
    refine ⟨l, h3, ?_⟩
    rw [h2]
    exact ⟨h4, h5⟩
  · obtain ⟨l, h1, h2⟩ := h
    cases hd : dec (X := X) a with
    | none => rw [hd] at h2; exact h2.elim
    | some x => rw [hd] at h2; exact ⟨i, v, l, a, x, rfl, hd, h1, h2.1, h2.2⟩
@[simp] theorem i2X_r (pre : X → List Y → Prop) (post : X → List Y → List Y → Prop) (el n id : Nat) (v : Value) (o : Option X) (l : List Y) (H : HMap) (K : D → HMap → Prop) : i2X pre post el n id v o (some (.row v el n (l.map enc))) H K = optX o fun x => pre x l ∧ ∀ v' l', post x l l' → K (.own id v') (updH H id (some (.row v' el n (l'.map enc)))) := by
  refine propext ⟨fun ⟨l', h1, h2⟩ => ?_, fun h => ⟨l, rfl, h⟩⟩
  simp at h1
  subst h1
  exact h2
def WalkI2 (cc : CC) (rs : List CRes) (S : Nat → Spc) (pre : X → List Y → Prop) (post : X → List Y → List Y → Prop) (el n : Nat) : Prop :=
  ∀ v l x, pre x l → vc S cc (retK rs fun r H' => FinF el n (post x l) r H') (initS [enc x, .own 1 v]) (updH noH 1 (some (.row v el n (l.map enc))))
variable {P : Program} {S : Nat → Spc} {f : Nat} {im : List Nat} {cc : CC} {rs : List CRes} {N : Nat} {el n : Nat}
theorem tri_walkI2 {pre : X → List Y → Prop} {post : X → List Y → List Y → Prop} (hS : ∀ f, Tri P f (S f).pt) (h : FnOk P f im cc rs N) (hN : 2 ≤ N) (hw : WalkI2 cc rs S pre post el n) : Tri P f (i2C pre post el n).pt := by
  obtain ⟨mix, enter, fn, code, h1, h2, h3, h4, h5⟩ := h
  refine tri_of_vc hS mix h1 h2 enter h3 h4 h5 ?_
  rintro ds H d K ⟨id, v, l, a, x, rfl, hd, hid, hp, hK⟩
  have hl := Cod.le _ _ hd
  refine ⟨hN, [enc x, .own 1 v], updH noH 1 (some (.row v el n (l.map enc))), fun _ => id, .cons hl (.cons (.own _ _ _) .nil), fun i r h => ?_, fun i j r s h h' _ => ?_, _, hw v l x hp, ?_⟩
  · by_cases e : i = 1
    · subst e
      simp only [updH, if_true] at h
      cases h
      exact hid
    · simp [updH, e] at h
  · have a : i = 1 := by
      by_cases e : i = 1
      · exact e
      · simp [updH, e] at h
    have b : j = 1 := by
      by_cases e : j = 1
      · exact e
      · simp [updH, e] at h'
    exact a.trans b.symm
  · rintro r H' ⟨j, v', l', rfl, hj, hpost⟩
    refine ⟨.own id v', noH, updH H id (some (.row v' el n (l'.map enc))), fun i => if i = id then some j else none, .own _ _ _, fun j q h => by simp at h, hK v' l' hpost, fun i s hi => ?_, fun i j' k s q hi hj' e1 e2 => ?_⟩
    · by_cases e : i = id
      · subst e
        simp only [updH, if_true] at hi
        cases hi
        simpa using hj
      · simp only [updH, e, if_false] at hi ⊢
        exact ⟨hi, fun k q h he => e he.symm⟩
    · have a : i = id := by
        by_cases e : i = id
        · exact e
        · simp [e] at e1
      have b : j' = id := by
        by_cases e : j' = id
        · exact e
        · simp [e] at e2
      exact a.trans b.symm
end

/-! ### A box, more arguments, a result, resources of fixed names -/
section
variable {X Y Z : Type}
structure BoxF (X : Type) where
  ids : List Nat
  ce : X → List D
  hp : X → List (Nat × Res)
  keys : ∀ x, (hp x).map (·.1) = ids
theorem addN_mem : ∀ {l : List (Nat × Res)} {i : Nat} {s : Res}, addH l noH i = some s → (i, s) ∈ l
  | [], i, s, h => by simp [addH, noH] at h
  | (j, r) :: l, i, s, h => by
    simp only [addH, updH] at h
    by_cases e : i = j
    · subst e
      simp only [if_true] at h
      cases h
      simp
    · simp only [e, if_false] at h
      exact List.mem_cons_of_mem _ (addN_mem h)
theorem addN_key : ∀ {l : List (Nat × Res)} {H : HMap} {i : Nat} {s : Res}, i ∈ l.map (·.1) → addH l H i = some s → (i, s) ∈ l
  | (j, r) :: l, H, i, s, hi, h => by
    simp only [addH, updH] at h
    by_cases e : i = j
    · subst e
      simp only [if_true] at h
      cases h
      simp
    · simp only [e, if_false] at h
      simp [e] at hi
      refine List.mem_cons_of_mem _ (addN_key (H := H) ?_ h)
      simpa using hi
theorem addN_off : ∀ {l : List (Nat × Res)} {H : HMap} {i : Nat}, i ∉ l.map (·.1) → addH l H i = H i
  | [], H, i, _ => rfl
  | (j, r) :: l, H, i, hi => by
    simp only [List.map_cons, List.mem_cons, not_or] at hi
    simp only [addH, updH, hi.1, if_false]
    exact addN_off hi.2
def bpPT (B : BoxF X) (A : Arg Z) (er : Y → D) (pre : X → Z → Prop) (post : X → Z → X → Y → Prop) : PT := fun d ds H K => ∃ id b x z ds', ds = .bptr id b 0 :: ds' ∧ A.dec ds' = some z ∧ H id = some (.box b (B.ce x)) ∧ (∀ p ∈ B.hp x, H p.1 = some p.2) ∧ id ∉ B.ids ∧ pre x z ∧
  ∀ x' y, post x z x' y → K (er y) (updH (addH (B.hp x') H) id (some (.box b (B.ce x'))))
theorem bp_mono (B : BoxF X) (A : Arg Z) (er : Y → D) (pre : X → Z → Prop) (post : X → Z → X → Y → Prop) : MonoPT (bpPT B A er pre post) := fun d ds H K K' hk ⟨id, b, x, z, ds', h1, h2, h3, h4, h5, h6, h7⟩ => ⟨id, b, x, z, ds', h1, h2, h3, h4, h5, h6, fun x' y hp => hk _ _ (h7 x' y hp)⟩
def bpC (B : BoxF X) (A : Arg Z) (er : Y → D) (pre : X → Z → Prop) (post : X → Z → X → Y → Prop) : Spc := .gen _ (bp_mono B A er pre post)
def FinBP (B : BoxF X) (er : Y → D) (b : Nat) (post : X → Y → Prop) (r : D) (H : HMap) : Prop := ∃ x y, FrzTo (fun i => if i = 0 ∨ i ∈ B.ids then none else H i) r (er y) ∧ H 0 = some (.box b (B.ce x)) ∧ (∀ p ∈ B.hp x, H p.1 = some p.2) ∧ post x y
def WalkBP (cc : CC) (rs : List CRes) (S : Nat → Spc) (B : BoxF X) (A : Arg Z) (er : Y → D) (pre : X → Z → Prop) (post : X → Z → X → Y → Prop) : Prop :=
  ∀ b x z, pre x z → vc S cc (retK rs fun r H' => FinBP B er b (post x z) r H') (initS (.bptr 0 b 0 :: A.view z)) (updH (addH (B.hp x) noH) 0 (some (.box b (B.ce x))))
variable {P : Program} {S : Nat → Spc} {f : Nat} {im : List Nat} {cc : CC} {rs : List CRes} {N : Nat}
theorem tri_walkBP {B : BoxF X} {A : Arg Z} {er : Y → D} {pre : X → Z → Prop} {post : X → Z → X → Y → Prop} (h1i : 0 ∉ B.ids) (hS : ∀ f, Tri P f (S f).pt) (h : FnOk P f im cc rs N) (hN : ∀ z, (A.view z).length + 1 ≤ N) (hw : WalkBP cc rs S B A er pre post) : Tri P f (bpC B A er pre post).pt := by
  obtain ⟨mix, enter, fn, code, h1, h2, h3, h4, h5⟩ := h
  refine tri_of_vc hS mix h1 h2 enter h3 h4 h5 ?_
  rintro ds H d K ⟨id, b, x, z, ds', rfl, hd, hid, hhp, hni, hp, hK⟩
  have hl := A.le ds' z hd
  have h0 : ∀ i r, updH (addH (B.hp x) noH) 0 (some (.box b (B.ce x))) i = some r → i = 0 ∧ r = .box b (B.ce x) ∨ i ≠ 0 ∧ (i, r) ∈ B.hp x := by
    intro i r h
    by_cases e : i = 0
    · subst e
      simp only [updH, if_true] at h
      cases h
      exact .inl ⟨rfl, rfl⟩
    · simp only [updH, e, if_false] at h
      exact .inr ⟨e, addN_mem h⟩
  have hk : ∀ {x : X} {i : Nat} {r : Res}, (i, r) ∈ B.hp x → i ∈ B.ids := by
    intro x i r h
    rw [← B.keys x]
    exact List.mem_map.2 ⟨_, h, rfl⟩
  refine ⟨by simp only [List.length_cons]; rw [hl.1]; exact hN z, .bptr 0 b 0 :: A.view z, updH (addH (B.hp x) noH) 0 (some (.box b (B.ce x))), fun i => if i = 0 then id else i, .cons (.bptr _ _ _ _) hl, fun i r h => ?_, fun i j r s h h' e => ?_, _, hw b x z hp, ?_⟩
  · rcases h0 i r h with ⟨rfl, rfl⟩ | ⟨e, hm⟩
    · exact hid
    · simp only [e, if_false]
      exact hhp _ hm
  · rcases h0 i r h with ⟨rfl, rfl⟩ | ⟨e1, hm⟩
    · rcases h0 j s h' with ⟨rfl, rfl⟩ | ⟨e2, hm2⟩
      · rfl
      · simp only [e2, if_true, if_false] at e
        subst e
        exact absurd (hk hm2) hni
    · rcases h0 j s h' with ⟨rfl, rfl⟩ | ⟨e2, hm2⟩
      · simp only [e1, if_true, if_false] at e
        subst e
        exact absurd (hk hm) hni
      · simpa only [e1, e2, if_false] using e
  · rintro r H' ⟨x', y, hfr, hj, hhp', hpost⟩
    refine ⟨er y, fun i => if i = 0 ∨ i ∈ B.ids then none else H' i, updH (addH (B.hp x') H) id (some (.box b (B.ce x'))), fun i => if i = id then some 0 else if i ∈ B.ids then some i else none, hfr, fun j q h => ?_, hK x' y hpost, fun i s hi => ?_, fun i j' k s q hi hj' e1 e2 => ?_⟩
    · by_cases e : j = 0 ∨ j ∈ B.ids
      · simp [e] at h
      · simp only [e, if_false] at h
        refine ⟨h, fun i hh => e ?_⟩
        by_cases e1 : i = id
        · simp only [e1, if_true] at hh
          cases hh
          exact .inl rfl
        · simp only [e1, if_false] at hh
          by_cases e2 : i ∈ B.ids
          · simp only [e2, if_true] at hh
            cases hh
            exact .inr e2
          · simp [e2] at hh
    · by_cases e : i = id
      · subst e
        simp only [updH, if_true] at hi
        cases hi
        simpa using hj
      · simp only [updH, e, if_false] at hi ⊢
        by_cases e2 : i ∈ B.ids
        · simp only [e2, if_true]
          exact hhp' _ (addN_key (by rw [B.keys]; exact e2) hi)
        · simp only [e2, if_false]
          rw [addN_off (by rw [B.keys]; exact e2)] at hi
          refine ⟨hi, fun k q h he => ?_⟩
          rcases h0 k q h with ⟨rfl, rfl⟩ | ⟨e3, hm⟩
          · simp only [if_true] at he
            exact e he.symm
          · simp only [e3, if_false] at he
            subst he
            exact e2 (hk hm)
    · by_cases c1 : i = id
      · by_cases c2 : j' = id
        · exact c1.trans c2.symm
        · simp only [c1, if_true] at e1
          cases e1
          simp only [c2, if_false] at e2
          by_cases c3 : j' ∈ B.ids
          · simp only [c3, if_true] at e2
            cases e2
            exact absurd c3 h1i
          · simp [c3] at e2
      · simp only [c1, if_false] at e1
        by_cases c3 : i ∈ B.ids
        · simp only [c3, if_true] at e1
          cases e1
          by_cases c2 : j' = id
          · simp only [c2, if_true] at e2
            cases e2
            exact absurd c3 h1i
          · simp only [c2, if_false] at e2
            by_cases c4 : j' ∈ B.ids
            · simp only [c4, if_true] at e2
              cases e2
              rfl
            · simp [c4] at e2
        · simp [c3] at e1

/-- Where the box holds data only, and what it holds can be read. -/
def boxD {X : Type} (ce : X → List D) : BoxF X := ⟨[], ce, fun _ => [], fun _ => rfl⟩
def bpX (ce : X → List D) (rd : List D → Option X) (er : Y → D) (pre : X → Z → Prop) (post : X → Z → X → Y → Prop) (id b : Nat) (r : Option Res) (o : Option Z) (H : HMap) (K : D → HMap → Prop) : Prop :=
  match r with
  | some (.box b' cs) => b' = b ∧ optX (rd cs) fun x => optX o fun z => pre x z ∧ ∀ x' y, post x z x' y → K (er y) (updH H id (some (.box b (ce x'))))
  | _ => False
@[congr] theorem bpX_cg {ce : X → List D} {rd : List D → Option X} {er : Y → D} {pre : X → Z → Prop} {post : X → Z → X → Y → Prop} {id b : Nat} {r r' : Option Res} {o o' : Option Z} {H : HMap} {K : D → HMap → Prop} (h1 : r = r') (h2 : o = o') : bpX ce rd er pre post id b r o H K = bpX ce rd er pre post id b r' o' H K := by subst h1; subst h2; rfl
@[simp] theorem bpX_b (ce : X → List D) (rd : List D → Option X) (er : Y → D) (pre : X → Z → Prop) (post : X → Z → X → Y → Prop) (id b : Nat) (cs : List D) (o : Option Z) (H : HMap) (K : D → HMap → Prop) : bpX ce rd er pre post id b (some (.box b cs)) o H K = optX (rd cs) fun x => optX o fun z => pre x z ∧ ∀ x' y, post x z x' y → K (er y) (updH H id (some (.box b (ce x')))) := by
  simp [bpX]
end
end Go.Gv
