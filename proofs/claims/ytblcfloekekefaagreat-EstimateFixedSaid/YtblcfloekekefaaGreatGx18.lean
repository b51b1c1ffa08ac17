/- A part of the framework and of the walks: W35 V5 W38 V6 V7 V8 V9 V10. -/
import Derived.Test.YtblcfloekekefaaGreatGx17
import Derived.Test.YtblcfloekekefaaGreatGx16

namespace Go.Gv
set_option linter.unusedSimpArgs false
set_option linter.unusedVariables false
set_option maxRecDepth 100000
open Cod (enc dec)
variable {S S0 : Nat → Spc}
abbrev nilDp : D := .v (.slice none 0 0)
def PLv (x : Pat) (l : List Pat) : Prop := l.length + (leavesP x).length ≤ 100000000
abbrev i_leaves (n : Nat) : Spc := i2C (X := Pat) (Y := Pat) (fun x l => pDep x ≤ n ∧ PLv x l) (fun x l r => r = l ++ leavesP x) ty_Pattern 13
abbrev i_leavesA : Spc := i2C (X := Pat) (Y := Pat) (fun x l => PLv x l) (fun x l r => r = l ++ leavesP x) ty_Pattern 13
theorem lv_app {ks : List Pat} {k : Nat} {x : Pat} (l : List Pat) (hx : ks[k]? = some x) : (l ++ (ks.take k).flatMap leavesP) ++ leavesP x = l ++ (ks.take (k + 1)).flatMap leavesP := by
  rw [take_snoc hx, List.flatMap_append, List.flatMap_singleton, List.append_assoc]
theorem lv_len {ks : List Pat} {k : Nat} {x : Pat} {l : List Pat} (hx : ks[k]? = some x) (h : l.length + (ks.flatMap leavesP).length ≤ 100000000) : PLv x (l ++ (ks.take k).flatMap leavesP) := by
  have : ks = ks.take k ++ x :: ks.drop (k + 1) := by rw [← drop_cons_of hx, List.take_append_drop]
  rw [this] at h
  simp only [List.flatMap_append, List.flatMap_cons, List.length_append] at h
  unfold PLv
  rw [List.length_append]
  omega
theorem w_r23_leaves (n : Nat) (h1 : S f_r23_leaves = i_leaves n) : WalkI2 (X := Pat) (Y := Pat) cc_r23_leaves rs_r23_leaves S (fun x l => pDep x ≤ n + 1 ∧ PLv x l) (fun x l r => r = l ++ leavesP x) ty_Pattern 13 := by
  rintro v l p ⟨hp, hl⟩
  have hk : ∀ k ∈ p.kids, pDep k ≤ n := fun k hk => by have := pDep_kid hk; have : pDep p ≤ n + 1 := hp; omega
  have hl' := hl
  unfold PLv at hl'
  rw [leavesP_eq] at hl'
  simp [cc_r23_leaves, rs_r23_leaves]
  refine ⟨fun h1 => ⟨by simp [h1] at hl'; omega, by simp [h1] at hl'; omega, fun v => finF_of (l ++ leavesP p) (by simp [leavesP_eq, h1]) rfl⟩, fun hne _ => ?_⟩
  rw [if_neg hne] at hl'
  refine vc_range (X := Value × List Pat) [15] [] p.kids.length (fun k x => x.2 = l ++ (p.kids.take k).flatMap leavesP) (fun x => [(1, .own 1 x.1)]) (fun x => [(1, .row x.1 ty_Pattern 13 (x.2.map enc))]) (v, l) (by simp) (by simp) (by omega) (by simp) (by simp) (by simp) (by simp) (by simp [isNilRow]) ?_ ?_
  · rintro k ⟨v, m⟩ hkl hm
    simp only at hm
    obtain ⟨x, hx⟩ := at_lt hkl
    have hx1 := mem_at hx
    obtain ⟨_, hgx⟩ := List.getElem?_eq_some_iff.1 hx
    have q1 := lv_len hx hl'
    rw [← hm] at q1
    have q2 := hk x hx1
    simp [h1, hkl, hx, hgx, q1, q2]
    intro v'
    refine .inl ?_
    rw [hm, lv_app _ hx]
  · rintro ⟨v, m⟩ hm
    simp only at hm
    rw [List.take_length] at hm
    simp
    refine finF_of m (by simp) ?_
    rw [hm, leavesP_eq, if_neg hne]
    
abbrev f_leaves : Spc := frC (Y := Pat) (aE Pat (aD a0)) (fun x => x.2.1 = nilDp ∧ PLv x.1 []) (fun x r => r = leavesP x.1) ty_Pattern 13
theorem w_r23_leavesF (h1 : S f_r23_leaves = i_leavesA) : WalkF (Y := Pat) cc_r23_leaves rs_r23_leaves S (aE Pat (aD a0)) (fun x => x.2.1 = nilDp ∧ PLv x.1 []) (fun x r => r = leavesP x.1) ty_Pattern 13 := by
  rintro ⟨p, d, ⟨⟩⟩ ⟨hd, hl⟩
  have hd : d = nilDp := hd
  subst hd
  have hl' : ([] : List Pat).length + (leavesP p).length ≤ 100000000 := hl
  rw [leavesP_eq] at hl'
  simp [cc_r23_leaves, rs_r23_leaves]
  refine ⟨fun h1 v => finF_of (leavesP p) (by simp [leavesP_eq, h1]) rfl, fun hne _ => ?_⟩
  rw [if_neg hne] at hl'
  refine vc_range (X := Value × List Pat) [15] [] p.kids.length (fun k x => x.2 = [] ++ (p.kids.take k).flatMap leavesP) (fun x => [(1, .own 1 x.1)]) (fun x => [(1, .row x.1 ty_Pattern 13 (x.2.map enc))]) (.slice none 0 0, []) (by simp) (by simp) (by omega) (by simp) (by simp) (by simp) (by simp) (by simp [isNilRow]) ?_ ?_
  · rintro k ⟨v, m⟩ hkl hm
    simp only at hm
    obtain ⟨x, hx⟩ := at_lt hkl
    have hx1 := mem_at hx
    obtain ⟨_, hgx⟩ := List.getElem?_eq_some_iff.1 hx
    have q1 := lv_len hx hl'
    rw [← hm] at q1
    
    simp [h1, hkl, hx, hgx, q1]
    intro v'
    refine .inl ?_
    rw [hm, lv_app _ hx]
    rfl
  · rintro ⟨v, m⟩ hm
    simp only at hm
    rw [List.take_length] at hm
    simp
    refine finF_of m (by simp) ?_
    rw [hm, leavesP_eq, if_neg hne]
    rfl
abbrev s_leaves : Spc := orC f_leaves i_leavesA
abbrev s_r23_Leaves : Spc := spc (a1 Pat) (fun x => (leavesP x).length ≤ 100000000) (enc (X := List Pat)) fun x y => y = if patB validN x then leavesP x else []
theorem w_r23_Leaves (h1 : S f_r23_IsPattern = s_r23_IsPattern) (h2 : S f_r23_leaves = s_leaves) : Walk cc_r23_Leaves rs_r23_Leaves S (a1 Pat) (fun x => (leavesP x).length ≤ 100000000) (enc (X := List Pat)) fun x y => y = if patB validN x then leavesP x else [] := by
  rintro p hp
  have hp' : PLv p [] := by unfold PLv; simpa using hp
  simp [cc_r23_Leaves, rs_r23_Leaves, h1, h2, -Bool.forall_bool]
  clear h1 h2
  exact ⟨fun h => fin_of [] (by simp) (by rw [h]; rfl), fun h => .inl ⟨hp', fun v => fin_of (leavesP p) (fz_o ty_Pattern (by simp)) (by rw [h]; rfl)⟩⟩
abbrev s_sizeA : Spc := spc (a1 Pat) (fun x => patB validN x = true) (enc (X := Int)) fun x y => y = sizeP x
abbrev s_r23_Size : Spc := spc (a1 Pat) (fun _ => True) (enc (X := Int)) fun x y => y = if patB validN x then sizeP x else 0
theorem w_r23_Size (h1 : S f_r23_IsPattern = s_r23_IsPattern) (h2 : S f_r23_size = s_sizeA) : Walk cc_r23_Size rs_r23_Size S (a1 Pat) (fun _ => True) (enc (X := Int)) fun x y => y = if patB validN x then sizeP x else 0 := by
  rintro p -
  simp [cc_r23_Size, rs_r23_Size, h1, h2, -Bool.forall_bool]
  exact ⟨fun h1 h2 => absurd (h1.symm.trans h2) (by simp), fun h1 => ⟨h1, fun h2 => absurd (h2.symm.trans h1) (by simp)⟩⟩
abbrev s_widthA : Spc := spc (a1 Pat) (fun x => patB validN x = true) (er2 (Y := Int) (Z := Int)) fun x y => y = widP x
abbrev s_Width : Spc := spc (a1 Pat) (fun _ => True) (er2 (Y := Int) (Z := Int)) fun x y => y = if patB validN x then widP x else (0, 0)
theorem w_r23_Width (h1 : S f_r23_IsPattern = s_r23_IsPattern) (h2 : S f_r23_width = s_widthA) : Walk cc_r23_Width rs_r23_Width S (a1 Pat) (fun _ => True) (er2 (Y := Int) (Z := Int)) fun x y => y = if patB validN x then widP x else (0, 0) := by
  rintro p -
  simp [cc_r23_Width, rs_r23_Width, h1, h2, er2, -Bool.forall_bool]
  exact ⟨fun h1 h2 => absurd (h1.symm.trans h2) (by simp), fun h1 => ⟨h1, fun h2 => absurd (h2.symm.trans h1) (by simp)⟩⟩
end Go.Gv

namespace Go.Gv
set_option linter.unusedSimpArgs false
mutual
def cntP : Pat → Nat | .mk op _ _ _ mn _ ks => if ks = [] then 1 else if op = 6 then (max 1 mn).toNat * cntPs ks else cntPs ks
def cntPs : List Pat → Nat | [] => 0 | k :: ks => cntP k + cntPs ks
end
theorem cntP_eq (p : Pat) : cntP p = if p.kids = [] then 1 else if p.op = 6 then (max 1 p.mn).toNat * cntPs p.kids else cntPs p.kids := by cases p; unfold cntP; rfl
theorem cntP_pos (p : Pat) : 1 ≤ cntP p := by
  induction p using pat_ind with | _ p ih => ?_
  rw [cntP_eq]
  split
  · omega
  · rename_i h
    have : 1 ≤ cntPs p.kids := by
      rcases hk : p.kids with _ | ⟨k, ks⟩
      · exact absurd hk h
      · rw [cntPs]; have := ih k (by rw [hk]; simp); omega
    split
    · exact Nat.mul_pos (by omega) this
    · exact this
theorem wp_cnt {lb : List B} : ∀ n p, WP lb n p → cntP p ≤ 2 ^ n := by
  refine wp_ind fun n p hp ih => ?_
  rw [cntP_eq]
  rcases wp_cases hp with (⟨h1, h2, h3, h4, h5, h6⟩ | ⟨h1, h2, h3, h4, h5, h6, h7⟩) | ⟨m, rfl, (⟨h1, h2, h3, h4, h5, h6, a, b, h7, _⟩ | ⟨h1, h2, h3, h4, h5, a, h7, _⟩)⟩
  · rw [if_pos h6]; exact Nat.one_le_two_pow
  · rw [if_pos h7]; exact Nat.one_le_two_pow
  · obtain ⟨m1, e1, _, a1⟩ := ih a (by rw [h7]; simp)
    obtain ⟨m2, e2, _, a2⟩ := ih b (by rw [h7]; simp)
    have e1 : m1 = m := by omega
    have e2 : m2 = m := by omega
    subst e1; subst e2
    rw [h7, if_neg (by simp), if_neg (by omega), Nat.pow_succ]
    simp only [cntPs]
    omega
  · obtain ⟨m1, e1, _, a1⟩ := ih a (by rw [h7]; simp)
    have e1 : m1 = m := by omega
    subst e1
    rw [h7, if_neg (by simp), if_pos h1, Nat.pow_succ]
    simp only [cntPs]
    have : (max 1 p.mn).toNat ≤ 2 := by
      simp [Reps] at h5
      omega
    have := Nat.mul_le_mul this a1
    rw [Nat.add_zero]
    omega
end Go.Gv

namespace Go.Gv
set_option linter.unusedSimpArgs false
set_option linter.unusedVariables false
set_option maxRecDepth 100000
open Cod (enc dec)
variable {S S0 : Nat → Spc}
abbrev s_r31_insert : Spc := spc (a2 (List Span) Span) (fun x => SS x.1 ∧ x.1.length ≤ 1000000) enc fun x y => IsNorm (x.1 ++ [x.2]) y ∧ y.length ≤ x.1.length + 1
theorem w_r31_insert (h1 : S f_r31_Less = s_r31_Less) : Walk cc_r31_insert rs_r31_insert S (a2 (List Span) Span) (fun x => SS x.1 ∧ x.1.length ≤ 1000000) enc fun x y => IsNorm (x.1 ++ [x.2]) y ∧ y.length ≤ x.1.length + 1 := by
  rintro ⟨l, s⟩ ⟨hl, hlen⟩
  simp at hl hlen
  simp [cc_r31_insert, rs_r31_insert]
  intro _
  refine vc_mid (X := Nat) [0, 3] [] (fun k => k ≤ l.length ∧ (∀ x ∈ l.drop k, ltS s x) ∧ (k = 0 ∨ ∃ y, l[k - 1]? = some y ∧ ¬ ltS s y)) (fun k => [(5, enc (k : Int))]) (fun _ => []) ?_ ?_
  · simp
    refine vc_while (X := Nat) [0, 3] [] (fun k => k ≤ l.length ∧ ∀ x ∈ l.drop k, ltS s x) (fun k => [(5, enc (k : Int))]) (fun _ => []) (fun k => k) l.length (by simp) (by simp) (by simp) ?_
    rintro k ⟨hk, hP⟩
    rcases Nat.eq_zero_or_pos k with rfl | hk0
    · simp
      exact ⟨0, by simpa using hP, by simp⟩
    · obtain ⟨y, hy⟩ := at_lt (l := l) (k := k - 1) (by omega)
      have e1 : (k : Int) - 1 = ((k - 1 : Nat) : Int) := by omega
      have e2 : l.drop (k - 1) = y :: l.drop k := by
        have := drop_cons_of hy
        rwa [Nat.sub_add_cancel hk0] at this
      have hst : ¬ ltS s y → ∃ x, (x ≤ l.length ∧ (∀ x_1 ∈ List.drop x l, ltS s x_1) ∧ (x = 0 ∨ ∃ y, l[x - 1]? = some y ∧ ¬ltS s y)) ∧ (k : Int) = x := fun h => ⟨k, ⟨hk, hP, .inr ⟨y, hy, h⟩⟩, rfl⟩
      have hgo : ltS s y → ∃ y, (y ≤ l.length ∧ ∀ x ∈ List.drop y l, ltS s x) ∧ (k : Int) - 1 = y ∧ y < k := fun h => ⟨k - 1, ⟨by omega, by rw [e2]; simpa using ⟨h, hP⟩⟩, e1, by omega⟩
      simp [h1, hk0, hy, InR]
      refine ⟨⟨by omega, by omega⟩, by omega, by omega, fun h => ⟨⟨by omega, by omega⟩, hgo h⟩, hst⟩
  · rintro k ⟨hk, h1, h2⟩
    simp
    have hN := norm_insert hl hk h1 h2
    refine vc_mid (X := Unit) [0, 3, 5] [] (fun _ => ∀ y, 0 < k → l[k - 1]? = some y → y ≠ s) (fun _ => []) (fun _ => []) ?_ ?_
    · simp
      rcases Nat.eq_zero_or_pos k with rfl | hk0
      · simp
      · obtain ⟨y, hy⟩ := at_lt (l := l) (k := k - 1) (by omega)
        simp [hk0, hy, InR]
        refine ⟨⟨⟨by omega, by omega⟩, by omega, by omega, fun e1 e2 => fin_of l (.same _) ⟨hN.1 y hk0 hy (Span.ext' e1 e2), by simp⟩, ?_⟩, by omega⟩
        rintro h rfl
        exact h rfl rfl
    · intro _ hne
      have hN2 := hN.2 hne
      simp
      refine ⟨hk, by omega, by omega, by omega, by omega, hk, by omega, by omega, fun v => fin_of (l.take k ++ s :: l.drop k) (fz_o ty_Source (by simp)) ⟨hN2, by simp; omega⟩⟩
def P_fix (n : Nat) (x : Pat × Int × Int × List Span) : Prop := PPat n x.1 ∧ 0 ≤ x.2.1 ∧ x.2.1 + 200000 * pNum x.1 ≤ 1000000000000000 ∧ 0 ≤ x.2.2.1 ∧ x.2.2.1 + pNum x.1 ≤ 100000000 ∧ SS x.2.2.2 ∧ x.2.2.2.length + cntP x.1 ≤ 100000
def Q_fix (x : Pat × Int × Int × List Span) (y : List Span) : Prop := SS y ∧ (∀ s, s ∈ y ↔ s ∈ x.2.2.2 ∨ Src x.1 x.2.1 x.2.2.1 s) ∧ y.length ≤ x.2.2.2.length + cntP x.1
abbrev s_r31_fixed (n : Nat) : Spc := spc (a4 Pat Int Int (List Span)) (P_fix n) enc Q_fix
theorem w_r31_fixed (n : Nat) (h1 : S f_r31_insert = s_r31_insert) (h2 : S f_r31_fixed = s_r31_fixed n) (h3 : S f_r23_Width = s_Width) (h4 : S f_r23_Leaves = s_r23_Leaves) : Walk cc_r31_fixed rs_r31_fixed S (a4 Pat Int Int (List Span)) (P_fix (n + 1)) enc Q_fix := by
  rintro ⟨p, d, leaf, out⟩ ⟨hp, hd0, hd1, hl0, hl1, hss, hlen⟩
  simp only at hp hd0 hd1 hl0 hl1 hss hlen
  have hk : ∀ k ∈ p.kids, PPat n k := fun k => hp.kid
  have hs : ∀ k ∈ p.kids, WidOk (widP k) := fun k h => widP_ok (v := validN) k (hk k h).2
  have hn := (patB_node hp.2).2.2
  unfold numB at hn
  rw [decide_eq_true_eq] at hn
  rcases node_kids (patB_node hp.2).1 with ⟨ho, hkk⟩ | ⟨ho, hkk⟩ | ⟨ho, k0, ks, hkk⟩ | ⟨ho, k0, hkk⟩
  · simp [cc_r31_fixed, rs_r31_fixed, h1, ho, hss]
    rw [cntP_eq, if_pos hkk] at hlen
    refine ⟨by omega, fun y hy hy2 => fin_of y (by simp) ⟨hy.1, fun s => ?_, by rw [cntP_eq, if_pos hkk]; exact hy2⟩⟩
    rw [hy.2 s]
    simp [src1 ho]
  · have e : p.op ≠ 1 ∧ p.op ≠ 4 ∧ p.op ≠ 6 := by omega
    simp [cc_r31_fixed, rs_r31_fixed, h1, e]
    exact fin_of out (by simp) ⟨hss, fun s => ⟨.inl, fun h => h.elim id fun h => absurd h (src0 e _ _ _)⟩, by simp⟩
  · by_cases h4' : p.op = 4
    · simp [cc_r31_fixed, rs_r31_fixed, h4']
      intro _
      rw [pNum_eq] at hd1 hl1
      rw [cntP_eq, if_neg (by rw [hkk]; simp), if_neg (by omega)] at hlen
      refine vc_range (X := Int × Int × List Span) [28] [] p.kids.length (fun k x => (0 ≤ x.1 ∧ x.1 + 200000 * pNums (p.kids.drop k) ≤ 1000000000000000) ∧ (0 ≤ x.2.1 ∧ x.2.1 + pNums (p.kids.drop k) ≤ 100000000) ∧ SS x.2.2 ∧ x.2.2.length + cntPs (p.kids.drop k) ≤ out.length + cntPs p.kids ∧ ∀ s, (s ∈ x.2.2 ∨ Srcs (p.kids.drop k) x.1 x.2.1 s) ↔ (s ∈ out ∨ Srcs p.kids d leaf s)) (fun x => [(1, enc x.1), (2, enc x.2.1), (3, enc x.2.2)]) (fun _ => []) (d, leaf, out) (by simp) (by simp) (by omega) (by simp) (by simp) ⟨by simp; omega, by simp; omega, hss, by simp, by simp⟩ (by simp) (by simp) ?_ ?_
      · rintro k ⟨d', lf, o⟩ hkl ⟨⟨b0, b1⟩, ⟨b2, b3⟩, b4, b5, b6⟩
        simp only at b0 b1 b2 b3 b4 b5 b6
        obtain ⟨x, hx⟩ := at_lt hkl
        have hx1 := mem_at hx
        obtain ⟨_, hgx⟩ := List.getElem?_eq_some_iff.1 hx
        rw [drop_cons_of hx, pNums] at b1 b3
        rw [drop_cons_of hx, cntPs] at b5
        have q1 := hk x hx1
        have q2 := hs x hx1
        have q3 : P_fix n (x, d', lf, o) := ⟨q1, b0, by show d' + 200000 * (pNum x : Int) ≤ _; omega, b2, by show lf + (pNum x : Int) ≤ _; omega, b4, by show o.length + cntP x ≤ _; omega⟩
        have q4 := leavesP_le x
        have q5 : 1 ≤ pNum x := by rw [pNum_eq]; omega
        have q6 : (leavesP x).length ≤ 100000000 := by omega
        simp [h2, h3, h4, hkl, hx, hgx, q1.2, q3, q6, er2]
        clear h1 h2 h3 h4
        rintro y ⟨c1, c2, c3⟩
        simp only at c2 c3
        unfold WidOk at q2
        have hb6 : ∀ s, (s ∈ y ∨ ((widP x).1 = (widP x).2 ∧ Srcs (p.kids.drop (k + 1)) (d' + (widP x).1) (lf + (leavesP x).length) s)) ↔ (s ∈ out ∨ Srcs p.kids d leaf s) := by
          intro s
          rw [← b6 s, drop_cons_of hx, Srcs, c2 s, or_assoc]
        refine ⟨fun hne => fin_of y (by simp) ⟨c1, fun s => ?_, ?_⟩, fun he => ⟨by simp only [InR]; omega, fun _ => ⟨by simp only [InR]; omega, _, _, _, ⟨⟨by omega, by omega⟩, ⟨by omega, by omega⟩, c1, by omega, fun s => ?_⟩, rfl, rfl, rfl⟩⟩⟩
        · rw [src4 h4']
          show s ∈ y ↔ s ∈ out ∨ Srcs p.kids d leaf s
          rw [← hb6 s]
          exact ⟨.inl, fun h => h.elim id fun h => absurd h.1 hne⟩
        · show y.length ≤ out.length + cntP p
          rw [cntP_eq, if_neg (by rw [hkk]; simp), if_neg (by omega)]
          omega
        · rw [← hb6 s]
          simp [he]
      · rintro ⟨d', lf, o⟩ ⟨⟨b0, b1⟩, ⟨b2, b3⟩, b4, b5, b6⟩
        simp only at b4 b5 b6
        rw [List.drop_length] at b5 b6
        simp
        refine fin_of o (by simp) ⟨b4, fun s => ?_, ?_⟩
        · rw [src4 h4']
          show s ∈ o ↔ s ∈ out ∨ Srcs p.kids d leaf s
          rw [← b6 s, Srcs, or_false]
        · show o.length ≤ out.length + cntP p
          rw [cntP_eq, if_neg (by rw [hkk]; simp), if_neg (by omega)]
          rw [cntPs] at b5
          omega
    · have e : p.op ≠ 1 ∧ p.op ≠ 4 ∧ p.op ≠ 6 := by omega
      simp [cc_r31_fixed, rs_r31_fixed, h1, e]
      exact fin_of out (by simp) ⟨hss, fun s => ⟨.inl, fun h => h.elim id fun h => absurd h (src0 e _ _ _)⟩, by simp⟩
  · have q1 := hk k0 (by rw [hkk]; simp)
    have q2 := hs k0 (by rw [hkk]; simp)
    have hn := hn ho
    simp [cc_r31_fixed, rs_r31_fixed, ho, hkk, h3, q1.2, er2]
    have hsz : cntP p = (max 1 p.mn).toNat * cntP k0 := by rw [cntP_eq, hkk, if_neg (by simp), if_pos ho, cntPs, cntPs, Nat.add_zero]
    have hpn : pNum p = pNum k0 + 1 := by rw [pNum_eq, hkk, pNums, pNums]
    rw [hpn] at hd1 hl1
    rw [hsz] at hlen
    have hc1 := cntP_pos k0
    refine vc_while (X := Nat × List Span) [1, 2, 4, 13, 14] [] (fun x => (x.1 : Int) ≤ p.mn ∧ SS x.2 ∧ x.2.length ≤ out.length + x.1 * cntP k0 ∧ (∀ s, s ∈ x.2 ↔ s ∈ out ∨ ∃ i : Int, 0 ≤ i ∧ i < x.1 ∧ (i = 0 ∨ (widP k0).1 = (widP k0).2) ∧ Src k0 (d + i * (widP k0).1) leaf s)) (fun x => [(3, enc x.2), (15, enc (x.1 : Int))]) (fun _ => []) (fun x => p.mn.toNat - x.1) (0, out) ?_ (by simp) (by simp) ?_
    · refine ⟨by simp; omega, hss, by simp, fun s => ⟨.inl, fun h => h.elim id ?_⟩⟩
      rintro ⟨i, h0, h1, _⟩
      simp only at h1
      omega
    rintro ⟨j, o⟩ ⟨b0, b1, b2, b3⟩
    simp only at b0 b1 b2 b3
    simp [h2, ho, hkk]
    clear h1 h2 h3 h4
    have hfin : (∀ i : Int, 0 ≤ i → i < p.mn → (i = 0 ∨ (widP k0).1 = (widP k0).2) → i < j) → Fin enc (Q_fix (p, d, leaf, out)) (D.list 2 (List.map enc o)) fun x => none := fun hi => by
      refine fin_of o (by simp) ⟨b1, fun s => ?_, ?_⟩
      · show s ∈ o ↔ s ∈ out ∨ Src p d leaf s
        rw [b3 s, src6 ho hkk]
        refine or_congr_right (exists_congr fun i => ⟨fun ⟨a1, a2, a3, a4⟩ => ⟨a1, by omega, a3, a4⟩, fun ⟨a1, a2, a3, a4⟩ => ⟨a1, hi i a1 a2 a3, a3, a4⟩⟩)
      · show o.length ≤ out.length + cntP p
        rw [hsz]
        have := Nat.mul_le_mul_right (cntP k0) (show j ≤ (max 1 p.mn).toNat by omega)
        omega
    have hgo : (j : Int) < p.mn → (j = 0 ∨ (widP k0).1 = (widP k0).2) → InR IntKind.i64 (↑j * (widP k0).fst) ∧ InR IntKind.i64 (d + ↑j * (widP k0).fst) ∧ P_fix n (k0, d + ↑j * (widP k0).fst, leaf, o) ∧
        ∀ (y : List Span), Q_fix (k0, d + ↑j * (widP k0).fst, leaf, o) y → InR IntKind.i64 (↑j + 1) ∧ ∃ (a : Nat) (b : List Span), (↑a ≤ p.mn ∧ SS b ∧ b.length ≤ out.length + a * cntP k0 ∧ ∀ (s : Span), s ∈ b ↔ s ∈ out ∨ ∃ i : Int, 0 ≤ i ∧ i < ↑a ∧ (i = 0 ∨ (widP k0).fst = (widP k0).snd) ∧ Src k0 (d + i * (widP k0).fst) leaf s) ∧
          (y = b ∧ (↑j + 1 : Int) = ↑a) ∧ p.mn.toNat - a < p.mn.toNat - j := fun hj hw => by
      unfold WidOk at q2
      have hm := mul_rng (show (0 : Int) ≤ j by omega) (show (j : Int) ≤ 16 by omega) q2.1 q2.2.1
      have hm2 := Nat.mul_le_mul_right (cntP k0) (show j + 1 ≤ (max 1 p.mn).toNat by omega)
      rw [Nat.succ_mul] at hm2
      refine ⟨by simp only [InR]; omega, by simp only [InR]; omega, ⟨q1, by show 0 ≤ d + ↑j * (widP k0).1; omega, by show d + ↑j * (widP k0).1 + 200000 * (pNum k0 : Int) ≤ _; omega, hl0, by show leaf + (pNum k0 : Int) ≤ _; omega, b1, by show o.length + cntP k0 ≤ _; omega⟩, ?_⟩
      rintro y ⟨c1, c2, c3⟩
      simp only at c2 c3
      refine ⟨by simp only [InR]; omega, j + 1, y, ⟨by omega, c1, by rw [Nat.succ_mul]; omega, fun s => ?_⟩, ⟨rfl, by omega⟩, by omega⟩
      rw [c2 s, b3 s, or_assoc]
      refine or_congr_right ⟨fun h => ?_, fun h => ?_⟩
      · rcases h with ⟨i, a1, a2, a3, a4⟩ | h
        · exact ⟨i, a1, by omega, a3, a4⟩
        · exact ⟨j, by omega, by omega, hw.imp (fun h => by omega) id, h⟩
      · obtain ⟨i, a1, a2, a3, a4⟩ := h
        by_cases e : i < j
        · exact .inl ⟨i, a1, e, a3, a4⟩
        · have : i = j := by omega
          subst this
          exact .inr a4
    exact ⟨fun hj => ⟨fun hj0 => ⟨fun hw => hgo hj (.inr hw), fun hw => hfin fun i i0 i1 i2 => by rcases i2 with i2 | i2; omega; exact absurd i2 hw⟩, fun hj0 => hgo hj (.inl hj0)⟩, fun hj => hfin fun i i0 i1 i2 => by omega⟩
abbrev s_r31_fixedA : Spc := spc (a4 Pat Int Int (List Span)) (fun x => ∃ n, P_fix n x) enc Q_fix
/-- What Fixed is asked for. -/
def P_Fixed (p : Pat) : Prop := pNum p ≤ 1000000 ∧ cntP p ≤ 100000
def Q_Fixed (p : Pat) (y : List Span) : Prop := if patB validN p = true ∧ sizeP p ≤ 256 then SrcsOf p y else y = []
abbrev s_r31_Fixed : Spc := spc (a1 Pat) P_Fixed (enc (X := List Span)) Q_Fixed
theorem w_r31_Fixed (h1 : S f_r23_IsPattern = s_r23_IsPattern) (h2 : S f_r23_Size = s_r23_Size) (h3 : S f_r31_fixed = s_r31_fixedA) : Walk cc_r31_Fixed rs_r31_Fixed S (a1 Pat) P_Fixed (enc (X := List Span)) Q_Fixed := by
  rintro p ⟨hp1, hp2⟩
  simp [cc_r31_Fixed, rs_r31_Fixed, h1, h2, h3, -Bool.forall_bool]
  clear h1 h2 h3
  refine ⟨fun h => ?_, fun h => fin_of [] (by simp) (by unfold Q_Fixed; rw [if_neg (by rw [h]; simp)])⟩
  rw [if_pos h]
  refine ⟨fun h2 => fin_of [] (by simp) (by unfold Q_Fixed; rw [if_neg (by omega)]), fun h2 => ⟨⟨pDep p, ⟨Nat.le_refl _, h⟩, Int.le_refl _, by show (0 : Int) + 200000 * (pNum p : Int) ≤ _; omega, Int.le_refl _, by show (0 : Int) + (pNum p : Int) ≤ _; omega, SS.nil, by show ([] : List Span).length + _ ≤ _; simpa using hp2⟩, ?_⟩⟩
  rintro y ⟨c1, c2, c3⟩
  refine fin_of y (by simp) ?_
  unfold Q_Fixed
  rw [if_pos ⟨h, h2⟩]
  exact ⟨c1, fun s => by rw [c2 s]; simp⟩
end Go.Gv

namespace Go.Gv
open Cod (enc dec)
set_option linter.unusedSimpArgs false

structure Glob where
  op : Int
  a : B
  b : B
  name : B
  arg : B
  val : B
  fold : Bool
  mn : Int
  mx : Int
  args : List B
  kids : List Glob

mutual
def encG : Glob → D
  | .mk p0 p1 p2 p3 p4 p5 p6 p7 p8 p9 ks => .agg [enc p0, enc p1, enc p2, enc p3, enc p4, enc p5, enc p6, enc p7, enc p8, enc p9, .list 11 (encGs ks)]
def encGs : List Glob → List D
  | [] => []
  | k :: ks => encG k :: encGs ks
end
mutual
def decG : D → Option Glob
  | .agg [x0, x1, x2, x3, x4, x5, x6, x7, x8, x9, x10] => (dec x0).bind fun p0 => (dec x1).bind fun p1 => (dec x2).bind fun p2 => (dec x3).bind fun p3 => (dec x4).bind fun p4 => (dec x5).bind fun p5 => (dec x6).bind fun p6 => (dec x7).bind fun p7 => (dec x8).bind fun p8 => (dec x9).bind fun p9 => (decGK x10).bind fun ks => some (.mk p0 p1 p2 p3 p4 p5 p6 p7 p8 p9 ks)
  | _ => none
def decGK : D → Option (List Glob)
  | .list n es => if n = 11 then decGs es else none
  | .v (.slice none 0 0) => some []
  | _ => none
def decGs : List D → Option (List Glob)
  | [] => some []
  | d :: ds => (decG d).bind fun x => (decGs ds).bind fun xs => some (x :: xs)
end
theorem encGs_map : ∀ l : List Glob, encGs l = l.map encG
  | [] => rfl
  | _ :: l => by rw [encGs, encGs_map l]; rfl
theorem encG_kn : ∀ c : Glob, (encG c).kn = true
  | .mk .. => rfl
theorem encG_wid : ∀ c : Glob, (encG c).cells.length = 11
  | .mk .. => rfl
mutual
theorem decG_enc : ∀ c : Glob, decG (encG c) = some c
  | .mk p0 p1 p2 p3 p4 p5 p6 p7 p8 p9 ks => by
    have h : decGK (.list 11 (encGs ks)) = some ks := by rw [decGK, if_pos rfl]; exact decGs_enc ks
    simp only [encG, decG, Cod.dec_enc, Option.bind_some, h]
theorem decGs_enc : ∀ l : List Glob, decGs (encGs l) = some l
  | [] => by simp only [encGs, decGs]
  | c :: l => by simp only [encGs, decGs, decG_enc c, decGs_enc l, Option.bind_some]
end
mutual
theorem decG_le : ∀ (d : D) (c : Glob), decG d = some c → FrzTo noH d (encG c)
  | .agg [x0, x1, x2, x3, x4, x5, x6, x7, x8, x9, x10], c, h => by
    simp only [decG, Option.bind_eq_some_iff, Option.some.injEq] at h
    obtain ⟨p0, h0, p1, h1, p2, h2, p3, h3, p4, h4, p5, h5, p6, h6, p7, h7, p8, h8, p9, h9, ks, hk, rfl⟩ := h
    rw [encG]
    exact LeL.agg (.cons (Cod.le _ _ h0) (.cons (Cod.le _ _ h1) (.cons (Cod.le _ _ h2) (.cons (Cod.le _ _ h3) (.cons (Cod.le _ _ h4) (.cons (Cod.le _ _ h5) (.cons (Cod.le _ _ h6) (.cons (Cod.le _ _ h7) (.cons (Cod.le _ _ h8) (.cons (Cod.le _ _ h9) ((.cons (decGK_le x10 ks hk) .nil))))))))))))
theorem decGK_le : ∀ (d : D) (l : List Glob), decGK d = some l → FrzTo noH d (.list 11 (encGs l))
  | .list n es, l, h => by
    simp only [decGK] at h
    split at h
    · rename_i hn
      subst hn
      have hl := decGs_le es l h
      refine .list hl.1 (fun e he => ?_) hl.2
      rw [encGs_map] at he
      obtain ⟨x, hx, rfl⟩ := List.mem_map.1 he
      exact ⟨encG_kn x, encG_wid x⟩
    · cases h
  | .v (.slice none 0 0), l, h => by
    simp only [decGK, Option.some.injEq] at h
    subst h
    exact .nil _
theorem decGs_le : ∀ (es : List D) (l : List Glob), decGs es = some l → LeL es (encGs l)
  | [], l, h => by
    simp only [decGs, Option.some.injEq] at h
    subst h
    exact .nil
  | d :: ds, l, h => by
    simp only [decGs, Option.bind_eq_some_iff, Option.some.injEq] at h
    obtain ⟨x, h1, xs, h2, rfl⟩ := h
    rw [encGs]
    exact .cons (decG_le d x h1) (decGs_le ds xs h2)
end
instance : Cod Glob where
  wd := 11
  enc := encG
  dec := decG
  kn := encG_kn
  wid := encG_wid
  dec_enc := decG_enc
  le := decG_le
theorem encGs_enc (ks : List Glob) : D.list 11 (encGs ks) = enc ks := by rw [encGs_map]; rfl
theorem decGs_mapM : ∀ es : List D, decGs es = es.mapM (dec (X := Glob))
  | [] => by simp [decGs]
  | d :: es => by
    rw [decGs, List.mapM_cons, decGs_mapM es]
    rfl
theorem decGK_eq : ∀ d : D, decGK d = dec (X := List Glob) d := fun d => by
  unfold decGK
  split
  · rename_i n es
    show _ = if n = 11 then es.mapM (dec (X := Glob)) else none
    rw [decGs_mapM]
  · rfl
  · rename_i h1 h2
    show _ = (match d with
      | .list n es => if n = 11 then es.mapM (dec (X := Glob)) else none
      | .v (.slice none 0 0) => some []
      | _ => none)
    split
    · exact absurd rfl (h1 _ _)
    · exact absurd rfl h2
    · rfl
@[simp] theorem eta_Glob (s : Glob) : Glob.mk s.op s.a s.b s.name s.arg s.val s.fold s.mn s.mx s.args s.kids = s := by cases s; rfl
@[simp] theorem enc_Glob (s : Glob) : enc s = .agg [enc s.op, enc s.a, enc s.b, enc s.name, enc s.arg, enc s.val, enc s.fold, enc s.mn, enc s.mx, enc s.args, enc s.kids] := by
  rw [← encGs_enc]
  cases s
  show encG _ = _
  rw [encG]
@[simp] theorem wd_Glob : Cod.wd Glob = 11 := id rfl
@[simp] theorem dec_Glob (x0 x1 x2 x3 x4 x5 x6 x7 x8 x9 x10 : D) : dec (X := Glob) (.agg [x0, x1, x2, x3, x4, x5, x6, x7, x8, x9, x10]) = ((dec x0).bind fun x0 => (dec x1).bind fun x1 => (dec x2).bind fun x2 => (dec x3).bind fun x3 => (dec x4).bind fun x4 => (dec x5).bind fun x5 => (dec x6).bind fun x6 => (dec x7).bind fun x7 => (dec x8).bind fun x8 => (dec x9).bind fun x9 => (dec x10).bind fun x10 => some ⟨x0, x1, x2, x3, x4, x5, x6, x7, x8, x9, x10⟩) := by
  show decG _ = _
  simp only [decG, decGK_eq]

structure Filt where
  op : Int
  neg : Bool
  reg : B
instance : Cod Filt where
  wd := 3
  enc f := .agg [enc f.op, enc f.neg, enc f.reg]
  dec | .agg [x0, x1, x2] => (dec x0).bind fun a => (dec x1).bind fun b => (dec x2).bind fun c => some ⟨a, b, c⟩ | _ => none
  kn _ := rfl
  wid _ := rfl
  dec_enc f := by simp only [Cod.dec_enc, Option.bind_some]
  le d x h := by
    split at h
    · simp only [Option.bind_eq_some_iff, Option.some.injEq] at h
      obtain ⟨a, h0, b, h1, c, h2, rfl⟩ := h
      exact LeL.agg (.cons (Cod.le _ _ h0) (.cons (Cod.le _ _ h1) (.cons (Cod.le _ _ h2) .nil)))
    · cases h
@[simp] theorem eta_Filt (s : Filt) : Filt.mk s.op s.neg s.reg = s := by cases s; rfl
@[simp] theorem enc_Filt (s : Filt) : enc s = .agg [enc s.op, enc s.neg, enc s.reg] := id rfl
@[simp] theorem wd_Filt : Cod.wd Filt = 3 := id rfl
@[simp] theorem dec_Filt (x0 x1 x2 : D) : dec (X := Filt) (.agg [x0, x1, x2]) = ((dec x0).bind fun a => (dec x1).bind fun b => (dec x2).bind fun c => some ⟨a, b, c⟩) := id rfl

structure Qry where
  pat : Pat
  glob : Glob
  filts : List Filt
  strat : Int
def cellsP : Pat → List D | .mk op c l r mn mx ks => enc op :: (cellsC c ++ [enc l, enc r, enc mn, enc mx, enc ks])
theorem cellsP_eq : ∀ p : Pat, D.agg (cellsP p) = enc p
  | .mk .. => (enc_pat ..).symm
theorem cellsP_len : ∀ p : Pat, (cellsP p).length = 13
  | .mk op c l r mn mx ks => by simp [cellsP, cellsC_len]
def cellsG (g : Glob) : List D := [enc g.op, enc g.a, enc g.b, enc g.name, enc g.arg, enc g.val, enc g.fold, enc g.mn, enc g.mx, enc g.args, enc g.kids]
theorem cellsG_eq (g : Glob) : D.agg (cellsG g) = enc g := (enc_Glob g).symm
theorem agg_le {l l' : List D} (h : FrzTo noH (.agg l) (.agg l')) : LeL l l' := by
  cases h with
  | same => exact ⟨rfl, fun k x y hx hy => by rw [hx] at hy; cases hy; exact .same _⟩
  | agg hl h => exact ⟨hl, h⟩
theorem dec_patL {l : List D} {p : Pat} (h : dec (D.agg l) = some p) : LeL l (cellsP p) := agg_le (by rw [cellsP_eq]; exact Cod.le _ _ h)
theorem dec_globL {l : List D} {p : Glob} (h : dec (D.agg l) = some p) : LeL l (cellsG p) := agg_le (by rw [cellsG_eq]; exact Cod.le _ _ h)
def encQ (q : Qry) : D := .agg (cellsP q.pat ++ (cellsG q.glob ++ [enc q.filts, enc q.strat]))
def decQ : D → Option Qry
  | .agg [x0, x1, x2, x3, x4, x5, x6, x7, x8, x9, x10, x11, x12, y0, y1, y2, y3, y4, y5, y6, y7, y8, y9, y10, f, s] => (dec (D.agg [x0, x1, x2, x3, x4, x5, x6, x7, x8, x9, x10, x11, x12])).bind fun p => (dec (D.agg [y0, y1, y2, y3, y4, y5, y6, y7, y8, y9, y10])).bind fun g => (dec f).bind fun fs => (dec s).bind fun st => some ⟨p, g, fs, st⟩
  | _ => none
instance : Cod Qry where
  wd := 26
  enc := encQ
  dec := decQ
  kn _ := rfl
  wid q := by simp [encQ, D.cells, cellsP_len, cellsG]
  dec_enc q := by
    obtain ⟨⟨op, ⟨o, n, a, v, l, f, cks⟩, lb, rg, mn, mx, ks⟩, g, fs, st⟩ := q
    have h1 := Cod.dec_enc (⟨op, ⟨o, n, a, v, l, f, cks⟩, lb, rg, mn, mx, ks⟩ : Pat)
    have h2 := Cod.dec_enc g
    rw [enc_pat] at h1
    rw [enc_Glob] at h2
    simp only [cellsC, List.cons_append, List.nil_append] at h1
    simp only [encQ, cellsP, cellsC, cellsG, List.cons_append, List.nil_append, decQ, h1, h2, Cod.dec_enc, Option.bind_some]
  le d x h := by
    unfold decQ at h
    split at h
    · simp only [Option.bind_eq_some_iff, Option.some.injEq] at h
      obtain ⟨p, h0, g, h1, fs, h2, st, h3, rfl⟩ := h
      exact LeL.agg ((dec_patL h0).append ((dec_globL h1).append (.cons (Cod.le _ _ h2) (.cons (Cod.le _ _ h3) .nil))))
    · cases h
@[simp] theorem eta_Qry (s : Qry) : Qry.mk s.pat s.glob s.filts s.strat = s := by cases s; rfl
@[simp] theorem wd_Qry : Cod.wd Qry = 26 := id rfl
@[simp] theorem enc_Qry (s : Qry) : enc s = .agg [enc s.pat.op, enc s.pat.cond.op, enc s.pat.cond.name, enc s.pat.cond.arg, enc s.pat.cond.val, enc s.pat.cond.lab, enc s.pat.cond.fold, enc s.pat.cond.kids, enc s.pat.lab, enc s.pat.reg, enc s.pat.mn, enc s.pat.mx, enc s.pat.kids, enc s.glob.op, enc s.glob.a, enc s.glob.b, enc s.glob.name, enc s.glob.arg, enc s.glob.val, enc s.glob.fold, enc s.glob.mn, enc s.glob.mx, enc s.glob.args, enc s.glob.kids, enc s.filts, enc s.strat] := by
  obtain ⟨⟨op, ⟨o, n, a, v, l, f, cks⟩, lb, rg, mn, mx, ks⟩, g, fs, st⟩ := s
  rfl
@[simp] theorem dec_Qry (x0 x1 x2 x3 x4 x5 x6 x7 x8 x9 x10 x11 x12 y0 y1 y2 y3 y4 y5 y6 y7 y8 y9 y10 f s : D) : dec (X := Qry) (.agg [x0, x1, x2, x3, x4, x5, x6, x7, x8, x9, x10, x11, x12, y0, y1, y2, y3, y4, y5, y6, y7, y8, y9, y10, f, s]) = ((dec (D.agg [x0, x1, x2, x3, x4, x5, x6, x7, x8, x9, x10, x11, x12])).bind fun p => (dec (D.agg [y0, y1, y2, y3, y4, y5, y6, y7, y8, y9, y10])).bind fun g => (dec f).bind fun fs => (dec s).bind fun st => some ⟨p, g, fs, st⟩) := id rfl
end Go.Gv

namespace Go.Gv
open Cod (enc dec)
set_option linter.unusedSimpArgs false

structure Tok where
  kind : Int
  text : B
  pos : Int
instance : Cod Tok where
  wd := 3
  enc t := .agg [.v (.int .u8 t.kind), enc t.text, enc t.pos]
  dec | .agg [.v (.int .u8 k), x1, x2] => (dec x1).bind fun b => (dec x2).bind fun c => some ⟨k, b, c⟩ | _ => none
  kn _ := rfl
  wid _ := rfl
  dec_enc f := by simp only [Cod.dec_enc, Option.bind_some]
  le d x h := by
    split at h
    · simp only [Option.bind_eq_some_iff, Option.some.injEq] at h
      obtain ⟨b, h1, c, h2, rfl⟩ := h
      exact LeL.agg (.cons (.same _) (.cons (Cod.le _ _ h1) (.cons (Cod.le _ _ h2) .nil)))
    · cases h
@[simp] theorem eta_Tok (s : Tok) : Tok.mk s.kind s.text s.pos = s := by cases s; rfl
@[simp] theorem enc_Tok (s : Tok) : enc s = .agg [.v (.int .u8 s.kind), enc s.text, enc s.pos] := id rfl
@[simp] theorem wd_Tok : Cod.wd Tok = 3 := id rfl
@[simp] theorem dec_Tok (k : Int) (x1 x2 : D) : dec (X := Tok) (.agg [.v (.int .u8 k), x1, x2]) = ((dec x1).bind fun b => (dec x2).bind fun c => some ⟨k, b, c⟩) := id rfl

structure Pst where
  l : List Tok
  pos : Int
  deep : Int
  e : Int
  fail : Int
@[simp] theorem eta_Pst (s : Pst) : Pst.mk s.l s.pos s.deep s.e s.fail = s := by cases s; rfl
def cePst (s : Pst) : List D := [enc s.l, enc s.pos, enc s.deep, enc s.e, enc s.fail]
@[simp] theorem cePst_eq (s : Pst) : cePst s = [enc s.l, enc s.pos, enc s.deep, enc s.e, enc s.fail] := id rfl

/-! ### What the methods compute -/
def Pst.step (s : Pst) : Pst := { s with pos := s.pos + 1 }
def nowT (s : Pst) : Option Tok := if 0 ≤ s.pos ∧ s.l.length ≤ 1000000 then s.l[s.pos.toNat]? else none
def isF (s : Pst) (k : Int) (t : B) : Option Bool := if s.e ≠ 0 then some false else (nowT s).map fun x => decide (x.kind = k ∧ x.text = t)
def eatF (s : Pst) (t : B) : Option (Pst × Bool) := (isF s 111 t).map fun b => if b then (s.step, true) else (s, false)
/-- (no error: where the token is another one, there is no result here.) -/
def wantF (s : Pst) (k : Int) (t : B) : Option (Pst × B) := if s.e ≠ 0 then none else (nowT s).bind fun x => if x.kind ≠ k ∨ k = 111 ∧ x.text ≠ t then none else some (s.step, x.text)
def digit1 (n : Int) (c : UInt8) : Int := min (10 * n + ((c.toNat : Int) - 48)) 1000000
def digitsF (t : B) : Option Int := if t.data.toList.all fun c => decide (48 ≤ c.toNat ∧ c.toNat ≤ 57) then some (t.data.toList.foldl digit1 0) else none
def numberF (s : Pst) (limit : Int) : Option (Pst × Int) := (wantF s 100 ⟨#[]⟩).bind fun r => (digitsF r.2).bind fun n => if n ≤ limit then some (r.1, n) else none
/-- (not at names) -/
def beginsF (s : Pst) : Option Bool := (nowT s).bind fun x => if s.e ≠ 0 then some false else if x.kind = 110 then none else some (decide (x.kind = 115 ∨ x.kind = 111 ∧ (x.text = ⟨#[91]⟩ ∨ x.text = ⟨#[60]⟩ ∨ x.text = ⟨#[60, 47]⟩ ∨ x.text = ⟨#[40]⟩)))
def E0 : B := ⟨#[]⟩
section
variable (A : Pst → Option (Pst × Pat))
/-- (parentheses, and quoted texts) -/
def itemF (s : Pst) : Option (Pst × Pat) :=
  (eatF s ⟨#[40]⟩).bind fun r =>
    if r.2 then (if 0 ≤ s.deep ∧ s.deep ≤ 1000 then (A { r.1 with deep := s.deep + 1 }).bind fun q => if 0 ≤ q.1.deep ∧ q.1.deep ≤ 1000000 then (wantF { q.1 with deep := q.1.deep - 1 } 111 ⟨#[41]⟩).map fun w => (w.1, q.2) else none else none)
    else if s.e ≠ 0 then none else (nowT s).bind fun x => if x.kind ≠ 115 then none else (eatF s.step ⟨#[37, 99]⟩).map fun w => (w.1, ⟨1, ⟨2, E0, E0, x.text, E0, w.2, []⟩, E0, E0, 0, 0, []⟩)
/-- (only counts in braces, with one number) -/
def repLoop : Nat → Pst → Pat → Option (Pst × Pat)
  | 0, _, _ => none
  | k + 1, s, x => if s.e ≠ 0 then none else (nowT s).bind fun t => if t.kind = 111 ∧ (t.text = ⟨#[63]⟩ ∨ t.text = ⟨#[42]⟩ ∨ t.text = ⟨#[43]⟩) then none else
      if t.kind = 111 ∧ t.text = ⟨#[123]⟩ then (numberF s.step 16).bind fun r => (eatF r.1 ⟨#[44]⟩).bind fun w => if w.2 then none else (wantF w.1 111 ⟨#[125]⟩).bind fun u => repLoop k u.1 ⟨6, Cond0, E0, E0, r.2, r.2, [x]⟩
      else some (s, x)
def repF (s : Pst) : Option (Pst × Pat) := (itemF A s).bind fun r => repLoop 100 r.1 r.2
def seqLoop : Nat → Pst → List Pat → Option (Pst × List Pat)
  | 0, _, _ => none
  | k + 1, s, acc => (beginsF s).bind fun b => if b then (repF A s).bind fun r => seqLoop k r.1 (acc ++ [r.2]) else some (s, acc)
def oneOr (op : Int) (l : List Pat) : Pat := match l with
  | [x] => x
  | l => ⟨op, Cond0, E0, E0, 0, 0, l⟩
def seqF (s : Pst) : Option (Pst × Pat) := (repF A s).bind fun r => (seqLoop A 100 r.1 [r.2]).map fun q => (q.1, oneOr 4 q.2)
def altLoop : Nat → Pst → List Pat → Option (Pst × List Pat)
  | 0, _, _ => none
  | k + 1, s, acc => (eatF s ⟨#[124]⟩).bind fun w => if w.2 then (seqF A w.1).bind fun r => altLoop k r.1 (acc ++ [r.2]) else some (w.1, acc)
def altS (s : Pst) : Option (Pst × Pat) := (seqF A s).bind fun r => (altLoop A 100 r.1 [r.2]).map fun q => (q.1, oneOr 5 q.2)
end
def altF : Nat → Pst → Option (Pst × Pat)
  | 0 => fun _ => none
  | n + 1 => altS (altF n)
end Go.Gv

namespace Go.Gv
set_option linter.unusedSimpArgs false
def isSp (s : B) (i : Nat) : Bool := match s.data[i]? with
  | some c => decide (c.toNat = 32 ∨ c.toNat = 10)
  | none => false
def isDg (s : B) (i : Nat) : Bool := match s.data[i]? with
  | some c => decide (48 ≤ c.toNat ∧ c.toNat ≤ 57)
  | none => false
def skipN : Nat → B → Nat → Nat
  | 0, _, i => i
  | n + 1, s, i => if isSp s i then skipN n s (i + 1) else i
def skipF (s : B) (i : Nat) : Nat := skipN (s.size - i) s i
def digN : Nat → B → Nat → Nat
  | 0, _, i => i
  | n + 1, s, i => if isDg s i then digN n s (i + 1) else i
def digF (s : B) (i : Nat) : Nat := digN (s.size - i) s i
/-- (no quote within) -/
def quoN : Nat → B → Nat → B → Option (Nat × B)
  | 0, _, _, _ => none
  | n + 1, s, j, v => match s.data[j]? with
    | none => none
    | some c => if c.toNat = 34 then (match s.data[j + 1]? with
        | some d => if d.toNat = 34 then none else some (j, v)
        | none => some (j, v)) else quoN n s (j + 1) (v ++ s.extract j (j + 1))
def quoF (s : B) (j : Nat) (v : B) : Option (Nat × B) := quoN (s.size - j) s j v
def signsL : List B := [⟨#[60, 47]⟩, ⟨#[33, 61]⟩, ⟨#[58, 58]⟩, ⟨#[37, 99]⟩, ⟨#[91]⟩, ⟨#[93]⟩, ⟨#[40]⟩, ⟨#[41]⟩, ⟨#[123]⟩, ⟨#[125]⟩, ⟨#[60]⟩, ⟨#[62]⟩, ⟨#[124]⟩, ⟨#[38]⟩, ⟨#[33]⟩, ⟨#[61]⟩, ⟨#[58]⟩, ⟨#[46]⟩, ⟨#[44]⟩, ⟨#[63]⟩, ⟨#[42]⟩, ⟨#[43]⟩, ⟨#[45]⟩]
def preB (s : B) (i : Nat) (x : B) : Bool := decide (i + x.size ≤ s.size ∧ s.extract i (i + x.size) = x)
def tokF (s : B) (i : Nat) : Option (Nat × Tok) := match s.data[i]? with
  | none => none
  | some c =>
    if 65 ≤ c.toNat ∧ c.toNat ≤ 90 ∨ 97 ≤ c.toNat ∧ c.toNat ≤ 122 ∨ c.toNat = 95 then none
    else if 48 ≤ c.toNat ∧ c.toNat ≤ 57 then some (digF s i, ⟨100, s.extract i (digF s i), i⟩)
    else if c.toNat = 34 then (quoF s (i + 1) ⟨#[]⟩).map fun r => (r.1 + 1, ⟨115, r.2, i⟩)
    else match signsL.find? (preB s i) with
      | none => none
      | some x => some (i + x.size, ⟨111, s.extract i (i + x.size), i⟩)
def scanN : Nat → B → Nat → List Tok → Option (List Tok)
  | 0, _, _, _ => none
  | k + 1, s, i, out => if skipF s i = s.size then some (out ++ [⟨101, ⟨#[]⟩, s.size⟩]) else (tokF s (skipF s i)).bind fun r => if r.1 ≤ s.size ∧ skipF s i < r.1 then scanN k s r.1 (out ++ [r.2]) else none
def scanF (s : B) : Option (List Tok) := if s.size ≤ 100000 then scanN 100000 s 0 [] else none
theorem skipF_step {s : B} {i : Nat} (h : i < s.size) : skipF s i = if isSp s i then skipF s (i + 1) else i := by
  unfold skipF
  rw [show s.size - i = (s.size - (i + 1)) + 1 by omega, skipN]
theorem skipF_end {s : B} {i : Nat} (h : s.size ≤ i) : skipF s i = i := by
  unfold skipF
  rw [show s.size - i = 0 by omega, skipN]
theorem digF_step {s : B} {i : Nat} (h : i < s.size) : digF s i = if isDg s i then digF s (i + 1) else i := by
  unfold digF
  rw [show s.size - i = (s.size - (i + 1)) + 1 by omega, digN]
theorem digF_end {s : B} {i : Nat} (h : s.size ≤ i) : digF s i = i := by
  unfold digF
  rw [show s.size - i = 0 by omega, digN]
theorem quoF_step {s : B} {j : Nat} {v : B} {c : UInt8} (h : s.data[j]? = some c) : quoF s j v = if c.toNat = 34 then (match s.data[j + 1]? with
        | some d => if d.toNat = 34 then none else some (j, v)
        | none => some (j, v)) else quoF s (j + 1) (v ++ s.extract j (j + 1)) := by
  have hj : j < s.size := (Array.getElem?_eq_some_iff.1 h).1
  unfold quoF
  rw [show s.size - j = (s.size - (j + 1)) + 1 by omega, quoN, h]
theorem quoF_end {s : B} {j : Nat} {v : B} (h : s.size ≤ j) : quoF s j v = none := by
  unfold quoF
  rw [show s.size - j = 0 by omega, quoN]
end Go.Gv

namespace Go.Gv
set_option linter.unusedSimpArgs false
def Glob0 : Glob := ⟨0, E0, E0, E0, E0, E0, false, 0, 0, [], []⟩
/-- A text that is a pattern and nothing else. -/
def parseF (s : B) : Option Pat := if s.size ≤ 400 then (scanF s).bind fun l => (altF 10 ⟨l, 0, 0, 0, 0⟩).bind fun r => if r.1.e ≠ 0 then none else (nowT r.1).bind fun t => if t.kind = 101 then some r.2 else none else none
def knownText : B := ⟨#[40, 34, 97, 34, 32, 34, 98, 34, 41, 123, 50, 125, 32, 34, 99, 34]⟩
def tokQ (b : B) : Pat := ⟨1, ⟨2, E0, E0, b, E0, false, []⟩, E0, E0, 0, 0, []⟩
def knownPat : Pat := ⟨4, Cond0, E0, E0, 0, 0, [⟨6, Cond0, E0, E0, 2, 2, [⟨4, Cond0, E0, E0, 0, 0, [tokQ ⟨#[97]⟩, tokQ ⟨#[98]⟩]⟩]⟩, tokQ ⟨#[99]⟩]⟩

mutual
def srcL : Pat → Int → Int → List Span
  | .mk op _ _ _ mn _ ks, d, leaf => if op = 1 then [⟨leaf, d⟩] else if op = 4 then srcsL ks d leaf else if op = 6 then (match ks with | [] => [] | k :: _ => (List.range mn.toNat).flatMap fun (i : Nat) => if i = 0 ∨ (widP k).1 = (widP k).2 then srcL k (d + i * (widP k).1) leaf else []) else []
def srcsL : List Pat → Int → Int → List Span
  | [], _, _ => []
  | k :: ks, d, leaf => srcL k d leaf ++ if (widP k).1 = (widP k).2 then srcsL ks (d + (widP k).1) (leaf + (leavesP k).length) else []
end
theorem srcL_mem (p : Pat) : ∀ (d leaf : Int) (s : Span), s ∈ srcL p d leaf ↔ Src p d leaf s := by
  induction p using pat_ind with | _ p ih => ?_
  intro d leaf s
  obtain ⟨op, c, l, r, mn, mx, ks⟩ := p
  simp only at ih
  rw [srcL.eq_def, Src.eq_def]
  simp only
  split
  · simp
  · split
    · have : ∀ ks' : List Pat, (∀ k ∈ ks', k ∈ ks) → ∀ d leaf : Int, s ∈ srcsL ks' d leaf ↔ Srcs ks' d leaf s := by
        intro ks'
        induction ks' with
        | nil => intro _ d leaf; rw [srcsL, Srcs]; simp
        | cons k ks' ihk =>
          intro hk d leaf
          rw [srcsL, Srcs, List.mem_append, ih k (hk k (by simp))]
          refine or_congr_right ?_
          split
          · rename_i h
            rw [ihk (fun z hz => hk z (by simp [hz]))]
            exact ⟨fun h' => ⟨h, h'⟩, fun h' => h'.2⟩
          · rename_i h
            exact ⟨fun h' => by simp at h', fun h' => absurd h'.1 h⟩
      exact this ks (fun _ h => h) d leaf
    · split
      · split
        · simp
        · rename_i k ks'
          rw [List.mem_flatMap]
          constructor
          · rintro ⟨i, hi, hs⟩
            split at hs
            · rename_i hw
              rw [ih k (by simp)] at hs
              rw [List.mem_range] at hi
              exact ⟨i, by omega, by omega, hw.imp (fun h => by omega) id, hs⟩
            · simp at hs
          · rintro ⟨i, h0, h1, h2, h3⟩
            refine ⟨i.toNat, by rw [List.mem_range]; omega, ?_⟩
            rw [if_pos (h2.imp (fun h => by omega) id), ih k (by simp), show ((i.toNat : Nat) : Int) = i by omega]
            exact h3
      · simp
theorem srcsOf_of {p : Pat} {l : List Span} (h : SS l) (h1 : ∀ s, s ∈ l ↔ s ∈ srcL p 0 0) : SrcsOf p l := ⟨h, fun s => (h1 s).trans (srcL_mem p 0 0 s)⟩
end Go.Gv

namespace Go.Gv
set_option linter.unusedSimpArgs false
set_option linter.unusedVariables false
theorem validN_small {s : B} {c d : UInt8} (h : s = ⟨#[c]⟩ ∨ s = ⟨#[c, d]⟩) (hc : begB c.toNat = true) (hd : begB d.toNat = true) : validN s = true := by
  refine (validN_iff s).2 ?_
  have hc' : conB c.toNat = true := by unfold conB; rw [hc]; rfl
  have hd' : conB d.toNat = true := by unfold conB; rw [hd]; rfl
  rcases h with rfl | rfl
  · refine ⟨by show 1 ≤ 1; decide, by show 1 ≤ 32; decide, fun x hx => ?_, fun k x hx => ?_⟩
    · cases hx; exact hc
    · rcases k with _ | k
      · cases hx; exact hc'
      · simp at hx
  · refine ⟨by show 1 ≤ 2; decide, by show 2 ≤ 32; decide, fun x hx => ?_, fun k x hx => ?_⟩
    · cases hx; exact hc
    · rcases k with _ | _ | k
      · cases hx; exact hc'
      · cases hx; exact hd'
      · simp at hx
theorem validN_gen : validN b_s = true ∧ validN b_np = true ∧ validN b_t = true ∧ validN b_x = true ∧ validN b_y = true :=
  ⟨validN_small (c := 115) (d := 115) (.inl rfl) (by decide) (by decide), validN_small (c := 110) (d := 112) (.inr rfl) (by decide) (by decide), validN_small (c := 116) (d := 116) (.inl rfl) (by decide) (by decide),
   validN_small (c := 120) (d := 120) (.inl rfl) (by decide) (by decide), validN_small (c := 121) (d := 121) (.inl rfl) (by decide) (by decide)⟩
/-- The sources of a generated pattern. -/
theorem wp_fixed {lb : List B} (hl : LabOk lb) {n : Nat} {p : Pat} (h : WP lb n p) (hn : n ≤ 4) : P_Fixed p ∧ ∀ y, Q_Fixed p y → SrcsOf p y := by
  obtain ⟨h1, h2, h3⟩ := wp_size n p h (by omega)
  have h4 := wp_cnt n p h
  have e : (3 : Int) ^ n ≤ 81 ∧ 2 ^ (n + 1) ≤ 32 ∧ 2 ^ n ≤ 16 := by
    have : n = 0 ∨ n = 1 ∨ n = 2 ∨ n = 3 ∨ n = 4 := by omega
    rcases this with rfl | rfl | rfl | rfl | rfl <;> decide
  refine ⟨⟨by omega, by omega⟩, fun y hy => ?_⟩
  unfold Q_Fixed at hy
  rwa [if_pos ⟨wp_patB hl validN_gen n p h (by omega), by omega⟩] at hy
end Go.Gv
