/- A part of the framework and of the walks: W32 W36 W40 W41 W55 W43. -/
import Derived.Test.YtblcfloekekefaaGreatGx17
import Derived.Test.YtblcfloekekefaaGreatGx18
import Derived.Test.YtblcfloekekefaaGreatGx22
import Derived.Test.YtblcfloekekefaaGreatGx14
import Derived.Test.YtblcfloekekefaaGreatGx19

namespace Go.Gv
set_option linter.unusedSimpArgs false
set_option linter.unusedVariables false
set_option maxRecDepth 100000
open Cod (enc dec)
variable {S S0 : Nat → Spc}
abbrev s_zero : Spc := spc (a1 Cond) (fun _ => True) (enc (X := Bool)) fun x y => (y = true ↔ x = Cond0)
theorem w_query_zero : Walk cc_query_zero rs_query_zero S (a1 Cond) (fun _ => True) (enc (X := Bool)) fun x y => (y = true ↔ x = Cond0) := by
  rintro ⟨op, n, a, v, l, f, ks⟩ -
  simp [cc_query_zero, rs_query_zero, Cond0]
  repeat' first | apply And.intro | intro _
  all_goals simp_all
abbrev s_node : Spc := spc (a1 Pat) (fun _ => True) (enc (X := Bool)) fun x y => y = nodeB x
theorem w_query_node (h1 : S f_query_zero = s_zero) : Walk cc_query_node rs_query_node S (a1 Pat) (fun _ => True) (enc (X := Bool)) fun x y => y = nodeB x := by
  rintro p -
  simp [cc_query_node, rs_query_node, h1, -Bool.forall_bool]
  clear h1
  repeat' first | apply And.intro | intro _
  all_goals (rw [Bool.eq_iff_iff, nodeB_iff]; unfold NodeOk; simp_all; try omega)
abbrev s_named : Spc := spc (a1 Pat) (fun _ => True) (enc (X := Bool)) fun x y => y = nameB validN x
theorem w_query_named (h1 : S f_markup_ValidName = s_validN) : Walk cc_query_named rs_query_named S (a1 Pat) (fun _ => True) (enc (X := Bool)) fun x y => y = nameB validN x := by
  rintro p -
  simp [cc_query_named, rs_query_named, h1, nameB, -Bool.forall_bool]
  clear h1
  repeat' first | apply And.intro | intro _
  all_goals (first | omega | simp_all; try omega)
abbrev s_ranged : Spc := spc (a1 Pat) (fun _ => True) (enc (X := Bool)) fun x y => y = numB x
theorem w_query_ranged : Walk cc_query_ranged rs_query_ranged S (a1 Pat) (fun _ => True) (enc (X := Bool)) fun x y => y = numB x := by
  rintro p -
  simp [cc_query_ranged, rs_query_ranged, numB]
  repeat' first | apply And.intro | intro _
  all_goals (first | omega | (rw [Bool.eq_iff_iff]; simp; omega))
end Go.Gv

namespace Go.Gv
set_option linter.unusedSimpArgs false
set_option linter.unusedVariables false
set_option maxRecDepth 100000
open Cod (enc dec)
variable {S S0 : Nat → Spc}
theorem w_query_size (n : Nat) (h1 : S f_query_size = s_size n) : Walk cc_query_size rs_query_size S (a1 Pat) (PPat (n + 1)) (enc (X := Int)) fun x y => y = sizeP x := by
  rintro p hp
  have hk : ∀ k ∈ p.kids, PPat n k := fun k => hp.kid
  have hs : ∀ k ∈ p.kids, 0 ≤ sizeP k ∧ sizeP k ≤ 1000 := fun k h => sizeP_rng (v := validN) k (hk k h).2
  simp [cc_query_size, rs_query_size]
  intro _
  refine vc_range (X := Int) [1, 7] [] p.kids.length (fun k n => n = sizePs (p.kids.take k) 0) (fun n => [(3, enc n)]) (fun _ => []) 0 (by simp) (by simp) (by omega) (by simp) (by simp) (by simp [sizePs]) (by simp) (by simp) ?_ ?_
  · rintro k m hkl hP
    obtain ⟨x, hx⟩ := at_lt hkl
    have hx1 := mem_at hx
    obtain ⟨_, hgx⟩ := List.getElem?_eq_some_iff.1 hx
    have hm := sizePs_rng (p.kids.take k) 0 (by omega) (by omega) (fun y hy => (hs y (List.mem_of_mem_take hy)).1)
    have h2 := hs x hx1
    rw [← hP] at hm
    have q1 := hk x hx1
    simp [h1, hkl, hx, hgx, q1]
    refine ⟨by simp only [InR]; omega, ?_⟩
    rw [take_snoc hx, sizePs_app, ← hP, sizePs, sizePs]
  · rintro m hP
    have hm := sizePs_rng (p.kids.take p.kids.length) 0 (by omega) (by omega) (fun y hy => (hs y (List.mem_of_mem_take hy)).1)
    rw [← hP] at hm
    rw [List.take_length] at hP
    have hn := (patB_node hp.2).2.2
    unfold numB at hn
    rw [decide_eq_true_eq] at hn
    rw [sizeP_eq, sizeN, ← hP]
    simp
    intro _
    refine ⟨fun h => fun h' => absurd h h', fun h0 => ⟨fun h6 => ?_, fun h6 => by rw [if_neg h0, if_neg h6]⟩⟩
    rw [if_neg h0, if_pos h6]
    have hn := hn h6
    refine ⟨fun e => by rw [if_neg (by omega), if_pos e], fun e => ⟨fun e2 => ?_, fun e2 => ?_⟩⟩
    · have h2 := mul_rng hm.1 hm.2 (show 0 ≤ p.mn + 1 by omega) (show p.mn + 1 ≤ 17 by omega)
      rw [if_pos (by omega)]
      exact ⟨by simp only [InR]; omega, by simp only [InR]; omega, rfl⟩
    · have h2 := mul_rng hm.1 hm.2 (show 0 ≤ p.mx by omega) (show p.mx ≤ 16 by omega)
      rw [if_neg (by omega), if_neg e]
      exact ⟨by simp only [InR]; omega, rfl⟩
theorem w_query_Size (h1 : S f_query_right = s_r23_IsPattern) (h2 : S f_query_size = s_sizeA) : Walk cc_query_Size rs_query_Size S (a1 Pat) (fun _ => True) (enc (X := Int)) fun x y => y = if patB validN x then sizeP x else 0 := by
  rintro p -
  simp [cc_query_Size, rs_query_Size, h1, h2, -Bool.forall_bool]
  exact ⟨fun h1 h2 => absurd (h1.symm.trans h2) (by simp), fun h1 => ⟨h1, fun h2 => absurd (h2.symm.trans h1) (by simp)⟩⟩
theorem w_query_Width (h1 : S f_query_right = s_r23_IsPattern) (h2 : S f_query_width = s_widthA) : Walk cc_query_Width rs_query_Width S (a1 Pat) (fun _ => True) (er2 (Y := Int) (Z := Int)) fun x y => y = if patB validN x then widP x else (0, 0) := by
  rintro p -
  simp [cc_query_Width, rs_query_Width, h1, h2, er2, -Bool.forall_bool]
  exact ⟨fun h1 h2 => absurd (h1.symm.trans h2) (by simp), fun h1 => ⟨h1, fun h2 => absurd (h2.symm.trans h1) (by simp)⟩⟩
theorem w_query_width (n : Nat) (h1 : S f_query_width = s_width n) : Walk cc_query_width rs_query_width S (a1 Pat) (PPat (n + 1)) (er2 (Y := Int) (Z := Int)) fun x y => y = widP x := by
  rintro p hp
  have hk : ∀ k ∈ p.kids, PPat n k := fun k => hp.kid
  have hs : ∀ k ∈ p.kids, WidOk (widP k) := fun k h => widP_ok (v := validN) k (hk k h).2
  have hn := (patB_node hp.2).2.2
  unfold numB at hn
  rw [decide_eq_true_eq] at hn
  rcases node_kids (patB_node hp.2).1 with ⟨ho, _⟩ | ⟨ho, _⟩ | ⟨ho, k0, ks, hkk⟩ | ⟨ho, k0, hkk⟩
  · simp [cc_query_width, rs_query_width, h1, ho, widP1 ho]
  · have := widP2 ho
    rcases ho with ho | ho <;> simp [cc_query_width, rs_query_width, h1, ho, this]
  · have hc : p.op ≠ 1 ∧ p.op ≠ 2 ∧ p.op ≠ 3 ∧ p.op ≠ 6 := by omega
    have q1 := hk k0 (by rw [hkk]; simp)
    have q2 := hs k0 (by rw [hkk]; simp)
    simp [cc_query_width, rs_query_width, h1, hc, er2, hkk, q1]
    refine ⟨by omega, fun _ => ?_⟩
    refine vc_range (X := Int × Int) [1, 69] [] ks.length (fun k w => w = widPs (decide (p.op = 4)) (ks.take k) (widP k0) ∧ WidOk w) (fun w => [(6, enc w.1), (7, enc w.2)]) (fun _ => []) (widP k0) (by simp) (by simp) (by omega) (by simp) (by simp) (by simp [widPs, q2]) (by simp) (by simp) ?_ ?_
    · rintro k w hkl ⟨hP1, hP2⟩
      obtain ⟨x, hx⟩ := at_lt hkl
      have hx1 : x ∈ p.kids := by rw [hkk]; exact List.mem_cons_of_mem _ (mem_at hx)
      obtain ⟨_, hgx⟩ := List.getElem?_eq_some_iff.1 hx
      have q3 := hk x hx1
      have q4 := hs x hx1
      have key : ∀ r : Int × Int, r = widC (decide (p.op = 4)) w (widP x) → r = widPs (decide (p.op = 4)) (ks.take (k + 1)) (widP k0) ∧ WidOk r := by
        intro r hr
        rw [take_snoc hx, widPs_app, widPs, widPs, ← hP1]
        exact ⟨hr, by rw [hr]; exact widC_ok hP2 q4⟩
      simp [h1, hkl, hx, hgx, q3, er2]
      clear h1
      generalize widP x = u at q4 key
      obtain ⟨u1, u2⟩ := u
      obtain ⟨w1, w2⟩ := w
      unfold WidOk at q4 hP2
      simp only at q4 hP2
      clear hP1
      refine ⟨fun e1 => ⟨fun h4 => ⟨by simp only [InR]; omega, by simp only [InR]; omega, fun e2 => key _ ?_, fun e2 => key _ ?_⟩, fun h4 => ⟨fun e2 => key _ ?_, fun e2 => key _ ?_⟩⟩, fun e1 => ⟨fun h4 => ⟨by simp only [InR]; omega, by simp only [InR]; omega, key _ ?_⟩, fun h4 => key _ ?_⟩⟩
      all_goals clear key
      all_goals (try simp only at e1)
      all_goals (try simp only at e2)
      all_goals (unfold widC; simp [h4]; try omega)
    · rintro w ⟨hP, _⟩
      simp [er2]
      rw [widP4 ho hkk]
      rw [List.take_length] at hP
      rw [← hP]
  · have q1 := hk k0 (by rw [hkk]; simp)
    have q2 := hs k0 (by rw [hkk]; simp)
    have hn := hn ho
    simp [cc_query_width, rs_query_width, h1, ho, hkk, q1, er2]
    rw [widP6 ho hkk]
    generalize widP k0 = w at q2
    unfold WidOk at q2
    have h2 := mul_rng q2.1 q2.2.1 hn.1 hn.2.1
    refine ⟨by simp only [InR]; omega, fun e1 => ⟨fun e2 => by rw [if_pos (.inr e2)], fun e2 => ⟨fun e3 => ⟨fun e4 => ?_, fun e4 => ?_⟩, fun e3 => ?_⟩⟩, fun e1 => by rw [if_pos (.inl e1)]⟩
    · rw [if_neg (by omega), if_pos (by omega)]
    · have h3 := mul_rng e4 q2.2.2.2 (show 0 ≤ p.mx by omega) (show p.mx ≤ 16 by omega)
      refine ⟨by simp only [InR]; omega, ?_⟩
      rw [if_neg (by omega), if_neg (by omega)]
    · rw [if_neg (by omega), if_pos (by omega)]
end Go.Gv

namespace Go.Gv
set_option linter.unusedSimpArgs false
set_option linter.unusedVariables false
set_option maxRecDepth 100000
open Cod (enc dec)
variable {S S0 : Nat → Spc}
def lvN (ks : List Pat) : Nat := (ks.flatMap leavesP).length
theorem lvN_nil : lvN [] = 0 := rfl
theorem lvN_cons (k : Pat) (ks : List Pat) : lvN (k :: ks) = (leavesP k).length + lvN ks := by simp [lvN]
theorem lvN_eq {p : Pat} (h : p.op ≠ 1) : (leavesP p).length = lvN p.kids := by rw [leavesP_eq, if_neg h]; rfl
/-- A finder: the number of the next leaf; the slice of what was found (a row of its own). -/
structure Fnd where
  leaf : Int
  v : Value
  out : List Span
def fndB : BoxF Fnd := ⟨[47], fun x => [.v (.int .i64 x.leaf), .own 47 x.v], fun x => [(47, .row x.v ty_Source 2 (x.out.map enc))], fun _ => rfl⟩
@[simp] theorem fndB_ce (x : Fnd) : fndB.ce x = [.v (.int .i64 x.leaf), .own 47 x.v] := id rfl
@[simp] theorem fndB_hp (x : Fnd) : fndB.hp x = [(47, .row x.v ty_Source 2 (x.out.map enc))] := id rfl
def P_visit (n : Nat) (x : Fnd) (z : Pat × List Int) : Prop := PPat n z.1 ∧ 0 ≤ x.leaf ∧ x.leaf + pNum z.1 ≤ 100000000 ∧ x.out.length + z.2.length * cntP z.1 ≤ 100000 ∧ ∀ a ∈ z.2, 0 ≤ a ∧ a + 200000 * pNum z.1 ≤ 1000000000000000
def Q_visit (x : Fnd) (z : Pat × List Int) (x' : Fnd) (_ : Unit) : Prop := x'.leaf = x.leaf + (leavesP z.1).length ∧ x'.out.length ≤ x.out.length + z.2.length * cntP z.1 ∧ ∀ s, s ∈ x'.out ↔ s ∈ x.out ∨ ∃ a ∈ z.2, Src z.1 a x.leaf s
abbrev s_visit (n : Nat) : Spc := bpC fndB (a2 Pat (List Int)) er0 (P_visit n) Q_visit
theorem visit_use {n : Nat} {p : Pat} {l : List Int} {leaf : Int} {v : Value} {out : List Span} {d b : Nat} {P L : D} {H : HMap} {K : D → HMap → Prop} (hP : dec P = some p) (hL : dec L = some l)
    (h0 : H 0 = some (.box b [.v (.int .i64 leaf), .own 47 v])) (h47 : H 47 = some (.row v ty_Source 2 (out.map enc))) (hpre : P_visit n ⟨leaf, v, out⟩ (p, l))
    (hK : ∀ leaf' v' out', Q_visit ⟨leaf, v, out⟩ (p, l) ⟨leaf', v', out'⟩ () → K (.tup []) (updH (updH H 47 (some (.row v' ty_Source 2 (out'.map enc)))) 0 (some (.box b [.v (.int .i64 leaf'), .own 47 v'])))) : (s_visit n).pt d [.bptr 0 b 0, P, L] H K := by
  refine ⟨0, b, ⟨leaf, v, out⟩, (p, l), [P, L], rfl, ?_, h0, ?_, by simp [fndB], hpre, fun x' y hq => ?_⟩
  · rw [a2_dec, hP, hL]; rfl
  · intro q hq
    simp at hq
    subst hq
    exact h47
  · exact hK x'.leaf x'.v x'.out hq
theorem finV {b : Nat} {leaf : Int} {v : Value} {out : List Span} {q : Fnd → Unit → Prop} {H : HMap} (h0 : H 0 = some (.box b [.v (.int .i64 leaf), .own 47 v])) (h47 : H 47 = some (.row v ty_Source 2 (out.map enc))) (hq : q ⟨leaf, v, out⟩ ()) : FinBP fndB er0 b q (.tup []) H :=
  ⟨⟨leaf, v, out⟩, (), .same _, h0, fun p hp => by simp at hp; subst hp; exact h47, hq⟩
theorem w_estimate_visit (n : Nat) (h1 : S f_query_Width = s_Width) (h2 : S f_estimate_shift = s_estimate_shift) (h3 : S f_estimate_times = s_estimate_times) (h4 : S f_estimate_finder_visit = s_visit n) : WalkBP cc_estimate_finder_visit rs_estimate_finder_visit S fndB (a2 Pat (List Int)) er0 (P_visit (n + 1)) Q_visit := by
  rintro b ⟨leaf, v, out⟩ ⟨p, l⟩ ⟨hp, hl0, hl1, hlen, ha⟩
  simp only at hp hl0 hl1 hlen ha
  have hk : ∀ k ∈ p.kids, PPat n k := fun k => hp.kid
  have hs : ∀ k ∈ p.kids, WidOk (widP k) := fun k h => widP_ok (v := validN) k (hk k h).2
  have hn := (patB_node hp.2).2.2
  unfold numB at hn
  rw [decide_eq_true_eq] at hn
  have none4 : p.op ≠ 1 ∧ p.op ≠ 4 ∧ p.op ≠ 6 → ↑p.kids.length ≤ (9223372036854775807 : Int) → vc S cc_estimate_finder_visit (retK rs_estimate_finder_visit fun r H' => FinBP fndB er0 b (Q_visit ⟨leaf, v, out⟩ (p, l)) r H') (initS (.bptr 0 b 0 :: (a2 Pat (List Int)).view (p, l))) (updH (addH (fndB.hp ⟨leaf, v, out⟩) noH) 0 (some (.box b (fndB.ce ⟨leaf, v, out⟩)))) := by
    intro e hkl
    simp [cc_estimate_finder_visit, rs_estimate_finder_visit, e]
    intro _
    rw [pNum_eq] at hl1
    have hcnt : out.length ≤ 100000 := by omega
    refine vc_range (X := Fnd) [0, 17] [] p.kids.length (fun k x => 0 ≤ x.leaf ∧ x.leaf + pNums (p.kids.drop k) ≤ 100000000 ∧ x.out.length ≤ out.length ∧ x.leaf + lvN (p.kids.drop k) = leaf + lvN p.kids ∧ ∀ s, s ∈ x.out ↔ s ∈ out) (fun x => []) (fun x => [(0, .box b [.v (.int .i64 x.leaf), .own 47 x.v]), (47, .row x.v ty_Source 2 (x.out.map enc))]) ⟨leaf, v, out⟩ (by simp) (by simp) (by omega) (by simp) (by simp) ⟨hl0, by simp; omega, Nat.le_refl _, by simp, by simp⟩ (by simp) (by simp) ?_ ?_
    · rintro k ⟨leaf', v', out'⟩ hkl ⟨b0, b1, b2, b3, b4⟩
      simp only at b0 b1 b2 b3 b4
      obtain ⟨x, hx⟩ := at_lt hkl
      have hx1 := mem_at hx
      obtain ⟨_, hgx⟩ := List.getElem?_eq_some_iff.1 hx
      rw [drop_cons_of hx, pNums] at b1
      rw [drop_cons_of hx, lvN_cons] at b3
      have q1 := hk x hx1
      simp [hkl, hx, hgx]
      intro b1'
      rw [h4]
      refine visit_use (p := x) (l := []) (leaf := leaf') (v := v') (out := out') ?_ ?_ ?_ ?_ ⟨q1, b0, by show leaf' + (pNum x : Int) ≤ _; omega, by simp; omega, by simp⟩ ?_
      · simp
      · simp
      · simp
      · simp
      rintro leaf2 v2 out2 ⟨c1, c2, c3⟩
      simp only at c1 c2 c3
      have q4 := leavesP_le x
      simp
      refine ⟨⟨leaf2, v2, out2⟩, ⟨by show 0 ≤ leaf2; omega, by show leaf2 + _ ≤ _; omega, ?_, by show leaf2 + _ = _; omega, fun s => ?_⟩, .inl ⟨rfl, rfl⟩, .inl ⟨rfl, rfl⟩⟩
      · show out2.length ≤ out.length
        simp at c2
        omega
      · show s ∈ out2 ↔ s ∈ out
        rw [c3 s, b4 s]
        simp
    · rintro ⟨leaf', v', out'⟩ ⟨b0, b1, b2, b3, b4⟩
      simp only at b0 b1 b2 b3 b4
      simp
      refine finV (leaf := leaf') (v := v') (out := out') (by simp) (by simp) ⟨?_, ?_, fun s => ?_⟩
      · rw [List.drop_length] at b3
        rw [lvN_nil] at b3
        show leaf' = leaf + ((leavesP p).length : Int)
        rw [lvN_eq e.1]
        omega
      · show out'.length ≤ out.length + _
        omega
      · rw [b4 s]
        exact ⟨.inl, fun h => h.elim id fun ⟨a, _, h⟩ => absurd h (src0 e _ _ _)⟩
  have hkl : ↑p.kids.length ≤ (9223372036854775807 : Int) := by
    have : ∀ ks : List Pat, ks.length ≤ pNums ks := by
      intro ks
      induction ks with
      | nil => simp
      | cons k ks ih => rw [pNums, List.length_cons]; have : 1 ≤ pNum k := by rw [pNum_eq]; omega
                        omega
    have := this p.kids
    rw [pNum_eq] at hl1
    omega
  rcases node_kids (patB_node hp.2).1 with ⟨ho, hkk⟩ | ⟨ho, hkk⟩ | ⟨ho, k0, ks, hkk⟩ | ⟨ho, k0, hkk⟩
  · rw [cntP_eq, if_pos hkk, Nat.mul_one] at hlen
    simp [cc_estimate_finder_visit, rs_estimate_finder_visit, ho]
    intro _
    refine vc_range (X := Value × List Span) [0, 29] [] l.length (fun k x => x.2 = out ++ (l.take k).map fun a => ⟨leaf, a⟩) (fun x => []) (fun x => [(0, .box b [.v (.int .i64 leaf), .own 47 x.1]), (47, .row x.1 ty_Source 2 (x.2.map enc))]) (v, out) (by simp) (by simp) (by omega) (by simp) (by simp) (by simp) (by simp) (by simp) ?_ ?_
    · rintro k ⟨v, m⟩ hkl hm
      simp only at hm
      obtain ⟨x, hx⟩ := at_lt hkl
      obtain ⟨_, hgx⟩ := List.getElem?_eq_some_iff.1 hx
      have hml : m.length = out.length + k := by rw [hm]; simp; omega
      simp [hkl, hx, hgx]
      refine ⟨by omega, by omega, fun v => .inl (.inl ?_)⟩
      rw [List.take_add_one, hm]
      simp [hx]
    · rintro ⟨v', m⟩ hm
      simp only at hm
      rw [List.take_length] at hm
      simp
      have : 1 ≤ pNum p := by rw [pNum_eq]; omega
      refine ⟨by simp only [InR]; omega, finV (leaf := leaf + 1) (v := v') (out := m) (by simp) (by simp) ⟨?_, ?_, fun s => ?_⟩⟩
      · rw [leavesP_eq, if_pos ho]; rfl
      · show m.length ≤ out.length + l.length * cntP p
        rw [hm, cntP_eq, if_pos hkk]
        simp
      · show s ∈ m ↔ s ∈ out ∨ ∃ a ∈ l, Src p a leaf s
        rw [hm, List.mem_append, List.mem_map]
        refine or_congr_right (exists_congr fun a => and_congr_right fun _ => ?_)
        rw [src1 ho]
        exact eq_comm
  · exact none4 (by omega) hkl
  · by_cases h4' : p.op = 4
    · rw [pNum_eq] at hl1
      have ha' : ∀ a ∈ l, 0 ≤ a ∧ a + 200000 * pNums p.kids ≤ 1000000000000000 := fun a h => by have := ha a h; rw [pNum_eq] at this; omega
      rw [cntP_eq, if_neg (by rw [hkk]; simp), if_neg (by omega)] at hlen
      simp [cc_estimate_finder_visit, rs_estimate_finder_visit, h4']
      intro _
      refine vc_range (X := Fnd × List Int) [0, 61] [] p.kids.length (fun k x => (0 ≤ x.1.leaf ∧ x.1.leaf + pNums (p.kids.drop k) ≤ 100000000) ∧ x.1.out.length + x.2.length * cntPs (p.kids.drop k) ≤ out.length + l.length * cntPs p.kids ∧ (∀ a ∈ x.2, 0 ≤ a ∧ a + 200000 * pNums (p.kids.drop k) ≤ 1000000000000000) ∧ x.1.leaf + lvN (p.kids.drop k) = leaf + lvN p.kids ∧ ∀ s, (s ∈ x.1.out ∨ ∃ a ∈ x.2, Srcs (p.kids.drop k) a x.1.leaf s) ↔ (s ∈ out ∨ ∃ a ∈ l, Srcs p.kids a leaf s))
        (fun x => [(2, enc x.2)]) (fun x => [(0, .box b [.v (.int .i64 x.1.leaf), .own 47 x.1.v]), (47, .row x.1.v ty_Source 2 (x.1.out.map enc))]) (⟨leaf, v, out⟩, l) (by simp) (by simp) (by omega) (by simp) (by simp) ⟨⟨hl0, by simp; omega⟩, by simp, by simpa using ha', by simp, by simp⟩ (by simp) (by simp) ?_ ?_
      · rintro k ⟨⟨leaf', v', out'⟩, l'⟩ hkl ⟨⟨b0, b1⟩, b2, b3, b4, b5⟩
        simp only at b0 b1 b2 b3 b4 b5
        obtain ⟨x, hx⟩ := at_lt hkl
        have hx1 := mem_at hx
        obtain ⟨_, hgx⟩ := List.getElem?_eq_some_iff.1 hx
        rw [drop_cons_of hx, pNums] at b1 b3
        rw [drop_cons_of hx, cntPs, Nat.mul_add] at b2
        rw [drop_cons_of hx, lvN_cons] at b4
        have q1 := hk x hx1
        have q2 := hs x hx1
        simp [hkl, hx, hgx]
        intro b1'
        rw [h4]
        refine visit_use (p := x) (l := l') (leaf := leaf') (v := v') (out := out') ?_ ?_ ?_ ?_ ⟨q1, b0, by show leaf' + (pNum x : Int) ≤ _; omega, by show out'.length + l'.length * cntP x ≤ _; omega, fun a h => by have := b3 a h; show 0 ≤ a ∧ a + 200000 * (pNum x : Int) ≤ _; omega⟩ ?_
        · simp
        · simp
        · simp
        · simp
        rintro leaf2 v2 out2 ⟨c1, c2, c3⟩
        simp only at c1 c2 c3
        have q4 := leavesP_le x
        simp [h1, h2, q1.2, er2]
        unfold WidOk at q2
        have hlx : l'.length ≤ 100000 := by
          have := Nat.mul_le_mul_left l'.length (cntP_pos x)
          omega
        have hb : ∀ s, (s ∈ out2 ∨ ∃ a ∈ l', (widP x).1 = (widP x).2 ∧ Srcs (p.kids.drop (k + 1)) (a + (widP x).1) leaf2 s) ↔ (s ∈ out ∨ ∃ a ∈ l, Srcs p.kids a leaf s) := by
          intro s
          rw [← b5 s, c3 s, drop_cons_of hx, or_assoc, c1]
          refine or_congr_right ⟨?_, ?_⟩
          · rintro (⟨a, ha1, h⟩ | ⟨a, ha1, h⟩)
            · exact ⟨a, ha1, by rw [Srcs]; exact .inl h⟩
            · exact ⟨a, ha1, by rw [Srcs]; exact .inr h⟩
          · rintro ⟨a, ha1, h⟩
            rw [Srcs] at h
            rcases h with h | h
            · exact .inl ⟨a, ha1, h⟩
            · exact .inr ⟨a, ha1, h⟩
        refine ⟨fun hne => ⟨⟨by simp, q2.1, by show (widP x).1 ≤ _; omega, by simp⟩, ⟨leaf2, v2, out2⟩, [], ⟨⟨by show 0 ≤ leaf2; omega, by show leaf2 + _ ≤ _; omega⟩, ?_, by simp, by show leaf2 + _ = _; omega, fun s => ?_⟩, rfl, .inl ⟨rfl, rfl⟩, .inl ⟨rfl, rfl⟩⟩, fun he => ⟨⟨hlx, q2.1, by show (widP x).1 ≤ _; omega, fun a h => by have := b3 a h; omega⟩, ⟨leaf2, v2, out2⟩, l'.map (· + (widP x).1), ⟨⟨by show 0 ≤ leaf2; omega, by show leaf2 + _ ≤ _; omega⟩, ?_, fun a h => ?_, by show leaf2 + _ = _; omega, fun s => ?_⟩, rfl, .inl ⟨rfl, rfl⟩, .inl ⟨rfl, rfl⟩⟩⟩
        · simp
          show out2.length ≤ _
          omega
        · rw [← hb s]
          refine or_congr_right ⟨fun ⟨a, h, _⟩ => by simp at h, fun ⟨a, _, h, _⟩ => absurd h hne⟩
        · rw [List.length_map]
          show out2.length + _ ≤ _
          omega
        · obtain ⟨a0, h0, rfl⟩ := List.mem_map.1 h
          have := b3 a0 h0
          have h3 : 1 ≤ pNum x := by rw [pNum_eq]; omega
          show 0 ≤ a0 + (widP x).1 ∧ a0 + (widP x).1 + _ ≤ _
          omega
        · rw [← hb s]
          refine or_congr_right ⟨?_, ?_⟩
          · rintro ⟨a, h, h'⟩
            obtain ⟨a0, h0, rfl⟩ := List.mem_map.1 h
            exact ⟨a0, h0, he, h'⟩
          · rintro ⟨a, h, _, h'⟩
            exact ⟨a + (widP x).1, List.mem_map.2 ⟨a, h, rfl⟩, h'⟩
      · rintro ⟨⟨leaf', v', out'⟩, l'⟩ ⟨⟨b0, b1⟩, b2, b3, b4, b5⟩
        simp only at b0 b1 b2 b3 b4 b5
        rw [List.drop_length] at b2 b4 b5
        rw [lvN_nil] at b4
        rw [cntPs, Nat.mul_zero] at b2
        simp
        refine finV (leaf := leaf') (v := v') (out := out') (by simp) (by simp) ⟨?_, ?_, fun s => ?_⟩
        · show leaf' = leaf + ((leavesP p).length : Int)
          rw [lvN_eq (by omega)]
          omega
        · show out'.length ≤ out.length + l.length * cntP p
          rw [cntP_eq, if_neg (by rw [hkk]; simp), if_neg (by omega)]
          omega
        · show s ∈ out' ↔ s ∈ out ∨ ∃ a ∈ l, Src p a leaf s
          have : (∃ a ∈ l, Src p a leaf s) ↔ ∃ a ∈ l, Srcs p.kids a leaf s := exists_congr fun a => and_congr_right fun _ => src4 h4' _ _ _
          rw [this, ← b5 s]
          exact ⟨.inl, fun h => h.elim id fun ⟨a, _, h⟩ => by rw [Srcs] at h; exact h.elim⟩
    · exact none4 (by omega) hkl
  · have q1 := hk k0 (by rw [hkk]; simp)
    have q2 := hs k0 (by rw [hkk]; simp)
    have hn := hn ho
    have e6 : (⟨6, p.cond, p.lab, p.reg, p.mn, p.mx, p.kids⟩ : Pat) = p := by rw [← ho]; exact eta_Pat p
    have hsz : cntP p = (max 1 p.mn).toNat * cntP k0 := by rw [cntP_eq, hkk, if_neg (by simp), if_pos ho, cntPs, cntPs, Nat.add_zero]
    have hpn : pNum p = pNum k0 + 1 := by rw [pNum_eq, hkk, pNums, pNums]
    have ht : P_times (p, l) := ⟨ho, hp.2, by show l.length * cntP p ≤ _; omega, fun a h => by have := ha a h; omega⟩
    simp [cc_estimate_finder_visit, rs_estimate_finder_visit, ho, h3, e6, ht]
    refine ⟨by rw [hkk]; simp, fun a haa => ?_⟩
    rw [hkk] at haa
    cases haa
    rintro y ⟨c1, c2⟩
    simp only at c1 c2
    have c2 := c2 k0 hkk
    rw [h4]
    refine visit_use (p := k0) (l := y) (leaf := leaf) (v := v) (out := out) ?_ ?_ ?_ ?_ ⟨q1, hl0, by show leaf + (pNum k0 : Int) ≤ _; omega, ?_, fun z hz => ?_⟩ ?_
    · simp
    · simp
    · simp
    · simp
    · show out.length + y.length * cntP k0 ≤ 100000
      rw [hsz, ← Nat.mul_assoc] at hlen
      have := Nat.mul_le_mul_right (cntP k0) c1
      omega
    · obtain ⟨a, ha1, i, h0, h1, h2, rfl⟩ := (c2 z).1 hz
      have h1 : i < p.mn := h1
      have := ha a ha1
      unfold WidOk at q2
      have hm := mul_rng h0 (show i ≤ 16 by omega) q2.1 q2.2.1
      show 0 ≤ a + i * (widP k0).1 ∧ a + i * (widP k0).1 + 200000 * (pNum k0 : Int) ≤ _
      omega
    · rintro leaf2 v2 out2 ⟨d1, d2, d3⟩
      simp only at d1 d2 d3
      refine finV (leaf := leaf2) (v := v2) (out := out2) (by simp) (by simp) ⟨?_, ?_, fun s => ?_⟩
      · show leaf2 = leaf + ((leavesP p).length : Int)
        rw [lvN_eq (by omega), hkk, lvN_cons, lvN_nil]
        omega
      · show out2.length ≤ out.length + l.length * cntP p
        rw [hsz, ← Nat.mul_assoc]
        have := Nat.mul_le_mul_right (cntP k0) c1
        omega
      · show s ∈ out2 ↔ s ∈ out ∨ ∃ a ∈ l, Src p a leaf s
        rw [d3 s]
        refine or_congr_right ⟨?_, ?_⟩
        · rintro ⟨z, hz, hsz⟩
          obtain ⟨a, ha1, i, h0, h1, h2, rfl⟩ := (c2 z).1 hz
          exact ⟨a, ha1, (src6 ho hkk _ _ _).2 ⟨i, h0, h1, h2, hsz⟩⟩
        · rintro ⟨a, ha1, h⟩
          obtain ⟨i, h0, h1, h2, h3⟩ := (src6 ho hkk _ _ _).1 h
          exact ⟨_, (c2 _).2 ⟨a, ha1, i, h0, h1, h2, rfl⟩, h3⟩
end Go.Gv

namespace Go.Gv
set_option linter.unusedSimpArgs false
set_option linter.unusedVariables false
set_option maxRecDepth 100000
open Cod (enc dec)
variable {S S0 : Nat → Spc}
abbrev s_estimate_compare : Spc := spc (a2 Span Span) (fun _ => True) (enc (X := Int)) fun x y => y = cmpSp x.1 x.2
theorem w_estimate_compare (h1 : S f_cmp_Compare_int = s_cmp_Compare_int) (h2 : S f_cmp_Or_int = s_cmp_Or_int) : Walk cc_estimate_compare rs_estimate_compare S (a2 Span Span) (fun _ => True) (enc (X := Int)) fun x y => y = cmpSp x.1 x.2 := by
  rintro ⟨a, b⟩ -
  simp [cc_estimate_compare, rs_estimate_compare, h1, h2, cmpSp]
  by_cases h : cmpI a.b b.b = 0
  · by_cases h' : cmpI a.e b.e = 0
    · simp [h, h']
    · simp [h, h']
  · simp [h]
def P_SortS (x : D × Unit) (l : List Span) : Prop := x.1 = .clo f_estimate_compare [] ∧ l.length ≤ 100000
abbrev s_SortFunc_Source : Spc := iuC (aD a0) P_SortS Q_SortFunc ty_Source 2
abbrev s_visitA : Spc := bpC fndB (a2 Pat (List Int)) er0 (fun x z => ∃ n, P_visit n x z) Q_visit
theorem visitA_use {n : Nat} {p : Pat} {l : List Int} {leaf : Int} {v : Value} {out : List Span} {id d b : Nat} {P L : D} {H : HMap} {K : D → HMap → Prop} (hid : id ≠ 47) (hP : dec P = some p) (hL : dec L = some l)
    (h0 : H id = some (.box b [.v (.int .i64 leaf), .own 47 v])) (h47 : H 47 = some (.row v ty_Source 2 (out.map enc))) (hpre : P_visit n ⟨leaf, v, out⟩ (p, l))
    (hK : ∀ leaf' v' out', Q_visit ⟨leaf, v, out⟩ (p, l) ⟨leaf', v', out'⟩ () → K (.tup []) (updH (updH H 47 (some (.row v' ty_Source 2 (out'.map enc)))) id (some (.box b [.v (.int .i64 leaf'), .own 47 v'])))) : s_visitA.pt d [.bptr id b 0, P, L] H K := by
  refine ⟨id, b, ⟨leaf, v, out⟩, (p, l), [P, L], rfl, ?_, h0, ?_, by simpa [fndB] using hid, ⟨n, hpre⟩, fun x' y hq => ?_⟩
  · rw [a2_dec, hP, hL]; rfl
  · intro q hq
    simp at hq
    subst hq
    exact h47
  · exact hK x'.leaf x'.v x'.out hq
theorem sizePs_pos : ∀ (ks : List Pat) (n : Int), (1 ≤ n ∨ ks ≠ [] ∧ 0 ≤ n) → (∀ k ∈ ks, 1 ≤ sizeP k) → 1 ≤ sizePs ks n
  | [], n, h, _ => by rw [sizePs]; rcases h with h | h; exact h; exact absurd rfl h.1
  | k :: ks, n, h, hk => by
    rw [sizePs]
    have := hk k (by simp)
    exact sizePs_pos ks _ (.inl (by rcases h with h | h <;> omega)) fun x hx => hk x (by simp [hx])
theorem sizeP_pos {v : B → Bool} (p : Pat) : patB v p = true → 1 ≤ sizeP p := by
  induction p using pat_ind with | _ p ih => ?_
  intro h
  have hn := (patB_node h).2.2
  unfold numB at hn
  rw [decide_eq_true_eq] at hn
  rw [sizeP_eq, sizeN]
  by_cases h0 : p.kids = []
  · rw [if_pos h0]; omega
  · rw [if_neg h0]
    have := sizePs_pos p.kids 0 (.inr ⟨h0, Int.le_refl _⟩) fun k hk => ih k hk (patB_kid h hk)
    generalize sizePs p.kids 0 = n at this
    split
    · rename_i h6
      have hn := hn h6
      split
      · have := Int.mul_le_mul this (show (1 : Int) ≤ p.mn + 1 by omega) (by omega) (by omega)
        omega
      · split
        · exact this
        · have := Int.mul_le_mul this (show (1 : Int) ≤ p.mx by omega) (by omega) (by omega)
          omega
    · exact this
abbrev s_query_Size : Spc := s_r23_Size
abbrev s_estimate_Fixed : Spc := spc (a1 Pat) P_Fixed (enc (X := List Span)) Q_Fixed
theorem w_estimate_Fixed (h1 : S f_query_Size = s_query_Size) (h2 : S f_estimate_finder_visit = s_visitA) (h3 : S f_slices_SortFunc_Source = s_SortFunc_Source) (h4 : S f_slices_Compact_Source = s_Compact_Source) :
    Walk cc_estimate_Fixed rs_estimate_Fixed S (a1 Pat) P_Fixed (enc (X := List Span)) Q_Fixed := by
  rintro p ⟨hp1, hp2⟩
  simp [cc_estimate_Fixed, rs_estimate_Fixed, h1, -Bool.forall_bool]
  have hno : ¬ (patB validN p = true ∧ sizeP p ≤ 256) → Fin enc (Q_Fixed p) (D.v (Value.slice none 0 0)) fun x => none := fun h => fin_of [] (by simp) (by unfold Q_Fixed; rw [if_neg h])
  rcases hb : patB validN p
  · simp
    exact hno (by rw [hb]; simp)
  have hpos := sizeP_pos p hb
  simp
  refine ⟨fun _ => ⟨fun h => hno (by omega), fun hle => ?_⟩, fun h => by omega⟩
  have hq : ∀ y, SrcsOf p y → Q_Fixed p y := fun y hy => by unfold Q_Fixed; rw [if_pos ⟨hb, hle⟩]; exact hy
  clear hno
  refine vc_midG (X := Nat) [1] [] [] [] (fun _ => True) (fun b => [(4, .bptr 14 b 0)]) (fun b => [(14, .box b [.v (.int .i64 0), .own 47 (.slice none 0 0)]), (47, .row (.slice none 0 0) ty_Source 2 [])]) [14, 47] (fun _ => rfl) (by decide) ?_ ?_
  · simp
    refine fun b => ⟨b, .same _, .inl ?_, by simp [isNilRow]⟩
    simp
    exact .nilown 47
  · rintro b -
    simp [h2]
    refine visitA_use (n := pDep p) (p := p) (l := [0]) (leaf := 0) (v := .slice none 0 0) (out := []) (by decide) ?_ ?_ ?_ ?_ ⟨⟨Nat.le_refl _, hb⟩, Int.le_refl _, by show (0 : Int) + (pNum p : Int) ≤ _; omega, by simp; omega, fun a h => by simp at h; subst h; show 0 ≤ (0 : Int) ∧ (0 : Int) + 200000 * (pNum p : Int) ≤ _; omega⟩ ?_
    · simp
    · simp
    · simp
    · simp
    rintro leaf v out ⟨c1, c2, c3⟩
    simp only at c1 c2 c3
    simp at c2
    simp [h3, h4]
    have hP : P_SortS (.clo f_estimate_compare [], ()) out := ⟨rfl, by omega⟩
    refine ⟨hP, fun r hr => ⟨by have := hr.1; omega, fun v' => fin_of (cptS r) (fz_o ty_Source (by simp)) (hq _ ⟨cptS_ss hr.2.2, fun s => ?_⟩)⟩⟩
    rw [cptS_mem, hr.2.1 s, c3 s]
    simp
end Go.Gv

namespace Go.Gv
set_option linter.unusedSimpArgs false
set_option linter.unusedVariables false
set_option maxRecDepth 100000
open Cod (enc dec)
open Go.Proofs
variable {S S0 : Nat → Spc}
@[simp] abbrev F_word (s : Pst) (z : List B × Int) : Option (Pst × Int) := if s.e = 0 ∧ 0 ≤ z.2 then (nowT s).bind fun t => if t.kind ≠ 110 then some (s, -1) else none else none
abbrev s_word : Spc := psF (a2 (List B) Int) (enc (X := Int)) F_word
theorem w_word (h1 : S f_r23_parser_is = s_is) : WalkPS cc_r23_parser_word rs_r23_parser_word S (a2 (List B) Int) (enc (X := Int)) (fun s z => ∃ r, F_word s z = some r) (fun s z s' y => F_word s z = some (s', y)) := by
  rintro b s ⟨l, i⟩ ⟨r, hr⟩
  have hr0 := hr
  simp only [F_word] at hr
  split at hr
  · rename_i he
    obtain ⟨he, hi0⟩ := he
    have hi0 : 0 ≤ i := hi0
    obtain ⟨t, ht, hr⟩ := Option.bind_eq_some_iff.1 hr
    split at hr
    · rename_i hk
      cases hr
      simp [cc_r23_parser_word, rs_r23_parser_word]
      refine vc_while (X := Int) [0, 1] [0] (fun j => 0 ≤ j) (fun j => [(7, enc j)]) (fun _ => []) (fun j => (l.length - j).toNat) i hi0 (by simp) (by simp) ?_
      intro j hj
      have hj : 0 ≤ j := hj
      have hno : ∀ x : B, isF s 110 x = some false := fun x => by rw [kind_eq he ht, decide_eq_false]; exact fun h => hk h.1
      simp [h1, hno]
      exact fun _ => ⟨fun hl => ⟨hj, hl, fun a _ => ⟨by simp only [InR]; omega, j + 1, by omega, rfl, by omega⟩⟩, fun _ => finI s (by simp) ⟨⟨he, hi0⟩, by rw [ht]; simp [hk]⟩⟩
    · cases hr
  · cases hr
abbrev s_strs4 : Spc := spc a0 (fun _ => True) (enc (X := List B)) fun _ _ => True
theorem w_filters : Walk cc_r23_filters rs_r23_filters S a0 (fun _ => True) (enc (X := List B)) fun _ _ => True := by
  rintro x -
  simp [cc_r23_filters, rs_r23_filters]
  exact fin_of (Y := List B) [⟨#[]⟩, ⟨#[119, 105, 116, 104, 105, 110]⟩, ⟨#[99, 111, 110, 116, 97, 105, 110, 105, 110, 103]⟩, ⟨#[111, 118, 101, 114, 108, 97, 112, 112, 105, 110, 103]⟩] (.same _) trivial
def Q_Parse (s : B) (y : Qry × Int × Int) : Prop := ∃ p, parseF s = some p ∧ y = (⟨p, Glob0, [], 0⟩, 0, 0)
abbrev s_Parse : Spc := spc (a1 B) (fun s => ∃ p, parseF s = some p) (er3 (Y := Qry) (Z := Int) (W := Int)) Q_Parse
theorem frz_agg {H : HMap} {l l' : List D} (h : FzL H l l') : FrzTo H (.agg l) (.agg l') := .agg h.get.1 h.get.2
theorem w_Parse (h1 : S f_r23_scan = s_scan) (h2 : S f_r23_parser_alt = s_alt 10) (h3 : S f_r23_parser_eat = s_eat) (h4 : S f_r23_filters = s_strs4) (h5 : S f_r23_parser_word = s_word) (h6 : S f_r23_parser_is = s_is) (h7 : S f_r23_parser_now = s_now) :
    Walk cc_r23_Parse rs_r23_Parse S (a1 B) (fun s => ∃ p, parseF s = some p) (er3 (Y := Qry) (Z := Int) (W := Int)) Q_Parse := by
  rintro s ⟨p, hp⟩
  have hp0 := hp
  unfold parseF at hp
  split at hp
  · rename_i hsz
    obtain ⟨l, hl, hp⟩ := Option.bind_eq_some_iff.1 hp
    obtain ⟨⟨s1, p1⟩, ha, hp⟩ := Option.bind_eq_some_iff.1 hp
    simp only at hp
    split at hp
    · cases hp
    rename_i he
    have he : s1.e = 0 := by simpa using he
    obtain ⟨t, ht, hp⟩ := Option.bind_eq_some_iff.1 hp
    split at hp
    · rename_i hk
      cases hp
      have hex : ∃ y, scanF s = some y := ⟨l, hl⟩
      have n1 : eatF s1 ⟨#[58, 58]⟩ = some (s1, false) := eat_no he ht (by omega)
      have n2 : eatF s1 ⟨#[33]⟩ = some (s1, false) := eat_no he ht (by omega)
      have n3 : isF s1 110 ⟨#[115, 116, 114, 97, 116, 101, 103, 121]⟩ = some false := by rw [kind_eq he ht, decide_eq_false]; omega
      have hsz' : ¬ (400 : Int) < s.size := by omega
      simp [cc_r23_Parse, rs_r23_Parse, h1, hsz', hex, -Bool.forall_bool]
      intro b2 _ l' hl' b16
      rw [hl] at hl'
      cases hl'
      simp [h2, ha, h3, n1]
      intro b6
      refine vc_mid (X := Unit) [2, 5, 6] [2, 6, 16] (fun _ => True) (fun _ => []) (fun _ => []) ?_ ?_
      · simp
        refine vc_while (X := Unit) [2, 5, 6] [2, 6, 16] (fun _ => True) (fun _ => []) (fun _ => []) (fun _ => 0) () trivial (by simp) (by simp) ?_
        rintro - -
        simp [h3, h4, h5, he, eta0 he, n2, ht, hk]
      rintro - -
      refine vc_mid (X := Unit) [2, 5, 6] [2, 6, 16] (fun _ => True) (fun _ => []) (fun _ => []) ?_ ?_
      · simp [h6, n3]
      rintro - -
      refine vc_mid (X := Unit) [2, 5, 6] [2, 6, 16] (fun _ => True) (fun _ => []) (fun _ => []) ?_ ?_
      · simp [h7, he, eta0 he, ht, hk]
      rintro - -
      simp [he]
      refine ⟨⟨p, Glob0, [], 0⟩, frz_agg ?_, p, hp0, rfl⟩
      simp [Glob0, E0]
    · cases hp
  · cases hp
theorem known_parse : parseF knownText = some knownPat := by kernel_rfl
theorem known_src : srcL knownPat 0 0 = [⟨0, 0⟩, ⟨1, 1⟩, ⟨0, 2⟩, ⟨1, 3⟩, ⟨2, 4⟩] := by kernel_rfl
theorem known_size : sizeP knownPat = 5 := by kernel_rfl
theorem known_num : pNum knownPat = 6 ∧ cntP knownPat = 5 := ⟨by kernel_rfl, by kernel_rfl⟩
theorem node_tok (b : B) : nodeB (tokQ b) = true := (nodeB_iff _).2 (.inl ⟨rfl, rfl, rfl, rfl, rfl⟩)
theorem known_pat : patB validN knownPat = true := by
  have n1 : nodeB knownPat = true := (nodeB_iff _).2 (.inr (.inr (.inl ⟨.inl rfl, rfl, rfl, rfl, rfl, rfl, by decide⟩)))
  have n2 : ∀ a, nodeB ⟨6, Cond0, E0, E0, 2, 2, [a]⟩ = true := fun a => (nodeB_iff _).2 (.inr (.inr (.inr ⟨rfl, rfl, rfl, rfl, rfl⟩)))
  have n3 : ∀ a b, nodeB ⟨4, Cond0, E0, E0, 0, 0, [a, b]⟩ = true := fun a b => (nodeB_iff _).2 (.inr (.inr (.inl ⟨.inl rfl, rfl, rfl, rfl, rfl, rfl, Nat.le_refl _⟩)))
  have v : ∀ p : Pat, (p.op ≠ 2 ∧ p.op ≠ 3) ∧ p.lab = ⟨#[]⟩ → nameB validN p = true := fun p h => by
    unfold nameB
    rw [decide_eq_true_eq]
    exact ⟨fun h' => by omega, fun h' => absurd h.2 h'⟩
  have tk : ∀ b, everyB nodeB (tokQ b) = true ∧ everyB (nameB validN) (tokQ b) = true := fun b => ⟨by rw [everyB_eq, node_tok]; rfl, by rw [everyB_eq, v _ ⟨⟨by show (1 : Int) ≠ 2; decide, by show (1 : Int) ≠ 3; decide⟩, rfl⟩]; rfl⟩
  have e1 : everyB nodeB knownPat = true := by
    rw [everyB_eq, n1]
    simp only [knownPat, List.all_cons, List.all_nil, Bool.and_true, Bool.true_and, everyB_eq (f := nodeB) (p := ⟨6, _, _, _, _, _, _⟩), everyB_eq (f := nodeB) (p := ⟨4, _, _, _, _, _, _⟩), n2, n3, (tk _).1]
  have e2 : everyB (nameB validN) knownPat = true := by
    have v6 : ∀ a, nameB validN ⟨6, Cond0, E0, E0, 2, 2, a⟩ = true := fun a => v _ ⟨⟨by show (6 : Int) ≠ 2; decide, by show (6 : Int) ≠ 3; decide⟩, rfl⟩
    have v4 : ∀ a, nameB validN ⟨4, Cond0, E0, E0, 0, 0, a⟩ = true := fun a => v _ ⟨⟨by show (4 : Int) ≠ 2; decide, by show (4 : Int) ≠ 3; decide⟩, rfl⟩
    rw [everyB_eq, v _ ⟨⟨by show (4 : Int) ≠ 2; decide, by show (4 : Int) ≠ 3; decide⟩, rfl⟩]
    simp only [knownPat, List.all_cons, List.all_nil, Bool.and_true, Bool.true_and, everyB_eq (f := nameB validN) (p := ⟨6, _, _, _, _, _, _⟩), everyB_eq (f := nameB validN) (p := ⟨4, _, _, _, _, _, _⟩), v6, v4, (tk _).2]
  unfold patB
  rw [e1, e2]
  have e3 : everyB numB knownPat = true := by kernel_rfl
  have e4 : shallowB knownPat 1 = true := by kernel_rfl
  rw [e3, e4]
  rfl
theorem known_srcs {y : List Span} (h : Q_Fixed knownPat y) : y = [⟨0, 0⟩, ⟨0, 2⟩, ⟨1, 1⟩, ⟨1, 3⟩, ⟨2, 4⟩] := by
  unfold Q_Fixed at h
  rw [if_pos ⟨known_pat, by rw [known_size]; omega⟩] at h
  refine h.eq (srcsOf_of (by simp [SS, ltS]) fun s => ?_)
  rw [known_src]
  simp only [List.mem_cons, List.not_mem_nil, or_false]
  constructor
  · rintro (h | h | h | h | h) <;> simp [h]
  · rintro (h | h | h | h | h) <;> simp [h]
abbrev s_law31_known : Spc := spc a0 (fun _ => True) enc (fun (_ : Unit) (y : Bool) => y = true)
theorem w_law31_known (h1 : S f_r23_Parse = s_Parse) (h2 : S f_estimate_Fixed = s_estimate_Fixed) (h3 : S f_r31_Same = s_r31_Same) : Walk cc_law31_known rs_law31_known S a0 (fun _ => True) enc (fun (_ : Unit) (y : Bool) => y = true) := by
  rintro x -
  have hex : ∃ p, parseF ⟨#[40, 34, 97, 34, 32, 34, 98, 34, 41, 123, 50, 125, 32, 34, 99, 34]⟩ = some p := ⟨_, known_parse⟩
  simp [cc_law31_known, rs_law31_known, h1, hex]
  rintro q a b ⟨p, hp, e⟩ b1
  cases e
  have e : p = knownPat := Option.some.inj (hp.symm.trans known_parse)
  subst e
  have hP : P_Fixed knownPat := ⟨by rw [known_num.1]; omega, by rw [known_num.2]; omega⟩
  simp [h2, h3, hP]
  intro y hy
  rw [known_srcs hy]
end Go.Gv

namespace Go.Gv
set_option linter.unusedSimpArgs false
set_option linter.unusedVariables false
set_option maxRecDepth 100000
open Cod (enc dec)
variable {S S0 : Nat → Spc}
def P_rep (n : Nat) (x : Cond × List B) : Prop := 0 < n ∧ CS (n - 1) x.1
def Q_rep (x : Cond × List B) (y : Cond) : Prop := x.1 = Cond0 → y = Cond0
abbrev s_m_replace (n : Nat) : Spc := spc (a2 Cond (List B)) (P_rep n) (enc (X := Cond)) Q_rep
theorem w_m_replace (n : Nat) (h1 : S f_m_replace = s_m_replace n) : Walk cc_m_replace rs_m_replace S (a2 Cond (List B)) (P_rep (n + 1)) (enc (X := Cond)) Q_rep := by
  rintro ⟨c, lb⟩ ⟨_, hc⟩
  simp only at hc
  have hc : CS n c := hc
  simp [cc_m_replace, rs_m_replace]
  intro b2 b4
  refine ⟨fun ho _ => ?_, fun ho hl => ?_⟩
  · refine vc_range (X := Unit) [2, 4, 13] [2, 4] lb.length (fun _ _ => True) (fun _ => []) (fun _ => []) () (by simp) (by simp) (by omega) (by simp) (by simp) trivial (by simp) (by simp) ?_ ?_
    · rintro k - hk -
      obtain ⟨x, hx⟩ := at_lt hk
      obtain ⟨_, hgx⟩ := List.getElem?_eq_some_iff.1 hx
      simp [hk, hx, hgx]
      exact fun _ => fin_cond c.kids (.same _) fun h => (eta_Cond c).trans h
    · rintro - -
      simp
      exact fin_cond [] (.nil _) fun h => by rw [show c = Cond0 from h] at ho; exact absurd ho (by show ¬ (0 : Int) = 4; decide)
  · refine vc_range (X := Value × List Cond) [1, 2, 4, 29] [2, 4] c.kids.length (fun k x => x.2.length = k) (fun x => [(7, .own 40 x.1)]) (fun x => [(40, .row x.1 ty_Cond 7 (x.2.map enc))]) (.slice none 0 0, []) (by simp) (by simp) (by omega) (by simp) (by simp) rfl (by simp) (by simp [isNilRow]) ?_ ?_
    · rintro k ⟨v, ks⟩ hk hkl
      simp only at hkl
      obtain ⟨x, hx⟩ := at_lt hk
      obtain ⟨_, hgx⟩ := List.getElem?_eq_some_iff.1 hx
      obtain ⟨m, hm, hx1⟩ := cs_kid hc (mem_at hx)
      have hp : P_rep n (x, lb) := ⟨by omega, by rw [hm]; exact hx1⟩
      simp [hk, hx, hgx, h1, hp]
      have := cs_len hc
      exact fun y _ => ⟨by omega, by omega, fun v => ⟨v, ks ++ [y], by simp; omega, rfl, .inl ⟨rfl, by simp⟩⟩⟩
    · rintro ⟨v, ks⟩ hkl
      simp only at hkl
      simp
      refine fin_cond ks (fz_o ty_Cond (by simp)) fun h => ?_
      have e : c = Cond0 := h
      subst e
      have : ks = [] := List.eq_nil_of_length_eq_zero hkl
      rw [this]
      rfl
abbrev s_m_replaceA : Spc := spc (a2 Cond (List B)) (fun x => ∃ n, CS n x.1) (enc (X := Cond)) Q_rep
def P_bind (n : Nat) (x : Pat × List B) : Prop := 0 < n ∧ PD (n - 1) x.1
def Q_bind (x : Pat × List B) (y : Pat) : Prop := Keeps x.1 y
abbrev s_m_bind (n : Nat) : Spc := spc (a2 Pat (List B)) (P_bind n) (enc (X := Pat)) Q_bind
theorem w_m_bind (n : Nat) (h1 : S f_m_replace = s_m_replaceA) (h2 : S f_m_bind = s_m_bind n) : Walk cc_m_bind rs_m_bind S (a2 Pat (List B)) (P_bind (n + 1)) (enc (X := Pat)) Q_bind := by
  rintro ⟨p, lb⟩ ⟨_, hp⟩
  simp only at hp
  have hp : PD n p := hp
  have hcd := pd_cond hp
  have hpl := pd_len hp
  simp [cc_m_bind, rs_m_bind, h1]
  intro b2 b4
  refine ⟨hcd, fun c hc _ => ?_⟩
  refine vc_range (X := Value × List Pat) [1, 2, 4, 14] [2, 4] p.kids.length (fun k x => x.2.length = k ∧ ∀ (i : Nat) (a b : Pat), p.kids[i]? = some a → x.2[i]? = some b → Keeps a b) (fun x => [(5, .own 25 x.1)]) (fun x => [(25, .row x.1 ty_Pattern 13 (x.2.map enc))]) (.slice none 0 0, []) (by simp) (by simp) (by omega) (by simp) (by simp) (by simp) (by simp) (by simp [isNilRow]) ?_ ?_
  · rintro k ⟨v, ks⟩ hk ⟨hkl, hkk⟩
    simp only at hkl hkk
    obtain ⟨x, hx⟩ := at_lt hk
    obtain ⟨_, hgx⟩ := List.getElem?_eq_some_iff.1 hx
    obtain ⟨m, hm, hx1⟩ := pd_kid hp (mem_at hx)
    have hq : P_bind n (x, lb) := ⟨by omega, by rw [hm]; exact hx1⟩
    simp [hk, hx, hgx, h2, hq]
    refine fun y hy => ⟨by omega, by omega, fun v => ⟨v, ks ++ [y], ⟨by simp; omega, fun i a b ha hb => ?_⟩, rfl, .inl ⟨rfl, by simp⟩⟩⟩
    by_cases hi : i < ks.length
    · rw [List.getElem?_append_left hi] at hb
      exact hkk i a b ha hb
    · have hi2 : i = k := by
        have := (List.getElem?_eq_some_iff.1 hb).1
        simp at this
        omega
      subst hi2
      rw [List.getElem?_append_right (by omega), hkl, Nat.sub_self] at hb
      cases hb
      rw [hx] at ha
      cases ha
      exact hy
  · rintro ⟨v, ks⟩ ⟨hkl, hkk⟩
    simp only at hkl hkk
    simp
    exact fin_pat c.kids ks (.same _) (fz_o ty_Pattern (by simp)) (keeps_of rfl rfl rfl rfl rfl (fun h => (eta_Cond c).trans (hc h)) hkl hkk)
abbrev s_m_bindA : Spc := spc (a2 Pat (List B)) (fun x => ∃ n, PD n x.1) (enc (X := Pat)) Q_bind
abbrev s_m_PatternA : Spc := spc (aT (a2 Int (List B))) (fun x => -10 ≤ x.2.1 ∧ x.2.1 ≤ 100 ∧ x.2.2.length ≤ 1000) (enc (X := Pat)) Q_pat
def PBn (x : Pat) (l : List B) : Prop := l.length + pNum x ≤ 1000000
def QBn (x : Pat) (l r : List B) : Prop := r.length ≤ l.length + pNum x
abbrev i_Bound (n : Nat) : Spc := i2C (X := Pat) (Y := B) (fun x l => pDep x ≤ n ∧ PBn x l) QBn ty_string 1
abbrev i_BoundA : Spc := i2C (X := Pat) (Y := B) PBn QBn ty_string 1
theorem w_m_BoundI (n : Nat) (h1 : S f_m_Bound = i_Bound n) : WalkI2 (X := Pat) (Y := B) cc_m_Bound rs_m_Bound S (fun x l => pDep x ≤ n + 1 ∧ PBn x l) QBn ty_string 1 := by
  rintro v lb p ⟨hd, hl⟩
  have hk : ∀ k ∈ p.kids, pDep k ≤ n := fun k h => by have := pDep_kid h; have : pDep p ≤ n + 1 := hd; omega
  have hl : lb.length + pNum p ≤ 1000000 := hl
  have hpn := pNum_eq p
  simp [cc_m_Bound, rs_m_Bound]
  refine vc_mid (X := Unit) [1, 2] [1] (fun _ => True) (fun _ => []) (fun _ => []) ?_ ?_
  · simp
    intro _ _ _
    refine vc_range (X := Unit) [1, 2, 17] [1] lb.length (fun _ _ => True) (fun _ => []) (fun _ => []) () (by simp) (by simp) (by omega) (by simp) (by simp) trivial (by simp) (by simp) ?_ ?_
    · rintro k - hkk -
      obtain ⟨x, hx⟩ := at_lt hkk
      obtain ⟨_, hgx⟩ := List.getElem?_eq_some_iff.1 hx
      simp [hkk, hx, hgx]
      exact fun _ => finF_of lb (by simp) (by show lb.length ≤ lb.length + pNum p; omega)
    · rintro - -
      simp
      refine ⟨by omega, by omega, fun v => finF_of (lb ++ [p.lab]) (by simp) (by show (lb ++ [p.lab]).length ≤ lb.length + pNum p; simp; omega)⟩
  · rintro - -
    simp
    intro hkl
    refine vc_range (X := Value × List B) [35] [] p.kids.length (fun k x => x.2.length + pNums (p.kids.drop k) ≤ lb.length + pNums p.kids) (fun x => [(1, .own 1 x.1)]) (fun x => [(1, .row x.1 ty_string 1 (x.2.map enc))]) (v, lb) (by simp) (by simp) (by omega) (by simp) (by simp) (by simp) (by simp) (by simp) ?_ ?_
    · rintro k ⟨v, ls⟩ hkk hls
      simp only at hls
      obtain ⟨x, hx⟩ := at_lt hkk
      obtain ⟨_, hgx⟩ := List.getElem?_eq_some_iff.1 hx
      rw [drop_cons_of hx, pNums] at hls
      have hq : PBn x ls := by show ls.length + pNum x ≤ _; omega
      have hq2 := hk x (mem_at hx)
      simp [hkk, hx, hgx, h1, hq, hq2]
      exact fun v' l' hy => ⟨v', l', by have : l'.length ≤ ls.length + pNum x := hy
                                        omega, rfl, .inl ⟨rfl, rfl⟩⟩
    · rintro ⟨v, ls⟩ hls
      simp at hls
      simp
      exact finF_of ls (by simp) (by show ls.length ≤ lb.length + pNum p; rw [pNums] at hls; omega)
abbrev f_Bound : Spc := frC (Y := B) (aE Pat (aD a0)) (fun x => x.2.1 = .v (.slice none 0 0) ∧ PBn x.1 []) (fun x r => QBn x.1 [] r) ty_string 1
theorem w_m_BoundF (h1 : S f_m_Bound = i_BoundA) : WalkF (Y := B) cc_m_Bound rs_m_Bound S (aE Pat (aD a0)) (fun x => x.2.1 = .v (.slice none 0 0) ∧ PBn x.1 []) (fun x r => QBn x.1 [] r) ty_string 1 := by
  rintro ⟨p, d, ⟨⟩⟩ ⟨hd, hl⟩
  have hd : d = .v (.slice none 0 0) := hd
  subst hd
  have hl : 0 + pNum p ≤ 1000000 := hl
  have hpn := pNum_eq p
  simp [cc_m_Bound, rs_m_Bound]
  refine vc_mid (X := Unit) [1, 2] [] (fun _ => True) (fun _ => []) (fun _ => []) ?_ ?_
  · simp
    intro _ _
    refine vc_range (X := Unit) [1, 2] [] 0 (fun _ _ => True) (fun _ => []) (fun _ => []) () (by simp) (by simp) (by omega) (by simp) (by simp) trivial (by simp) (by simp) ?_ ?_
    · rintro k - hkk -
      exact absurd hkk (Nat.not_lt_zero _)
    · rintro - -
      simp
      exact fun v => finF_of [p.lab] (by simp) (by show 1 ≤ 0 + pNum p; omega)
  · rintro - -
    simp
    intro hkl
    refine vc_range (X := Value × List B) [35] [] p.kids.length (fun k x => x.2.length + pNums (p.kids.drop k) ≤ pNums p.kids) (fun x => [(1, .own 1 x.1)]) (fun x => [(1, .row x.1 ty_string 1 (x.2.map enc))]) (.slice none 0 0, []) (by simp) (by simp) (by omega) (by simp) (by simp) (by simp) (by simp) (by simp [isNilRow]) ?_ ?_
    · rintro k ⟨v, ls⟩ hkk hls
      simp only at hls
      obtain ⟨x, hx⟩ := at_lt hkk
      obtain ⟨_, hgx⟩ := List.getElem?_eq_some_iff.1 hx
      rw [drop_cons_of hx, pNums] at hls
      have hq : PBn x ls := by show ls.length + pNum x ≤ _; omega
      simp [hkk, hx, hgx, h1, hq]
      exact fun v' l' hy => ⟨v', l', by have : l'.length ≤ ls.length + pNum x := hy
                                        omega, rfl, .inl ⟨rfl, rfl⟩⟩
    · rintro ⟨v, ls⟩ hls
      simp at hls
      simp
      exact finF_of ls (by simp) (by show ls.length ≤ 0 + pNum p; rw [pNums] at hls; omega)
abbrev s_Bound : Spc := orC f_Bound i_BoundA
def totG (_ : List Int × Int × List B) (_ : Glob) : Prop := True
def P_gen' (n : Nat) (x : List Int × Int × List B) : Prop := x.2.1.toNat < n ∧ -10 ≤ x.2.1 ∧ x.2.1 ≤ 100 ∧ 1 ≤ x.2.2.length ∧ x.2.2.length ≤ 1000000
theorem fin_glob {q : Glob → Prop} {H : HMap} {op mn mx : Int} {a b n g v : B} {f : Bool} {d e : D} (ar : List B) (ks : List Glob) (hd : FrzTo H d (enc ar)) (he : FrzTo H e (enc ks)) (hq : q ⟨op, a, b, n, g, v, f, mn, mx, ar, ks⟩) :
    Fin enc q (.agg [.v (.int .i64 op), .v (.string a), .v (.string b), .v (.string n), .v (.string g), .v (.string v), .v (.bool f), .v (.int .i64 mn), .v (.int .i64 mx), d, e]) H := by
  refine fin_of (⟨op, a, b, n, g, v, f, mn, mx, ar, ks⟩ : Glob) ?_ hq
  rw [enc_Glob]
  refine .agg rfl fun k x y hx hy => ?_
  rcases k with _ | _ | _ | _ | _ | _ | _ | _ | _ | _ | _ | k
  · cases hx; cases hy; exact .same _
  · cases hx; cases hy; exact .same _
  · cases hx; cases hy; exact .same _
  · cases hx; cases hy; exact .same _
  · cases hx; cases hy; exact .same _
  · cases hx; cases hy; exact .same _
  · cases hx; cases hy; exact .same _
  · cases hx; cases hy; exact .same _
  · cases hx; cases hy; exact .same _
  · cases hx; cases hy; exact hd
  · cases hx; cases hy; exact he
  · simp at hx
abbrev s_m_Constraint (n : Nat) : Spc := spc (aT (a2 Int (List B))) (P_gen' n) (enc (X := Glob)) totG
theorem w_m_Constraint (n : Nat) (h1 : S f_m_Tape_Next = s_m_Next) (h2 : S f_m_Type = s_m_TypeN) (h3 : S f_m_Tape_Constraint = s_m_Constraint n) : Walk cc_m_Tape_Constraint rs_m_Tape_Constraint S (aT (a2 Int (List B))) (P_gen' (n + 1)) (enc (X := Glob)) totG := by
  rintro ⟨L, deep, lb⟩ ⟨hn, hd0, hd1, hlb0, hlb⟩
  simp only at hn hd0 hd1 hlb0 hlb
  simp [cc_m_Tape_Constraint, rs_m_Tape_Constraint, h1]
  intro b6 k0 hk0 hk1
  refine vc_mid (X := Int) [0, 1, 2, 6] [6] (fun k => 0 ≤ k ∧ k < 13 ∧ (deep < 1 → k < 10)) (fun k => [(7, enc k)]) (fun _ => []) ?_ ?_
  · simp
    have : k0.tmod 10 = k0 % 10 := Int.tmod_eq_emod_of_nonneg hk0
    rw [this]
    omega
  rintro k ⟨q0, q1, q2⟩
  simp [h1]
  refine fun _ => ⟨by omega, fun i hi => ⟨by omega, by omega, fun a ha _ => ⟨by omega, fun j hj => ⟨by omega, by omega, fun c hc => ?_⟩⟩⟩⟩
  refine vc_mid (X := Unit) [0, 1, 2, 6, 7] [6] (fun _ => 11 ≤ k) (fun _ => []) (fun _ => []) ?_ ?_
  · have hrec : 1 ≤ deep → P_gen' n (L, deep - 1, lb) := fun h => ⟨by show (deep - 1).toNat < n; omega, by show -10 ≤ deep - 1; omega, by show deep - 1 ≤ 100; omega, hlb0, hlb⟩
    simp [h1, h2, h3, strs2, strs3, strs_len, strs_at, -Bool.forall_bool]
    refine ⟨fun _ => fin_glob [] [] (.nil _) (.nil _) trivial, fun _ => ⟨fun _ y y0 y1 => ⟨y0, y1, fun _ _ z _ _ => fin_glob [] [] (.nil _) (.nil _) trivial⟩, fun _ => ⟨fun _ y y0 y1 => ⟨y0, y1, fun _ _ => fin_glob [] [] (.nil _) (.nil _) trivial⟩, fun _ => ⟨fun _ y y0 y1 => ⟨by simp only [InR]; omega, fun z z0 z1 => ⟨by simp only [InR]; omega, fin_glob [] [] (.nil _) (.nil _) trivial⟩⟩, fun _ => ⟨fun _ y y0 y1 => ⟨trivial, fun t ht => fin_glob [] [] (.nil _) (.nil _) trivial⟩, fun _ => ⟨fun _ => fin_glob [] [] (.nil _) (.nil _) trivial, fun _ => ⟨fun _ => fin_glob [] [] (.nil _) (.nil _) trivial, fun _ => ⟨fun _ b11 y y0 y1 => ?_, fun _ => ⟨fun _ y y0 y1 => ⟨y0, y1, fun _ _ => fin_glob [] [] (.nil _) (.nil _) trivial⟩, fun _ => ⟨fun _ y y0 y1 z z0 z1 => ⟨by simp only [InR]; omega, fin_glob [] [] (.nil _) (.nil _) trivial⟩, fun _ => ⟨fun hk10 => ⟨by simp only [InR]; omega, hrec (by omega), fun g => ?_⟩, fun _ => by omega⟩⟩⟩⟩⟩⟩⟩⟩⟩⟩⟩
    · refine vc_whileG (X := Int × Value × List B) [0, 6, 11] [6] [] [] [] [] (fun x => 0 ≤ x.1 ∧ x.1 + x.2.2.length ≤ 3) (fun x => [(12, enc x.1)]) (fun x => [(11, .box b11 [.v (.int .i64 8), .v (.string a), .v (.string c), .v (.string ⟨#[]⟩), .v (.string ⟨#[]⟩), .v (.string ⟨#[]⟩), .v (.bool false), .v (.int .i64 0), .v (.int .i64 0), .own 111 x.2.1, .v (.slice none 0 0)]), (111, .row x.2.1 ty_string 1 (x.2.2.map enc))]) (fun x => x.1.toNat) (y, .slice none 0 0, []) [11, 111] (fun _ => rfl) (by decide) (by decide) ?_ ?_ ?_ ?_
      · exact ⟨y0, by simp; omega⟩
      · simp
      · simp [isNilRow]
        exact .nilown 111
      · rintro ⟨i, v, l⟩ ⟨e1, e2⟩
        simp only at e1 e2
        simp [h1, strs3, strs_len, strs_at]
        exact ⟨fun hi z z0 z1 => ⟨z0, z1, fun w _ => ⟨by omega, by omega, fun v => ⟨by simp only [InR]; omega, i - 1, v, l ++ [w], ⟨by omega, by simp; omega⟩, ⟨rfl, .inl (.inl rfl), .inl (.inl (by simp))⟩, by omega⟩⟩⟩, fun hi => fin_glob l [] (fz_o ty_string (by simp)) (.nil _) trivial⟩
    · exact fun _ => fin_glob [] [g] (.nil _) (by simp) trivial
  · rintro - hk
    have hrec : P_gen' n (L, deep - 1, lb) := ⟨by show (deep - 1).toNat < n; omega, by show -10 ≤ deep - 1; omega, by show deep - 1 ≤ 100; omega, hlb0, hlb⟩
    simp [h3, hrec]
    exact ⟨by simp only [InR]; omega, by simp only [InR]; omega, by simp only [InR]; omega, fun y _ => ⟨by simp only [InR]; omega, fun z _ => fin_glob [] [y, z] (.nil _) (by simp) trivial⟩⟩
abbrev s_m_ConstraintA : Spc := spc (aT (a2 Int (List B))) (fun x => ∃ n, P_gen' n x) (enc (X := Glob)) totG
abbrev s_m_Filter : Spc := spc (aT a0) anyX (enc (X := Filt)) (fun _ _ => True)
theorem w_m_Filter (h1 : S f_m_Tape_Next = s_m_Next) (h2 : S f_m_Type = s_m_TypeN) : Walk cc_m_Tape_Filter rs_m_Tape_Filter S (aT a0) anyX (enc (X := Filt)) (fun _ _ => True) := by
  rintro ⟨L, ⟨⟩⟩ -
  simp [cc_m_Tape_Filter, rs_m_Tape_Filter, h1, h2]
  refine fun b y y0 y1 => ⟨by simp only [InR]; omega, fun z z0 z1 u u0 u1 => ⟨trivial, fun t _ => ?_⟩⟩
  exact fin_of (⟨1 + y, decide (z = 2), t⟩ : Filt) (by simp) trivial
def Q_query (x : List Int × Int) (q : Qry) : Prop := ∃ lb, LabOk lb ∧ WP lb x.2.toNat q.pat
abbrev s_m_Query : Spc := spc (aT (a1 Int)) (fun x => 0 ≤ x.2 ∧ x.2 ≤ 5) (enc (X := Qry)) Q_query
theorem w_m_Query (h1 : S f_m_Tape_Next = s_m_Next) (h2 : S f_m_Tape_Pattern = s_m_PatternA) (h3 : S f_m_Bound = s_Bound) (h4 : S f_m_bind = s_m_bindA) (h5 : S f_m_Tape_Constraint = s_m_ConstraintA) (h6 : S f_m_Tape_Filter = s_m_Filter) :
    Walk cc_m_Tape_Query rs_m_Tape_Query S (aT (a1 Int)) (fun x => 0 ≤ x.2 ∧ x.2 ≤ 5) (enc (X := Qry)) Q_query := by
  rintro ⟨L, deep⟩ ⟨hd0, hd1⟩
  simp only at hd0 hd1
  simp [cc_m_Tape_Query, rs_m_Tape_Query, h1]
  intro b4
  refine vc_mid (X := List B) [0, 1, 4] [4] (fun l => LabOk l ∧ l.length ≤ 2) (fun l => [(5, enc l)]) (fun _ => []) ?_ ?_
  · simp [h1]
    exact fun _ _ _ => ⟨fun _ => ⟨[b_x, b_y], ⟨fun l hl => by simpa using hl, by simp⟩, by simp [b_x, b_y]⟩, fun _ l hl => by simp at hl⟩
  rintro lb ⟨hlb, hll⟩
  simp [h1, h2]
  refine ⟨⟨by omega, by omega, by omega⟩, fun y hy b => ?_⟩
  have hw : WP lb deep.toNat y := hy.1
  have hpd : PD deep.toNat y := hy.2
  have hnum : pNum y ≤ 1000000 := by
    have := (wp_size _ y hw (by omega)).2.2
    have h2 : 2 ^ (deep.toNat + 1) ≤ 64 := Nat.pow_le_pow_right (n := 2) (by omega) (show deep.toNat + 1 ≤ 6 by omega)
    omega
  have hB : PBn y [] := by show 0 + pNum y ≤ _; omega
  have hbd : ∃ n, PD n y := ⟨_, hpd⟩
  simp [h3, hB]
  refine .inl fun l hl => ?_
  have hl : l.length ≤ 0 + pNum y := hl
  simp [h4, hbd]
  intro p hp z z0 z1 b7
  have hp : Keeps y p := hp
  have hq : ∀ g fs s, Q_query (L, deep) ⟨p, g, fs, s⟩ := fun g fs s => ⟨lb, hlb, hp _ _ hw⟩
  refine vc_midG (X := Glob) [0, 4] [4] [] [] (fun _ => True) (fun _ => [(7, .bptr 7 b7 0)]) (fun g => [(7, .box b7 [.v (.int .i64 p.op), .v (.int .i64 p.cond.op), .v (.string p.cond.name), .v (.string p.cond.arg), .v (.string p.cond.val), .v (.string p.cond.lab), .v (.bool p.cond.fold), enc p.cond.kids, .v (.string p.lab), .v (.string p.reg), .v (.int .i64 p.mn), .v (.int .i64 p.mx), enc p.kids, .v (.int .i64 g.op), .v (.string g.a), .v (.string g.b), .v (.string g.name), .v (.string g.arg), .v (.string g.val), .v (.bool g.fold), .v (.int .i64 g.mn), .v (.int .i64 g.mx), enc g.args, enc g.kids, .v (.slice none 0 0), .v (.int .i64 z)])]) [7] (fun _ => rfl) (by decide) ?_ ?_
  · simp [h1, h5, -Bool.forall_bool]
    refine fun _ => ⟨fun hl0 u u0 u1 => ⟨fun _ => ⟨⟨3, by show (2 : Int).toNat < 3; decide, by show -10 ≤ (2 : Int); decide, by show (2 : Int) ≤ 100; decide, hl0, by show l.length ≤ 1000000; omega⟩, fun g _ => ⟨g, .inl (.inl ⟨rfl, rfl, rfl, rfl, rfl, rfl, rfl, rfl, rfl, rfl, rfl⟩)⟩⟩, fun _ => ⟨⟨0, ⟨#[]⟩, ⟨#[]⟩, ⟨#[]⟩, ⟨#[]⟩, ⟨#[]⟩, false, 0, 0, [], []⟩, .inl ⟨rfl, rfl, rfl, rfl, rfl, rfl, rfl, rfl, rfl, rfl, rfl⟩⟩⟩, fun _ => ⟨⟨0, ⟨#[]⟩, ⟨#[]⟩, ⟨#[]⟩, ⟨#[]⟩, ⟨#[]⟩, false, 0, 0, [], []⟩, .inl ⟨rfl, rfl, rfl, rfl, rfl, rfl, rfl, rfl, rfl, rfl, rfl⟩⟩⟩
  rintro g -
  refine vc_midG (X := List Filt) [4] [4] [49] [] (fun _ => True) (fun _ => [(7, .bptr 7 b7 0)]) (fun fs => [(7, .box b7 [.v (.int .i64 p.op), .v (.int .i64 p.cond.op), .v (.string p.cond.name), .v (.string p.cond.arg), .v (.string p.cond.val), .v (.string p.cond.lab), .v (.bool p.cond.fold), enc p.cond.kids, .v (.string p.lab), .v (.string p.reg), .v (.int .i64 p.mn), .v (.int .i64 p.mx), enc p.kids, .v (.int .i64 g.op), .v (.string g.a), .v (.string g.b), .v (.string g.name), .v (.string g.arg), .v (.string g.val), .v (.bool g.fold), .v (.int .i64 g.mn), .v (.int .i64 g.mx), enc g.args, enc g.kids, enc fs, .v (.int .i64 z)])]) [7] (fun _ => rfl) (by decide) ?_ ?_
  · simp [h1]
    intro u u0 u1
    have ut : u.tdiv 2 = u / 2 := Int.tdiv_eq_ediv_of_nonneg u0
    rw [ut]
    refine ⟨by simp only [InR]; omega, ?_⟩
    refine vc_whileG (X := Int × Value × List Filt) [0, 4, 7] [4] [] [] [] [] (fun x => 0 ≤ x.1 ∧ x.1 + x.2.2.length ≤ 4) (fun x => [(8, enc x.1)]) (fun x => [(7, .box b7 [.v (.int .i64 p.op), .v (.int .i64 p.cond.op), .v (.string p.cond.name), .v (.string p.cond.arg), .v (.string p.cond.val), .v (.string p.cond.lab), .v (.bool p.cond.fold), enc p.cond.kids, .v (.string p.lab), .v (.string p.reg), .v (.int .i64 p.mn), .v (.int .i64 p.mx), enc p.kids, .v (.int .i64 g.op), .v (.string g.a), .v (.string g.b), .v (.string g.name), .v (.string g.arg), .v (.string g.val), .v (.bool g.fold), .v (.int .i64 g.mn), .v (.int .i64 g.mx), enc g.args, enc g.kids, .own 49 x.2.1, .v (.int .i64 z)]), (49, .row x.2.1 ty_Filter 3 (x.2.2.map enc))]) (fun x => x.1.toNat) (u / 2, .slice none 0 0, []) [7, 49] (fun _ => rfl) (by decide) (by decide) ?_ ?_ ?_ ?_
    · exact ⟨by show 0 ≤ u / 2; omega, by simp; omega⟩
    · simp
    · simp [isNilRow]
      exact .nilown 49
    · rintro ⟨i, v, fs⟩ ⟨e1, e2⟩
      simp only at e1 e2
      simp [h6]
      refine ⟨fun hi => ⟨trivial, fun y => ⟨by omega, by omega, fun v => ⟨by simp only [InR]; omega, i - 1, v, fs ++ [y], ⟨by omega, by simp; omega⟩, ⟨rfl, .inl (.inl rfl), .inl (.inl (by simp))⟩, by omega⟩⟩⟩, fun hi => ⟨fs, .inl (fz_o ty_Filter (by simp [gvH]))⟩⟩
  · rintro fs -
    simp
    exact fin_of (⟨p, g, fs, z⟩ : Qry) (by simp) (hq _ _ _)
end Go.Gv
