/- A part of the framework and of the walks: V24. -/
import Derived.Test.YtaiffcbkmgfklaaGreatDoorGw26
set_option linter.unusedSimpArgs false
set_option linter.unusedVariables false

namespace Go.Gv
section
variable {Y Z : Type} {d m : Int} {s : Rdr} {p : Pst}
theorem dd_andLoop {N : Pst → Option (Pst × Cond)} {k : Nat} {acc : List Cond} (h : Dd p) (hk : 1 ≤ k) : DD p (andLoopG N k p acc) := by
 obtain _ | k := k
 ·omega
 rw [andLoopG]
 refine dd_eatb h ?_
 exact DD.some
theorem sim_andLoop {r : Int} {N : Rdr → Out (Rdr × Cond)} {N' : Pst → Option (Pst × Cond)} (hN : ∀ s p, Rel d s p → rem s ≤ r → Sim d (rem s) (N s) (N' p)) : ∀ (k : Nat) (s : Rdr) (p : Pst) (acc : List Cond), Rel d s p → rem s ≤ r → rem s + 2 ≤ k → Sim d (rem s) (andLoopE N k s acc) (andLoopG N' k p acc)
 | 0, s, p, acc, h, hr, hk => by have := h.rem0; omega
 | k + 1, s, p, acc, h, hr, hk => by
   have h0 := h.rem0
   rw [andLoopE, andLoopG]
   refine sim_take h (fun hs s' hR hm => ?_) (fun hs => ?_)
   ·simp only [↓reduceIte]
    have h0' := hR.rem0
    refine Sim.bind (m1 := rem s') (hN s' p.step hR (by omega)) (fun s2 p2 y hR2 hm2 => ?_) (fun p' y hd => ?_)
    ·exact (sim_andLoop hN k s2 p2 _ hR2 (by omega) (by omega)).mono (by omega)
    ·exact dd_andLoop hd (by omega)
   ·simp only [Bool.false_eq_true, if_false]
    exact sim_ok h (Int.le_refl _)
theorem sim_and {r : Int} {N : Rdr → Out (Rdr × Cond)} {N' : Pst → Option (Pst × Cond)} (hN : ∀ s p, Rel d s p → rem s ≤ r → Sim d (rem s) (N s) (N' p)) (s : Rdr) (p : Pst) (h : Rel d s p) (hr : rem s ≤ r) : Sim d (rem s) (andE N s) (andG N' p) := by
 have h0 := h.rem0
 unfold andE andG
 simp only [omap, Omap]
 refine Sim.bind (m1 := rem s) (hN s p h hr) (fun s2 p2 y hR2 hm2 => ?_) (fun p' y hd => ?_)
 ·refine Sim.bind (m1 := rem s2) (sim_andLoop hN 500 s2 p2 _ hR2 (by omega) (by omega)) (fun s3 p3 y hR3 hm3 => ?_) (fun p' y hd => ?_)
  ·exact sim_ok hR3 (by first | omega | (simp only at *; omega))
  ·exact DD.some
 ·exact DD.bind (dd_andLoop hd (by decide)) fun y => DD.some
theorem dd_and {N : Pst → Option (Pst × Cond)} (hN : ∀ p, Dd p → DD p (N p)) (h : Dd p) : DD p (andG N p) := by
 unfold andG
 simp only [omap]
 refine DD.bind (hN p h) fun y => ?_
 exact DD.bind (dd_andLoop h (by decide)) fun y => DD.some
theorem dd_orLoop {N : Pst → Option (Pst × Cond)} {k : Nat} {acc : List Cond} (h : Dd p) (hk : 1 ≤ k) : DD p (orLoopG N k p acc) := by
 obtain _ | k := k
 ·omega
 rw [orLoopG]
 refine dd_eatb h ?_
 exact DD.some
theorem sim_orLoop {r : Int} {N : Rdr → Out (Rdr × Cond)} {N' : Pst → Option (Pst × Cond)} (hN : ∀ s p, Rel d s p → rem s ≤ r → Sim d (rem s) (N s) (N' p)) : ∀ (k : Nat) (s : Rdr) (p : Pst) (acc : List Cond), Rel d s p → rem s ≤ r → rem s + 2 ≤ k → Sim d (rem s) (orLoopE N k s acc) (orLoopG N' k p acc)
 | 0, s, p, acc, h, hr, hk => by have := h.rem0; omega
 | k + 1, s, p, acc, h, hr, hk => by
   have h0 := h.rem0
   rw [orLoopE, orLoopG]
   refine sim_take h (fun hs s' hR hm => ?_) (fun hs => ?_)
   ·simp only [↓reduceIte]
    have h0' := hR.rem0
    refine Sim.bind (m1 := rem s') (sim_and hN s' p.step hR (by omega)) (fun s2 p2 y hR2 hm2 => ?_) (fun p' y hd => ?_)
    ·exact (sim_orLoop hN k s2 p2 _ hR2 (by omega) (by omega)).mono (by omega)
    ·exact dd_orLoop hd (by omega)
   ·simp only [Bool.false_eq_true, if_false]
    exact sim_ok h (Int.le_refl _)
theorem sim_or {r : Int} {N : Rdr → Out (Rdr × Cond)} {N' : Pst → Option (Pst × Cond)} (hN : ∀ s p, Rel d s p → rem s ≤ r → Sim d (rem s) (N s) (N' p)) (s : Rdr) (p : Pst) (h : Rel d s p) (hr : rem s ≤ r) : Sim d (rem s) (orE N s) (orG N' p) := by
 have h0 := h.rem0
 unfold orE orG
 simp only [omap, Omap]
 refine Sim.bind (m1 := rem s) (sim_and hN s p h hr) (fun s2 p2 y hR2 hm2 => ?_) (fun p' y hd => ?_)
 ·refine Sim.bind (m1 := rem s2) (sim_orLoop hN 500 s2 p2 _ hR2 (by omega) (by omega)) (fun s3 p3 y hR3 hm3 => ?_) (fun p' y hd => ?_)
  ·exact sim_ok hR3 (by first | omega | (simp only at *; omega))
  ·exact DD.some
 ·exact DD.bind (dd_orLoop hd (by decide)) fun y => DD.some
theorem dd_or {N : Pst → Option (Pst × Cond)} (hN : ∀ p, Dd p → DD p (N p)) (h : Dd p) : DD p (orG N p) := by
 unfold orG
 simp only [omap]
 refine DD.bind (dd_and hN h) fun y => ?_
 exact DD.bind (dd_orLoop h (by decide)) fun y => DD.some
theorem sim_atoms {g : Pst × B → Option (Pst × Cond)} (h : Rel d s p) (hg : g = fun n => if n.2 = ⟨#[105, 110]⟩ then (eatF n.1 ⟨#[40]⟩).bind fun v => if v.2 then regionG v.1 else atomG v.1 n.2 else atomG n.1 n.2) : Sim d (rem s) (atomsE s) ((wantG p 110 E0).bind g) := by
 subst hg
 unfold atomsE
 refine sim_text h ⟨rfl, by decide, by decide⟩ (fun hs s' hR hm => ?_) (fun p' hd y => ?_)
 ·simp only
  split
  ·refine sim_take hR (fun hs s2 hR2 hm2 => ?_) (fun hs => ?_)
   ·simp only [↓reduceIte]
    exact (sim_region hR2).mono (by omega)
   ·simp only [Bool.false_eq_true, if_false]
    exact (sim_atom hR).mono (by omega)
  ·exact (sim_atom hR).mono (by omega)
 ·simp only
  split
  ·refine dd_eatb hd ?_
   simp only [Bool.false_eq_true, if_false]
   exact dd_atom hd
  ·exact dd_atom hd
theorem dd_not {n : Nat} (h : Dd p) : DD p (notN (n + 1) p) := by
 rw [notN, notG]
 refine dd_eatb h ?_
 simp only [Bool.false_eq_true, if_false]
 refine dd_eatb h ?_
 simp only [Bool.false_eq_true, if_false]
 refine DD.bind (dd_want h) fun y => ?_
 simp only
 split
 ·refine dd_eatb h ?_
  simp only [Bool.false_eq_true, if_false]
  exact dd_atom h
 ·exact dd_atom h
theorem sim_not : ∀ (n : Nat) (s : Rdr) (p : Pst), Rel d s p → rem s + 1 ≤ n → Sim d (rem s) (notEN n s) (notN n p)
 | 0, s, p, h, hn => by have := h.rem0; omega
 | n + 1, s, p, h, hn => by
   have hN : ∀ s p, Rel d s p → rem s ≤ (n : Int) - 1 → Sim d (rem s) (notEN n s) (notN n p) := fun s p h hr => sim_not n s p h (by omega)
   rw [notEN, notN, notE, notG]
   refine sim_take h (fun hs s' hR hm => ?_) (fun hs => ?_)
   ·simp only [↓reduceIte, omap, Omap]
    exact Sim.bind (m1 := rem s') (hN s' p.step hR (by omega)) (fun s2 p2 y hR2 hm2 => sim_ok hR2 (by first | omega | (simp only at *; omega))) (fun p' y hd => DD.some)
   ·simp only [Bool.false_eq_true, if_false]
    refine sim_take h (fun hs s' hR hm => ?_) (fun hs => ?_)
    ·simp only [↓reduceIte, omap, Omap]
     refine Sim.bind (m1 := rem s') (sim_or hN s' p.step hR (by omega)) (fun s2 p2 y hR2 hm2 => ?_) (fun p' y hd => ?_)
     ·refine sim_must hR2 (fun s3 y hR3 hm3 => ?_) (fun p' hd y => DD.some)
      exact sim_ok hR3 (by first | omega | (simp only at *; omega))
     ·exact DD.bind (dd_want hd) fun y => DD.some
    ·simp only [Bool.false_eq_true, if_false]
     exact sim_atoms h rfl
theorem sim_cond (s : Rdr) (p : Pst) (h : Rel d s p) {n : Nat} (hn : rem s + 1 ≤ n) : Sim d (rem s) (orE (notEN n) s) (orG (notN n) p) := sim_or (r := rem s) (fun s p h hr => sim_not n s p h (by omega)) s p h (Int.le_refl _)
theorem dd_cond {n : Nat} (h : Dd p) : DD p (orG (notN (n + 1)) p) := dd_or (fun p h => dd_not h) h
/-! ### Constraints -/
theorem dd_gandLoop {N : Pst → Option (Pst × Glob)} {k : Nat} {acc : List Glob} (h : Dd p) (hk : 1 ≤ k) : DD p (gandLoopG N k p acc) := by
 obtain _ | k := k
 ·omega
 rw [gandLoopG]
 refine dd_eatb h ?_
 exact DD.some
theorem sim_gandLoop {r : Int} {N : Rdr → Out (Rdr × Glob)} {N' : Pst → Option (Pst × Glob)} (hN : ∀ s p, Rel d s p → rem s ≤ r → Sim d (rem s) (N s) (N' p)) : ∀ (k : Nat) (s : Rdr) (p : Pst) (acc : List Glob), Rel d s p → rem s ≤ r → rem s + 2 ≤ k → Sim d (rem s) (gandLoopE N k s acc) (gandLoopG N' k p acc)
 | 0, s, p, acc, h, hr, hk => by have := h.rem0; omega
 | k + 1, s, p, acc, h, hr, hk => by
   have h0 := h.rem0
   rw [gandLoopE, gandLoopG]
   refine sim_take h (fun hs s' hR hm => ?_) (fun hs => ?_)
   ·simp only [↓reduceIte]
    have h0' := hR.rem0
    refine Sim.bind (m1 := rem s') (hN s' p.step hR (by omega)) (fun s2 p2 y hR2 hm2 => ?_) (fun p' y hd => ?_)
    ·exact (sim_gandLoop hN k s2 p2 _ hR2 (by omega) (by omega)).mono (by omega)
    ·exact dd_gandLoop hd (by omega)
   ·simp only [Bool.false_eq_true, if_false]
    exact sim_ok h (Int.le_refl _)
theorem sim_gand {r : Int} {N : Rdr → Out (Rdr × Glob)} {N' : Pst → Option (Pst × Glob)} (hN : ∀ s p, Rel d s p → rem s ≤ r → Sim d (rem s) (N s) (N' p)) (s : Rdr) (p : Pst) (h : Rel d s p) (hr : rem s ≤ r) : Sim d (rem s) (gandE N s) (gandG N' p) := by
 have h0 := h.rem0
 unfold gandE gandG
 simp only [omap, Omap]
 refine Sim.bind (m1 := rem s) (hN s p h hr) (fun s2 p2 y hR2 hm2 => ?_) (fun p' y hd => ?_)
 ·refine Sim.bind (m1 := rem s2) (sim_gandLoop hN 500 s2 p2 _ hR2 (by omega) (by omega)) (fun s3 p3 y hR3 hm3 => ?_) (fun p' y hd => ?_)
  ·exact sim_ok hR3 (by first | omega | (simp only at *; omega))
  ·exact DD.some
 ·exact DD.bind (dd_gandLoop hd (by decide)) fun y => DD.some
theorem dd_gorLoop {N : Pst → Option (Pst × Glob)} {k : Nat} {acc : List Glob} (h : Dd p) (hk : 1 ≤ k) : DD p (gorLoopG N k p acc) := by
 obtain _ | k := k
 ·omega
 rw [gorLoopG]
 refine dd_eatb h ?_
 exact DD.some
theorem sim_gorLoop {r : Int} {N : Rdr → Out (Rdr × Glob)} {N' : Pst → Option (Pst × Glob)} (hN : ∀ s p, Rel d s p → rem s ≤ r → Sim d (rem s) (N s) (N' p)) : ∀ (k : Nat) (s : Rdr) (p : Pst) (acc : List Glob), Rel d s p → rem s ≤ r → rem s + 2 ≤ k → Sim d (rem s) (gorLoopE N k s acc) (gorLoopG N' k p acc)
 | 0, s, p, acc, h, hr, hk => by have := h.rem0; omega
 | k + 1, s, p, acc, h, hr, hk => by
   have h0 := h.rem0
   rw [gorLoopE, gorLoopG]
   refine sim_take h (fun hs s' hR hm => ?_) (fun hs => ?_)
   ·simp only [↓reduceIte]
    have h0' := hR.rem0
    refine Sim.bind (m1 := rem s') (sim_gand hN s' p.step hR (by omega)) (fun s2 p2 y hR2 hm2 => ?_) (fun p' y hd => ?_)
    ·exact (sim_gorLoop hN k s2 p2 _ hR2 (by omega) (by omega)).mono (by omega)
    ·exact dd_gorLoop hd (by omega)
   ·simp only [Bool.false_eq_true, if_false]
    exact sim_ok h (Int.le_refl _)
theorem sim_gor {r : Int} {N : Rdr → Out (Rdr × Glob)} {N' : Pst → Option (Pst × Glob)} (hN : ∀ s p, Rel d s p → rem s ≤ r → Sim d (rem s) (N s) (N' p)) (s : Rdr) (p : Pst) (h : Rel d s p) (hr : rem s ≤ r) : Sim d (rem s) (gorE N s) (gorG N' p) := by
 have h0 := h.rem0
 unfold gorE gorG
 simp only [omap, Omap]
 refine Sim.bind (m1 := rem s) (sim_gand hN s p h hr) (fun s2 p2 y hR2 hm2 => ?_) (fun p' y hd => ?_)
 ·refine Sim.bind (m1 := rem s2) (sim_gorLoop hN 500 s2 p2 _ hR2 (by omega) (by omega)) (fun s3 p3 y hR3 hm3 => ?_) (fun p' y hd => ?_)
  ·exact sim_ok hR3 (by first | omega | (simp only at *; omega))
  ·exact DD.some
 ·exact DD.bind (dd_gorLoop hd (by decide)) fun y => DD.some
theorem sim_big {k : Rdr × Int → Out (Rdr × Y)} {g : Pst × Int → Option (Pst × Y)} (h : Rel d s p) (h1 : ∀ s' y, Rel d s' p.step → rem s' < rem s → Sim d m (k (s', y)) (g (p.step, y)))
 (h2 : ∀ p', Dd p' → ∀ y, DD p' (g (p', y))) : Sim d m ((bigE s).bind k) ((bigG p).bind g) := by
 unfold bigE bigG
 rw [h.now, obnds]
 exact sim_number h (by decide) h1 h2
theorem dd_big (h : Dd p) : DD p (bigG p) := by
 obtain ⟨t, ht⟩ := h.now
 unfold bigG
 rw [ht, obnds]
 exact dd_number h
theorem sim_signed {k : Rdr × Int → Out (Rdr × Y)} {g : Pst × Int → Option (Pst × Y)} (h : Rel d s p) (h1 : ∀ s' p' y, Rel d s' p' → rem s' < rem s → Sim d m (k (s', y)) (g (p', y)))
 (h2 : ∀ p', Dd p' → ∀ y, DD p' (g (p', y))) : Sim d m ((signedE s).bind k) ((signedG p).bind g) := by
 unfold signedE signedG
 rw [obnd, Out.bind_bind]
 refine sim_take h (fun hs s' hR hm => ?_) (fun hs => ?_)
 ·simp only [↓reduceIte, omap, Omap, obnd, Out.bind_bind, obnds, Out.bind_ok]
  exact sim_big hR (fun s2 y hR2 hm2 => h1 s2 _ _ hR2 (by omega)) (fun p' hd y => h2 p' hd _)
 ·simp only [Bool.false_eq_true, if_false, omap, obnd, obnds]
  exact sim_big h (fun s2 y hR2 hm2 => h1 _ _ _ hR2 (by omega)) (fun p' hd y => h2 p' hd _)
theorem dd_signed (h : Dd p) : DD p (signedG p) := by
 unfold signedG
 simp only [omap]
 refine dd_eatb h ?_
 exact DD.bind (dd_big h) fun y => DD.some
theorem dd_args {k : Nat} {acc : List B} (h : Dd p) (hk : 1 ≤ k) : DD p (argsLoopG k p acc) := by
 obtain _ | k := k
 ·omega
 rw [argsLoopG]
 refine dd_eatb h ?_
 exact DD.some
theorem sim_args : ∀ (k : Nat) (s : Rdr) (p : Pst) (acc : List B), Rel d s p → rem s + 2 ≤ k → Sim d (rem s) (argsLoopE k s acc) (argsLoopG k p acc)
 | 0, s, p, acc, h, hk => by have := h.rem0; omega
 | k + 1, s, p, acc, h, hk => by
   have h0 := h.rem0
   rw [argsLoopE, argsLoopG]
   refine sim_take h (fun hs s' hR hm => ?_) (fun hs => ?_)
   ·simp only [↓reduceIte]
    have h0' := hR.rem0
    refine sim_text hR ⟨rfl, by decide, by decide⟩ (fun hs s2 hR2 hm2 => ?_) (fun p' hd y => ?_)
    ·exact (sim_args k s2 _ _ hR2 (by omega)).mono (by omega)
    ·exact dd_args hd (by omega)
   ·simp only [Bool.false_eq_true, if_false]
    exact sim_ok h (Int.le_refl _)
theorem dd_rest {op : Int} {a b : B} (h : Dd p) : DD p (restG p op a b) := by
 unfold restG
 simp only [omap]
 split
 ·refine DD.bind (dd_want h) fun y => DD.bind (dd_signed h) fun y => DD.bind (dd_want h) fun y => DD.bind (dd_signed h) fun y => DD.some
 ·split
  ·refine DD.bind (dd_want h) fun y => DD.bind (dd_big h) fun y => DD.bind (dd_want h) fun y => DD.bind (dd_big h) fun y => DD.some
  ·split
   ·refine DD.bind (dd_want h) fun y => DD.bind (dd_want h) fun y => DD.some
   ·split
    ·exact DD.bind (dd_args h (by decide)) fun y => DD.some
    ·exact DD.some
/-- The arguments of a function behind the first one, and the parenthesis. -/
theorem sim_call {op : Int} (h : Rel d s p) : Sim d (rem s) ((textE s 2).bind fun a => (argsE a.1 op a.2).bind fun g => (mustE g.1 [⟨#[41]⟩]).map fun z => (z, g.2)) (callG p op) := by
 unfold callG
 refine sim_text h ⟨rfl, by decide, by decide⟩ (fun hs s' hR hm => ?_) (fun p' hd y => ?_)
 ·have h0 := hR.rem0
  simp only [omap, Omap, commaE]
  unfold argsE restG
  by_cases e1 : op = 1
  ·subst e1
   simp only [↓reduceIte, ne_eq, not_true_eq_false, false_and, Out.bind_ok, show ¬ (1 : Int) = 4 by decide, show ¬ (1 : Int) = 10 by decide, show ¬ ((1 : Int) = 5 ∨ (1 : Int) = 9) by decide, show ¬ (1 : Int) = 8 by decide, obnds]
   repeat' first
    | exact sim_ok (by assumption) (by first | omega | (simp only at *; omega))
    | exact DD.some
    | exact dd_eat (by assumption)
    | exact dd_want (by assumption)
    | (refine sim_take (by assumption) (fun hs s' hR hm => ?_) (fun hs => ?_) <;> try simp only [↓reduceIte, Bool.false_eq_true, if_true, if_false])
    | (refine sim_text (by assumption) ⟨rfl, by decide, by decide⟩ (fun hs s' hR hm => ?_) (fun p' hd y => ?_) <;> try simp only [↓reduceIte, Bool.false_eq_true, if_true, if_false])
    | (refine sim_must (by assumption) (fun s' y hR hm => ?_) (fun p' hd y => ?_) <;> try simp only [↓reduceIte, Bool.false_eq_true, if_true, if_false])
    | (refine sim_number (by assumption) (by decide) (fun s' y hR hm => ?_) (fun p' hd y => ?_) <;> try simp only [↓reduceIte, Bool.false_eq_true, if_true, if_false])
    | (refine dd_eatb (by assumption) ?_; try simp only [↓reduceIte, Bool.false_eq_true, if_true, if_false])
    | (refine dd_is (by assumption) ?_; try simp only [↓reduceIte, Bool.false_eq_true, if_true, if_false])
    | (refine dd_kind (by assumption) ?_; try simp only [↓reduceIte, Bool.false_eq_true, if_true, if_false])
    | (refine DD.bind (dd_want (by assumption)) fun y => ?_; try simp only [↓reduceIte, Bool.false_eq_true, if_true, if_false])
    | (refine DD.bind (dd_number (by assumption)) fun y => ?_; try simp only [↓reduceIte, Bool.false_eq_true, if_true, if_false])
  ·by_cases e2 : op = 10
   ·subst e2
    simp only [↓reduceIte, ne_eq, not_true_eq_false, and_false, show ¬ (10 : Int) = 1 by decide, show ¬ (10 : Int) = 4 by decide, Out.bind_bind, obnd, obnds, omap, Omap, Out.bind_ok]
    refine sim_must hR (fun s2 y hR2 hm2 => ?_) (fun p' hd y => ?_)
    ·refine sim_big hR2 (fun s3 y hR3 hm3 => ?_) (fun p' hd y => ?_)
     ·refine sim_must hR3 (fun s4 y hR4 hm4 => ?_) (fun p' hd y => ?_)
      ·refine sim_big hR4 (fun s5 y hR5 hm5 => ?_) (fun p' hd y => ?_)
       ·refine sim_must hR5 (fun s6 y hR6 hm6 => sim_ok hR6 (by first | omega | (simp only at *; omega))) (fun p' hd y => DD.some)
       ·exact DD.bind (dd_want hd) fun y => DD.some
      ·exact DD.bind (dd_big hd) fun y => DD.bind (dd_want hd) fun y => DD.some
     ·exact DD.bind (dd_want hd) fun y => DD.bind (dd_big hd) fun y => DD.bind (dd_want hd) fun y => DD.some
    ·exact DD.bind (dd_big hd) fun y => DD.bind (dd_want hd) fun y => DD.bind (dd_big hd) fun y => DD.bind (dd_want hd) fun y => DD.some
   ·simp only [e1, e2, commaE, ↓reduceIte, ne_eq, not_false_eq_true, and_self, Out.bind_bind, obnd]
    refine sim_must hR (fun s2 y hR2 hm2 => ?_) (fun p' hd y => ?_)
    ·refine sim_text hR2 ⟨rfl, by decide, by decide⟩ (fun hs s3 hR3 hm3 => ?_) (fun p' hd y => ?_)
     ·have h03 := hR3.rem0
      simp only
      by_cases e4 : op = 4
      ·simp only [e4, ↓reduceIte, Out.bind_bind, obnd, omap, Omap, obnds, Out.bind_ok]
       refine sim_must hR3 (fun s4 y hR4 hm4 => ?_) (fun p' hd y => ?_)
       ·refine sim_signed hR4 (fun s5 p5 y hR5 hm5 => ?_) (fun p' hd y => ?_)
        ·refine sim_must hR5 (fun s6 y hR6 hm6 => ?_) (fun p' hd y => ?_)
         ·refine sim_signed hR6 (fun s7 p7 y hR7 hm7 => ?_) (fun p' hd y => ?_)
          ·refine sim_must hR7 (fun s8 y hR8 hm8 => sim_ok hR8 (by first | omega | (simp only at *; omega))) (fun p' hd y => DD.some)
          ·exact DD.bind (dd_want hd) fun y => DD.some
         ·exact DD.bind (dd_signed hd) fun y => DD.bind (dd_want hd) fun y => DD.some
        ·exact DD.bind (dd_want hd) fun y => DD.bind (dd_signed hd) fun y => DD.bind (dd_want hd) fun y => DD.some
       ·exact DD.bind (dd_signed hd) fun y => DD.bind (dd_want hd) fun y => DD.bind (dd_signed hd) fun y => DD.bind (dd_want hd) fun y => DD.some
      ·by_cases e5 : op = 5 ∨ op = 9
       ·simp only [e4, e5, commaE, ↓reduceIte, Out.bind_bind, obnd, omap, Omap, obnds, Out.bind_ok]
        repeat' first
         | exact sim_ok (by assumption) (by first | omega | (simp only at *; omega))
         | exact DD.some
         | exact dd_eat (by assumption)
         | exact dd_want (by assumption)
         | (refine sim_take (by assumption) (fun hs s' hR hm => ?_) (fun hs => ?_) <;> try simp only [↓reduceIte, Bool.false_eq_true, if_true, if_false])
         | (refine sim_text (by assumption) ⟨rfl, by decide, by decide⟩ (fun hs s' hR hm => ?_) (fun p' hd y => ?_) <;> try simp only [↓reduceIte, Bool.false_eq_true, if_true, if_false])
         | (refine sim_must (by assumption) (fun s' y hR hm => ?_) (fun p' hd y => ?_) <;> try simp only [↓reduceIte, Bool.false_eq_true, if_true, if_false])
         | (refine sim_number (by assumption) (by decide) (fun s' y hR hm => ?_) (fun p' hd y => ?_) <;> try simp only [↓reduceIte, Bool.false_eq_true, if_true, if_false])
         | (refine dd_eatb (by assumption) ?_; try simp only [↓reduceIte, Bool.false_eq_true, if_true, if_false])
         | (refine dd_is (by assumption) ?_; try simp only [↓reduceIte, Bool.false_eq_true, if_true, if_false])
         | (refine dd_kind (by assumption) ?_; try simp only [↓reduceIte, Bool.false_eq_true, if_true, if_false])
         | (refine DD.bind (dd_want (by assumption)) fun y => ?_; try simp only [↓reduceIte, Bool.false_eq_true, if_true, if_false])
         | (refine DD.bind (dd_number (by assumption)) fun y => ?_; try simp only [↓reduceIte, Bool.false_eq_true, if_true, if_false])
       ·by_cases e8 : op = 8
        ·simp only [e4, e5, e8, ↓reduceIte, Out.bind_bind, obnd, omap, Omap, obnds, Out.bind_ok, show ¬ (8 : Int) = 4 by decide, show ¬ ((8 : Int) = 5 ∨ (8 : Int) = 9) by decide]
         refine Sim.bind (m1 := rem s3) (sim_args 500 s3 _ [] hR3 (by omega)) (fun s4 p4 y hR4 hm4 => ?_) (fun p' y hd => ?_)
         ·refine sim_must hR4 (fun s8 y hR8 hm8 => sim_ok hR8 (by first | omega | (simp only at *; omega))) (fun p' hd y => DD.some)
         ·exact DD.bind (dd_want hd) fun y => DD.some
        ·simp only [e4, e5, e8, ↓reduceIte, obnds, Out.bind_ok]
         refine sim_must hR3 (fun s8 y hR8 hm8 => sim_ok hR8 (by first | omega | (simp only at *; omega))) (fun p' hd y => DD.some)
     ·simp only
      refine DD.bind ?_ fun y => ?_
      ·have hd2 := dd_rest (op := op) (a := s.text) (b := y) hd
       simp only [restG, e2, ↓reduceIte] at hd2
       exact hd2
      ·exact DD.bind (dd_want hd) fun y => DD.some
    ·refine DD.bind (dd_want hd) fun y => ?_
     refine DD.bind ?_ fun y => ?_
     ·have hd2 := dd_rest (op := op) (a := s.text) (b := y) hd
      simp only [restG, e2, ↓reduceIte] at hd2
      exact hd2
     ·exact DD.bind (dd_want hd) fun y => DD.some
 ·simp only [omap]
  split
  ·refine DD.bind (dd_want hd) fun y => DD.bind (dd_want hd) fun y => DD.bind (dd_rest hd) fun y => DD.bind (dd_want hd) fun y => DD.some
  ·refine DD.bind (dd_rest hd) fun y => DD.bind (dd_want hd) fun y => DD.some
theorem dd_gatom {n : B} (h : Dd p) : DD p (gatomG p n) := by
 unfold gatomG
 simp only [omap]
 repeat' first
  | exact sim_ok (by assumption) (by first | omega | (simp only at *; omega))
  | exact DD.some
  | exact dd_eat (by assumption)
  | exact dd_want (by assumption)
  | (refine sim_take (by assumption) (fun hs s' hR hm => ?_) (fun hs => ?_) <;> try simp only [↓reduceIte, Bool.false_eq_true, if_true, if_false])
  | (refine sim_text (by assumption) ⟨rfl, by decide, by decide⟩ (fun hs s' hR hm => ?_) (fun p' hd y => ?_) <;> try simp only [↓reduceIte, Bool.false_eq_true, if_true, if_false])
  | (refine sim_must (by assumption) (fun s' y hR hm => ?_) (fun p' hd y => ?_) <;> try simp only [↓reduceIte, Bool.false_eq_true, if_true, if_false])
  | (refine sim_number (by assumption) (by decide) (fun s' y hR hm => ?_) (fun p' hd y => ?_) <;> try simp only [↓reduceIte, Bool.false_eq_true, if_true, if_false])
  | (refine dd_eatb (by assumption) ?_; try simp only [↓reduceIte, Bool.false_eq_true, if_true, if_false])
  | (refine dd_is (by assumption) ?_; try simp only [↓reduceIte, Bool.false_eq_true, if_true, if_false])
  | (refine dd_kind (by assumption) ?_; try simp only [↓reduceIte, Bool.false_eq_true, if_true, if_false])
  | (refine DD.bind (dd_want (by assumption)) fun y => ?_; try simp only [↓reduceIte, Bool.false_eq_true, if_true, if_false])
  | (refine DD.bind (dd_number (by assumption)) fun y => ?_; try simp only [↓reduceIte, Bool.false_eq_true, if_true, if_false])
theorem sim_gatom {n : B} (h : Rel d s p) : Sim d (rem s) (gatomE s n) (gatomG p n) := by
 unfold gatomE gatomG
 simp only [omap, Omap]
 refine sim_must h (fun s2 y hR2 hm2 => ?_) (fun p' hd y => ?_)
 ·refine sim_text hR2 ⟨rfl, by decide, by decide⟩ (fun hs s3 hR3 hm3 => ?_) (fun p' hd y => ?_)
  ·refine sim_must hR3 (fun s4 y hR4 hm4 => ?_) (fun p' hd y => ?_)
   ·refine sim_kind hR4 (fun e => ?_) (fun e => ?_)
    ·have e' : s4.kind = 2 := (kR_eq hR4.kind).2.2.1.1 e
     rw [if_pos e']
     simp only [if_true]
     repeat' first
      | exact sim_ok (by assumption) (by first | omega | (simp only at *; omega))
      | exact DD.some
      | exact dd_eat (by assumption)
      | exact dd_want (by assumption)
      | (refine sim_take (by assumption) (fun hs s' hR hm => ?_) (fun hs => ?_) <;> try simp only [↓reduceIte, Bool.false_eq_true, if_true, if_false])
      | (refine sim_text (by assumption) ⟨rfl, by decide, by decide⟩ (fun hs s' hR hm => ?_) (fun p' hd y => ?_) <;> try simp only [↓reduceIte, Bool.false_eq_true, if_true, if_false])
      | (refine sim_must (by assumption) (fun s' y hR hm => ?_) (fun p' hd y => ?_) <;> try simp only [↓reduceIte, Bool.false_eq_true, if_true, if_false])
      | (refine sim_number (by assumption) (by decide) (fun s' y hR hm => ?_) (fun p' hd y => ?_) <;> try simp only [↓reduceIte, Bool.false_eq_true, if_true, if_false])
      | (refine dd_eatb (by assumption) ?_; try simp only [↓reduceIte, Bool.false_eq_true, if_true, if_false])
      | (refine dd_is (by assumption) ?_; try simp only [↓reduceIte, Bool.false_eq_true, if_true, if_false])
      | (refine dd_kind (by assumption) ?_; try simp only [↓reduceIte, Bool.false_eq_true, if_true, if_false])
      | (refine DD.bind (dd_want (by assumption)) fun y => ?_; try simp only [↓reduceIte, Bool.false_eq_true, if_true, if_false])
      | (refine DD.bind (dd_number (by assumption)) fun y => ?_; try simp only [↓reduceIte, Bool.false_eq_true, if_true, if_false])
    ·have e' : ¬ s4.kind = 2 := fun h => e ((kR_eq hR4.kind).2.2.1.2 h)
     rw [if_neg e']
     simp only [Bool.false_eq_true, if_false]
     repeat' first
      | exact sim_ok (by assumption) (by first | omega | (simp only at *; omega))
      | exact DD.some
      | exact dd_eat (by assumption)
      | exact dd_want (by assumption)
      | (refine sim_take (by assumption) (fun hs s' hR hm => ?_) (fun hs => ?_) <;> try simp only [↓reduceIte, Bool.false_eq_true, if_true, if_false])
      | (refine sim_text (by assumption) ⟨rfl, by decide, by decide⟩ (fun hs s' hR hm => ?_) (fun p' hd y => ?_) <;> try simp only [↓reduceIte, Bool.false_eq_true, if_true, if_false])
      | (refine sim_must (by assumption) (fun s' y hR hm => ?_) (fun p' hd y => ?_) <;> try simp only [↓reduceIte, Bool.false_eq_true, if_true, if_false])
      | (refine sim_number (by assumption) (by decide) (fun s' y hR hm => ?_) (fun p' hd y => ?_) <;> try simp only [↓reduceIte, Bool.false_eq_true, if_true, if_false])
      | (refine dd_eatb (by assumption) ?_; try simp only [↓reduceIte, Bool.false_eq_true, if_true, if_false])
      | (refine dd_is (by assumption) ?_; try simp only [↓reduceIte, Bool.false_eq_true, if_true, if_false])
      | (refine dd_kind (by assumption) ?_; try simp only [↓reduceIte, Bool.false_eq_true, if_true, if_false])
      | (refine DD.bind (dd_want (by assumption)) fun y => ?_; try simp only [↓reduceIte, Bool.false_eq_true, if_true, if_false])
      | (refine DD.bind (dd_number (by assumption)) fun y => ?_; try simp only [↓reduceIte, Bool.false_eq_true, if_true, if_false])
   repeat' first
    | exact sim_ok (by assumption) (by first | omega | (simp only at *; omega))
    | exact DD.some
    | exact dd_eat (by assumption)
    | exact dd_want (by assumption)
    | (refine sim_take (by assumption) (fun hs s' hR hm => ?_) (fun hs => ?_) <;> try simp only [↓reduceIte, Bool.false_eq_true, if_true, if_false])
    | (refine sim_text (by assumption) ⟨rfl, by decide, by decide⟩ (fun hs s' hR hm => ?_) (fun p' hd y => ?_) <;> try simp only [↓reduceIte, Bool.false_eq_true, if_true, if_false])
    | (refine sim_must (by assumption) (fun s' y hR hm => ?_) (fun p' hd y => ?_) <;> try simp only [↓reduceIte, Bool.false_eq_true, if_true, if_false])
    | (refine sim_number (by assumption) (by decide) (fun s' y hR hm => ?_) (fun p' hd y => ?_) <;> try simp only [↓reduceIte, Bool.false_eq_true, if_true, if_false])
    | (refine dd_eatb (by assumption) ?_; try simp only [↓reduceIte, Bool.false_eq_true, if_true, if_false])
    | (refine dd_is (by assumption) ?_; try simp only [↓reduceIte, Bool.false_eq_true, if_true, if_false])
    | (refine dd_kind (by assumption) ?_; try simp only [↓reduceIte, Bool.false_eq_true, if_true, if_false])
    | (refine DD.bind (dd_want (by assumption)) fun y => ?_; try simp only [↓reduceIte, Bool.false_eq_true, if_true, if_false])
    | (refine DD.bind (dd_number (by assumption)) fun y => ?_; try simp only [↓reduceIte, Bool.false_eq_true, if_true, if_false])
  repeat' first
   | exact sim_ok (by assumption) (by first | omega | (simp only at *; omega))
   | exact DD.some
   | exact dd_eat (by assumption)
   | exact dd_want (by assumption)
   | (refine sim_take (by assumption) (fun hs s' hR hm => ?_) (fun hs => ?_) <;> try simp only [↓reduceIte, Bool.false_eq_true, if_true, if_false])
   | (refine sim_text (by assumption) ⟨rfl, by decide, by decide⟩ (fun hs s' hR hm => ?_) (fun p' hd y => ?_) <;> try simp only [↓reduceIte, Bool.false_eq_true, if_true, if_false])
   | (refine sim_must (by assumption) (fun s' y hR hm => ?_) (fun p' hd y => ?_) <;> try simp only [↓reduceIte, Bool.false_eq_true, if_true, if_false])
   | (refine sim_number (by assumption) (by decide) (fun s' y hR hm => ?_) (fun p' hd y => ?_) <;> try simp only [↓reduceIte, Bool.false_eq_true, if_true, if_false])
   | (refine dd_eatb (by assumption) ?_; try simp only [↓reduceIte, Bool.false_eq_true, if_true, if_false])
   | (refine dd_is (by assumption) ?_; try simp only [↓reduceIte, Bool.false_eq_true, if_true, if_false])
   | (refine dd_kind (by assumption) ?_; try simp only [↓reduceIte, Bool.false_eq_true, if_true, if_false])
   | (refine DD.bind (dd_want (by assumption)) fun y => ?_; try simp only [↓reduceIte, Bool.false_eq_true, if_true, if_false])
   | (refine DD.bind (dd_number (by assumption)) fun y => ?_; try simp only [↓reduceIte, Bool.false_eq_true, if_true, if_false])
 repeat' first
  | exact sim_ok (by assumption) (by first | omega | (simp only at *; omega))
  | exact DD.some
  | exact dd_eat (by assumption)
  | exact dd_want (by assumption)
  | (refine sim_take (by assumption) (fun hs s' hR hm => ?_) (fun hs => ?_) <;> try simp only [↓reduceIte, Bool.false_eq_true, if_true, if_false])
  | (refine sim_text (by assumption) ⟨rfl, by decide, by decide⟩ (fun hs s' hR hm => ?_) (fun p' hd y => ?_) <;> try simp only [↓reduceIte, Bool.false_eq_true, if_true, if_false])
  | (refine sim_must (by assumption) (fun s' y hR hm => ?_) (fun p' hd y => ?_) <;> try simp only [↓reduceIte, Bool.false_eq_true, if_true, if_false])
  | (refine sim_number (by assumption) (by decide) (fun s' y hR hm => ?_) (fun p' hd y => ?_) <;> try simp only [↓reduceIte, Bool.false_eq_true, if_true, if_false])
  | (refine dd_eatb (by assumption) ?_; try simp only [↓reduceIte, Bool.false_eq_true, if_true, if_false])
  | (refine dd_is (by assumption) ?_; try simp only [↓reduceIte, Bool.false_eq_true, if_true, if_false])
  | (refine dd_kind (by assumption) ?_; try simp only [↓reduceIte, Bool.false_eq_true, if_true, if_false])
  | (refine DD.bind (dd_want (by assumption)) fun y => ?_; try simp only [↓reduceIte, Bool.false_eq_true, if_true, if_false])
  | (refine DD.bind (dd_number (by assumption)) fun y => ?_; try simp only [↓reduceIte, Bool.false_eq_true, if_true, if_false])
theorem sim_gnot : ∀ (n : Nat) (s : Rdr) (p : Pst), Rel d s p → rem s + 1 ≤ n → Sim d (rem s) (gnotEN n s) (gnotN n p)
 | 0, s, p, h, hn => by have := h.rem0; omega
 | n + 1, s, p, h, hn => by
   have hN : ∀ s p, Rel d s p → rem s ≤ (n : Int) - 1 → Sim d (rem s) (gnotEN n s) (gnotN n p) := fun s p h hr => sim_gnot n s p h (by omega)
   rw [gnotEN, gnotN, gnotE, gnotG]
   refine sim_take h (fun hs s' hR hm => ?_) (fun hs => ?_)
   ·simp only [↓reduceIte, omap, Omap]
    exact Sim.bind (m1 := rem s') (hN s' p.step hR (by omega)) (fun s2 p2 y hR2 hm2 => sim_ok hR2 (by first | omega | (simp only at *; omega))) (fun p' y hd => DD.some)
   ·simp only [Bool.false_eq_true, if_false]
    refine sim_take h (fun hs s' hR hm => ?_) (fun hs => ?_)
    ·simp only [↓reduceIte, omap, Omap]
     refine Sim.bind (m1 := rem s') (sim_gor hN s' p.step hR (by omega)) (fun s2 p2 y hR2 hm2 => ?_) (fun p' y hd => ?_)
     ·refine sim_must hR2 (fun s3 y hR3 hm3 => ?_) (fun p' hd y => DD.some)
      exact sim_ok hR3 (by first | omega | (simp only at *; omega))
     ·exact DD.bind (dd_want hd) fun y => DD.some
    ·simp only [Bool.false_eq_true, if_false]
     unfold gatomsE
     refine sim_text h ⟨rfl, by decide, by decide⟩ (fun hs s' hR hm => ?_) (fun p' hd y => ?_)
     ·simp only
      split
      ·refine sim_take hR (fun hs s2 hR2 hm2 => ?_) (fun hs => ?_)
       ·simp only [↓reduceIte]
        exact (sim_call hR2).mono (by omega)
       ·simp only [Bool.false_eq_true, if_false]
        exact (sim_gatom hR).mono (by omega)
      ·exact (sim_gatom hR).mono (by omega)
     ·simp only
      split
      ·refine dd_eatb hd ?_
       simp only [Bool.false_eq_true, if_false]
       exact dd_gatom hd
      ·exact dd_gatom hd
theorem sim_glob (s : Rdr) (p : Pst) (h : Rel d s p) {n : Nat} (hn : rem s + 1 ≤ n) : Sim d (rem s) (gorE (gnotEN n) s) (gorG (gnotN n) p) := sim_gor (r := rem s) (fun s p h hr => sim_gnot n s p h (by omega)) s p h (Int.le_refl _)
end
end Go.Gv
