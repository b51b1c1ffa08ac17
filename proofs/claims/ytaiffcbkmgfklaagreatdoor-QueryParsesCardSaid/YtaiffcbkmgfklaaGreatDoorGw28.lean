/- A part of the framework and of the walks: V25 W54 W98 C13. -/
import Derived.Test.YtaiffcbkmgfklaaGreatDoorGw27
import Derived.Test.YtaiffcbkmgfklaaGreatDoorGw14
import Derived.Test.YtaiffcbkmgfklaaGreatDoorGw24
import Derived.Test.YtaiffcbkmgfklaaGreatDoorGw12
set_option linter.unusedSimpArgs false
set_option linter.unusedVariables false
set_option maxRecDepth 100000

namespace Go.Gv
section
variable {Y Z : Type} {d m : Int} {s : Rdr} {p : Pst}
theorem dd_token {O : Pst → Option (Pst × Cond)} {n : B} (hO : ∀ p, Dd p → DD p (O p)) (h : Dd p) : DD p (tokenG O p n) := by
 unfold tokenG
 refine dd_kind h ?_
 simp only [Bool.false_eq_true, if_false, omap]
 refine DD.bind (dd_want h) fun y => ?_
 refine dd_eatb h ?_
 simp only [Bool.false_eq_true, if_false]
 exact DD.bind (hO p h) fun y => DD.bind (dd_want h) fun y => DD.some
theorem sim_token {r : Int} {O : Rdr → Out (Rdr × Cond)} {O' : Pst → Option (Pst × Cond)} {n : B} (hO : ∀ s p, Rel d s p → rem s ≤ r → Sim d (rem s) (O s) (O' p)) (hD : ∀ p, Dd p → DD p (O' p)) (h : Rel d s p) (hr : rem s ≤ r) : Sim d (rem s - 1) (tokenE O s n) (tokenG O' p n) := by
 have hk := kR_eq h.kind
 unfold tokenE tokenG
 simp only [omap, Omap]
 by_cases hb : signR s ⟨#[91]⟩ = true
 ·have hb' : s.kind = 5 ∧ s.text = ⟨#[91]⟩ := by unfold signR at hb; simpa using hb
  obtain ⟨s', e1, e2, e3⟩ := h.next (by omega)
  rw [kind_dec h, decide_eq_false (by rw [hk.2.2.2.2.1]; omega), obnds, want_yes h (by rw [not_or]; exact ⟨fun h => h (hk.2.2.2.2.2.2 hb'.1), fun h => h.2 hb'.2⟩), obnds]
  simp only [takeE, takeR, hb, if_true, e1, Option.map_some, Out.of_some, Out.bind_ok, Bool.false_eq_true, if_false]
  by_cases hc : signR s' ⟨#[93]⟩ = true
  ·have hk2 := kR_eq e2.kind
   have hc' : s'.kind = 5 ∧ s'.text = ⟨#[93]⟩ := by unfold signR at hc; simpa using hc
   obtain ⟨s2, f1, f2, f3⟩ := e2.next (by omega)
   unfold eatF
   rw [if_pos hc, sign_dec e2, hc]
   simp only [Option.map_some, obnds, if_true, mustE, hc, nextE, f1, Out.of_some, Out.bind_ok]
   exact sim_ok f2 (by first | omega | (simp only at *; omega))
  ·have hc : signR s' ⟨#[93]⟩ = false := by simpa using hc
   rw [if_neg (by simp [hc]), eatF, sign_dec e2, hc]
   simp only [Option.map_some, obnds, Bool.false_eq_true, if_false]
   refine Sim.bind (m1 := rem s') (hO s' _ e2 (by omega)) (fun s2 p2 y hR2 hm2 => ?_) (fun p' y hd => ?_)
   ·exact sim_must hR2 (fun s3 y hR3 hm3 => sim_ok hR3 (by first | omega | (simp only at *; omega))) (fun p' hd y => DD.some)
   ·exact DD.bind (dd_want hd) fun y => DD.some
 ·have hb : signR s ⟨#[91]⟩ = false := by simpa using hb
  simp only [takeE, takeR, hb, Out.of_some, Out.bind_ok, Bool.false_eq_true, if_false]
  by_cases hs : s.kind = 4
  ·rw [kind_dec h, decide_eq_true (hk.2.2.2.2.1.2 hs), obnds, if_pos rfl]
   exact sim_value h (fun s2 p2 y hR2 hm2 => sim_ok hR2 (by first | omega | (simp only at *; omega))) (fun p' hd y => DD.some)
  ·rw [kind_dec h, decide_eq_false (by rw [hk.2.2.2.2.1]; exact hs), obnds, if_neg (by simp)]
   have hd := h.dead 3 s.pos (by decide)
   rw [want_no h (by
    by_cases e : s.kind = 5
    ·refine .inr ⟨rfl, fun e2 => ?_⟩
     unfold signR at hb
     simp [e, e2] at hb
    ·exact .inl (by rw [Ne, hk.2.2.2.2.2]; exact e)), obnds]
   unfold valueE textE
   rw [if_neg hs]
   refine sim_dead hd ?_
   refine dd_eatb hd.dd ?_
   simp only [Bool.false_eq_true, if_false]
   exact DD.bind (hD _ hd.dd) fun y => DD.bind (dd_want hd.dd) fun y => DD.some
theorem sim_anchor {op : Int} (h : Rel d s p) : Sim d (rem s) (anchorE s op) (anchorG p op) := by
 unfold anchorE anchorG
 simp only [omap, Omap]
 refine sim_text h ⟨rfl, by decide, by decide⟩ (fun hs s' hR hm => ?_) (fun p' hd y => ?_)
 ·exact sim_must hR (fun s3 y hR3 hm3 => sim_ok hR3 (by first | omega | (simp only at *; omega))) (fun p' hd y => DD.some)
 ·exact DD.bind (dd_want hd) fun y => DD.some
theorem Rel.deeper (h : Rel d s p) (d' : Int) : Rel d' s { p with deep := d' } := ⟨h.e, rfl, h.pos, h.len, h.size, h.kind, h.fin, h.dig, h.nam, h.at_⟩
/-- What is asked of the function that reads alternatives (A), of the one that reads conditions (O), for at most r tokens. -/
def SimA (r : Int) (A : Rdr → Bool → Out (Rdr × Pat)) (A' : Pst → Option (Pst × Pat)) : Prop := ∀ d s p i, Rel d s p → rem s ≤ r → 0 ≤ d → d + rem s ≤ 500 → i = decide (0 < d) → Sim d (rem s) (A s i) (A' p)
def SimC (r : Int) (O : Rdr → Out (Rdr × Cond)) (O' : Pst → Option (Pst × Cond)) : Prop := ∀ d s p, Rel d s p → rem s ≤ r → Sim d (rem s) (O s) (O' p)
def DDC (O' : Pst → Option (Pst × Cond)) : Prop := ∀ p, Dd p → DD p (O' p)
theorem eat_of (h : Rel d s p) {t : B} {b : Bool} (hb : signR s t = b) : eatF p t = some (if b then p.step else p, b) := by
 rw [eatF, sign_dec h, hb]
 cases b <;> rfl
theorem take_no {t : B} (hb : signR s t = false) : takeE s t = .ok (s, false) := by
 rw [takeE, takeR, hb]
 rfl
theorem sign_ne {t u : B} (h : signR s t = true) (hn : t ≠ u) : signR s u = false := by
 unfold signR at h ⊢
 simp at h ⊢
 intro _ e
 exact hn (h.2.symm.trans e)
theorem sim_item {r : Int} {A : Rdr → Bool → Out (Rdr × Pat)} {A' : Pst → Option (Pst × Pat)} {O : Rdr → Out (Rdr × Cond)} {O' : Pst → Option (Pst × Cond)} (hA : SimA (r - 1) A A') (hO : SimC r O O') (hD : DDC O') (h : Rel d s p) (hr : rem s ≤ r) (h0 : 0 ≤ d) (h5 : d + rem s ≤ 500) :
 Sim d (rem s - 1) (itemE A O s) (itemG A' O' p) := by
 have hr0 := h.rem0
 have hk := kR_eq h.kind
 unfold itemE itemG
 simp only [omap, Omap]
 by_cases hb : signR s ⟨#[40]⟩ = true
 ·have hb' : s.kind = 5 ∧ s.text = ⟨#[40]⟩ := by unfold signR at hb; simpa using hb
  obtain ⟨s', e1, e2, e3⟩ := h.next (by omega)
  have e20 := e2.rem0
  rw [take_no (sign_ne hb (by decide)), Out.bind_ok, if_neg (by simp), take_no (sign_ne hb (by decide)), Out.bind_ok, if_neg (by simp), eat_of h hb, obnds]
  simp only [takeE, takeR, hb, if_true, e1, Option.map_some, Out.of_some, Out.bind_ok, show p.step.deep = d from h.deep]
  rw [if_pos (by omega)]
  have hA1 := hA (d + 1) s' { p.step with deep := d + 1 } true (e2.deeper (d + 1)) (by omega) (by omega) (by omega) (by symm; rw [decide_eq_true_eq]; omega)
  cases hE : A s' true with
  | ok q =>
    rw [hE] at hA1
    obtain ⟨p2, f1, f2, f3⟩ := hA1
    rw [f1, obnds, Out.bind_ok]
    simp only [f2.deep]
    rw [if_pos (by omega)]
    have f4 := f2.deeper d
    rw [show d + 1 - 1 = d by omega]
    exact sim_must f4 (fun s3 y hR3 hm3 => sim_ok hR3 (by first | omega | (simp only at *; omega))) (fun p' hd y => DD.some)
  | err f =>
    rw [hE] at hA1
    obtain ⟨p2, y, f1, f2⟩ := hA1
    rw [f1, obnds, Out.bind_err]
    simp only [f2.deep]
    rw [if_pos (by omega)]
    have f3 : Dead f d { p2 with deep := d + 1 - 1 } := ⟨f2.e, f2.fail, f2.ne, by show d + 1 - 1 = d; omega, f2.now⟩
    exact sim_dead f3 (DD.bind (dd_want f3.dd) fun y => DD.some)
  | no => rw [hE] at hA1; exact hA1.elim
 ·have hb : signR s ⟨#[40]⟩ = false := by simpa using hb
  rw [eat_of h hb, obnds]
  simp only [Bool.false_eq_true, if_false]
  refine sim_take h (fun hs s' hR hm => ?_) (fun hs => ?_)
  ·simp only [if_true]
   exact (sim_anchor hR).mono (by omega)
  ·simp only [Bool.false_eq_true, if_false]
   refine sim_take h (fun hs s' hR hm => ?_) (fun hs => ?_)
   ·simp only [if_true]
    exact (sim_anchor hR).mono (by omega)
   ·rw [take_no hb, Out.bind_ok]
    simp only [Bool.false_eq_true, if_false]
    refine sim_kind h (fun e => ?_) (fun e => ?_)
    ·have e' : s.kind = 2 := hk.2.2.1.1 e
     rw [if_pos e', if_pos rfl]
     refine sim_text h ⟨rfl, by decide, by decide⟩ (fun hs s' hR hm => ?_) (fun p' hd y => ?_)
     ·refine sim_must hR (fun s3 y hR3 hm3 => ?_) (fun p' hd y => dd_token hD hd)
      exact (sim_token (hO d) hD hR3 (by simp only at *; omega)).mono (by simp only at *; omega)
     ·exact DD.bind (dd_want hd) fun y => dd_token hD hd
    ·have e' : ¬ s.kind = 2 := fun h => e (hk.2.2.1.2 h)
     rw [if_neg e', if_neg (by simp)]
     exact sim_token (hO d) hD h hr
/-! ### Repetitions -/
/-- a suffix, or none: a token was read if there is one -/
theorem sim_suf (h : Rel d s p) {k : Rdr × Option (Int × Int) → Out (Rdr × Y)} {g : Pst × Option (Int × Int) → Option (Pst × Y)} (h1 : ∀ s' p' x, Rel d s' p' → rem s' < rem s → Sim d m (k (s', some x)) (g (p', some x))) (h3 : Sim d m (k (s, none)) (g (p, none)))
 (h2 : 0 < rem s → ∀ p', Dd p' → ∀ y, DD p' (g (p', y))) : Sim d m ((sufE s).bind k) ((sufG p s.pos).bind g) := by
 have hr0 := h.rem0
 unfold sufE sufG
 rw [obnd, Out.bind_bind]
 refine sim_take h (fun hs s' hR hm => ?_) (fun hs => ?_)
 ·simp only [if_true, obnds, Out.bind_ok]
  exact h1 _ _ _ hR hm
 simp only [Bool.false_eq_true, if_false]
 rw [obnd, Out.bind_bind]
 refine sim_take h (fun hs s' hR hm => ?_) (fun hs => ?_)
 ·simp only [if_true, obnds, Out.bind_ok]
  exact h1 _ _ _ hR hm
 simp only [Bool.false_eq_true, if_false]
 rw [obnd, Out.bind_bind]
 refine sim_take h (fun hs s' hR hm => ?_) (fun hs => ?_)
 ·simp only [if_true, obnds, Out.bind_ok]
  exact h1 _ _ _ hR hm
 simp only [Bool.false_eq_true, if_false]
 rw [obnd, Out.bind_bind]
 refine sim_take h (fun hs s' hR hm => ?_) (fun hs => ?_)
 ·simp only [if_true, omap, Omap]
  have hR0 := hR.rem0
  have h2' := h2 (by omega)
  unfold braceE
  simp only [omap, Omap, obnd, Out.bind_bind]
  refine sim_number hR (by decide) (fun s2 lo hR2 hm2 => ?_) (fun p' hd y => ?_)
  ·refine sim_take hR2 (fun hs s3 hR3 hm3 => ?_) (fun hs => ?_)
   ·simp only [if_true]
    have hk3 := kR_eq hR3.kind
    by_cases hc : signR s3 ⟨#[125]⟩ = true
    ·have hc' : s3.kind = 5 ∧ s3.text = ⟨#[125]⟩ := by unfold signR at hc; simpa using hc
     rw [if_pos hc, kind_dec hR3, decide_eq_false (by rw [hk3.2.2.2.1]; omega), obnds, if_neg (by simp)]
     simp only [obnd, Out.bind_bind, obnds, Out.bind_ok]
     refine sim_must hR3 (fun s4 y hR4 hm4 => h1 _ _ _ hR4 (by simp only at *; omega)) (fun p' hd y => h2' p' hd _)
    ·have hc : signR s3 ⟨#[125]⟩ = false := by simpa using hc
     rw [if_neg (by simp [hc])]
     by_cases hk : s3.kind = 3
     ·rw [kind_dec hR3, decide_eq_true (hk3.2.2.2.1.2 hk), obnds, if_pos rfl]
      simp only [obnd, Out.bind_bind]
      refine sim_number hR3 (by decide) (fun s4 hi hR4 hm4 => ?_) (fun p' hd y => ?_)
      ·by_cases hl : hi < lo
       ·rw [if_pos hl, if_pos hl]
        have hd := hR4.dead 8 s.pos (by decide)
        rw [Out.bind_err]
        exact sim_dead hd (DD.bind (dd_want hd.dd) fun y => h2' _ hd.dd _)
       ·rw [if_neg hl, if_neg hl]
        simp only [obnd, Out.bind_bind, obnds, Out.bind_ok]
        refine sim_must hR4 (fun s4 y hR4 hm4 => h1 _ _ _ hR4 (by simp only at *; omega)) (fun p' hd y => h2' p' hd _)
      ·have e : (if y < lo then errS p' 8 s.pos else p') = p' := by
        split
        ·rw [errS, if_neg hd.e]
        ·rfl
       rw [e]
       exact DD.bind (dd_want hd) fun y => h2' p' hd _
     ·rw [kind_dec hR3, decide_eq_false (by rw [hk3.2.2.2.1]; exact hk), obnds, if_neg (by simp)]
      have hd := hR3.dead 3 s3.pos (by decide)
      rw [want_no hR3 (by
       by_cases e : s3.kind = 5
       ·refine .inr ⟨rfl, fun e2 => ?_⟩
        unfold signR at hc
        simp [e, e2] at hc
       ·exact .inl (by rw [Ne, hk3.2.2.2.2.2]; exact e))]
      unfold numberE textE
      rw [if_neg hk]
      simp only [Out.bind_err, obnds]
      exact sim_dead hd (h2' _ hd.dd _)
   ·simp only [Bool.false_eq_true, if_false, obnd, Out.bind_bind, obnds, Out.bind_ok]
    refine sim_must hR2 (fun s4 y hR4 hm4 => h1 _ _ _ hR4 (by simp only at *; omega)) (fun p' hd y => h2' p' hd _)
  ·simp only
   refine dd_eatb hd ?_
   simp only [Bool.false_eq_true, if_false, obnd, obnds]
   exact DD.bind (dd_want hd) fun y => h2' p' hd _
 ·simp only [Bool.false_eq_true, if_false, obnds, Out.bind_ok]
  exact h3
theorem dd_repLoop {k : Nat} {x : Pat} (h : Dd p) (hk : 1 ≤ k) : DD p (repLoopG k p x) := by
 obtain _ | k := k
 ·omega
 rw [repLoopG, if_pos h.e]
 exact DD.some
theorem sim_repLoop : ∀ (k : Nat) (s : Rdr) (p : Pst) (x : Pat), Rel d s p → rem s + 2 ≤ k → Sim d (rem s) (repLoopE k s x) (repLoopG k p x)
 | 0, s, p, x, h, hk => by have := h.rem0; omega
 | k + 1, s, p, x, h, hk => by
   have h0 := h.rem0
   rw [repLoopE, repLoopG, if_neg (by simp [h.e]), h.now, obnds]
   refine sim_suf h (fun s' p' x hR hm => ?_) ?_ (fun hr p' hd y => ?_)
   ·have := hR.rem0
    exact (sim_repLoop k s' p' _ hR (by omega)).mono (by omega)
   ·exact sim_ok h (Int.le_refl _)
   ·rcases y with _ | y
    ·exact DD.some
    ·exact dd_repLoop hd (by omega)
theorem sim_rep {r : Int} {A : Rdr → Bool → Out (Rdr × Pat)} {A' : Pst → Option (Pst × Pat)} {O : Rdr → Out (Rdr × Cond)} {O' : Pst → Option (Pst × Cond)} (hA : SimA (r - 1) A A') (hO : SimC r O O') (hD : DDC O') (h : Rel d s p) (hr : rem s ≤ r) (h0 : 0 ≤ d) (h5 : d + rem s ≤ 500) :
 Sim d (rem s - 1) (repE A O s) (repG A' O' p) := by
 unfold repE repG
 refine Sim.bind (sim_item hA hO hD h hr h0 h5) (fun s2 p2 y hR2 hm2 => ?_) (fun p' y hd => dd_repLoop hd (by decide))
 have := hR2.rem0
 exact (sim_repLoop 500 s2 p2 y hR2 (by omega)).mono hm2
/-! ### Sequences -/
theorem begins_eq (h : Rel d s p) (h0 : 0 ≤ d) {i : Bool} (hi : i = decide (0 < d)) : ∃ b, beginsR s i = some b ∧ beginsG p = some b := by
 have hk := kR_eq h.kind
 have hf := h.fin
 have hz := h.size
 unfold beginsR beginsG
 rw [h.now, obnds, if_neg (show ¬ (p.e ≠ 0) by simp [h.e])]
 by_cases h4 : s.kind = 4
 ·rw [if_pos h4]
  refine ⟨true, rfl, ?_⟩
  have : ¬ kR s.kind = 110 := by rw [hk.2.2.1]; omega
  simp only
  rw [if_neg this, decide_eq_true (.inl (hk.2.2.2.2.1.2 h4))]
 rw [if_neg h4]
 by_cases h2 : s.kind = 2
 ·rw [if_pos h2]
  simp only
  rw [if_pos (hk.2.2.1.2 h2)]
  have hp : peekR s = some (lexP s.txt s.fin.toNat).1 := by rw [peekR, if_pos ⟨hf, by omega⟩]
  have hn : nextT p = some (tkR (lexP s.txt s.fin.toNat).1) := by
   have h1 := h.at_
   rw [if_neg (by omega), toksT_eq (by omega)] at h1
   have hl : p.pos.toNat + 2 ≤ p.l.length := by
    have := congrArg List.length h1
    simp at this
    omega
   have hpos := h.pos
   have hlen := h.len
   rw [nextT, if_pos ⟨h.pos, by omega, h.len⟩, show (min (p.pos + 1) ((p.l.length : Int) - 1)).toNat = p.pos.toNat + 1 by omega]
   have := congrArg (fun l => l[1]?) h1
   simpa [List.getElem?_drop] using this
  rw [hp, hn]
  refine ⟨_, rfl, ?_⟩
  simp only [Option.map_some]
  congr 1
  have hr := lexP_rng (s := s.txt) (i := s.fin.toNat) (by omega)
  have hk2 := kR_eq ⟨hr.1, hr.2.1⟩
  have ht : wordR s tailL = tailG s.text := by
   unfold wordR tailG tailL
   rw [Bool.eq_iff_iff]
   simp only [Bool.and_eq_true, decide_eq_true_eq, List.any_cons, List.any_nil, Bool.or_false, Bool.or_eq_true, h2, true_and]
   constructor
   ·rintro (e | e | e | e)
    ·exact .inr (.inl e)
    ·exact .inr (.inr (.inl e))
    ·exact .inr (.inr (.inr e))
    ·exact .inl e
   ·rintro (e | e | e | e)
    ·exact .inr (.inr (.inr e))
    ·exact .inl e
    ·exact .inr (.inl e)
    ·exact .inr (.inr (.inl e))
  rw [ht, hi, h.deep, Bool.or_comm]
  congr 1
  unfold tkR
  rw [Bool.eq_iff_iff]
  simp [hk2.2.2.2.2.2]
 ·rw [if_neg h2]
  simp only
  rw [if_neg (by rw [hk.2.2.1]; exact h2)]
  refine ⟨_, rfl, ?_⟩
  congr 1
  unfold signR
  rw [Bool.eq_iff_iff]
  simp only [hk.2.2.2.2.1, hk.2.2.2.2.2, h4, false_or, decide_eq_true_eq, Bool.or_eq_true, Bool.and_eq_true]
  constructor
  ·rintro ⟨a, b | b | b | b⟩ <;> simp [a, b]
  ·rintro (((⟨a, b⟩ | ⟨a, b⟩) | ⟨a, b⟩) | ⟨a, b⟩) <;> simp [a, b]
theorem dd_begins {g : Bool → Option (Pst × Y)} (h : Dd p) (h1 : DD p (g false)) : DD p ((beginsG p).bind g) := by
 obtain ⟨t, ht⟩ := h.now
 rw [beginsG, ht, obnds, if_pos h.e]
 exact h1
section
variable {r : Int} {A : Rdr → Bool → Out (Rdr × Pat)} {A' : Pst → Option (Pst × Pat)} {O : Rdr → Out (Rdr × Cond)} {O' : Pst → Option (Pst × Cond)}
theorem dd_seqLoop {k : Nat} {acc : List Pat} (h : Dd p) (hk : 1 ≤ k) : DD p (seqLoopG A' O' k p acc) := by
 obtain _ | k := k
 ·omega
 rw [seqLoopG]
 refine dd_begins h ?_
 exact DD.some
theorem begins_rem (h : Rel d s p) {i : Bool} (hb : beginsR s i = some true) : 0 < rem s := by
 have hf := h.fin
 unfold rem
 split
 ·rename_i hk
  have hk' := h.kind
  unfold beginsR at hb
  rw [if_neg (by omega), if_neg (by omega)] at hb
  unfold signR at hb
  rw [decide_eq_false (by omega)] at hb
  simp at hb
 ·omega
end
section
variable {r : Int} {A : Rdr → Bool → Out (Rdr × Pat)} {A' : Pst → Option (Pst × Pat)} {O : Rdr → Out (Rdr × Cond)} {O' : Pst → Option (Pst × Cond)}
theorem sim_seqLoop (hA : SimA (r - 1) A A') (hO : SimC r O O') (hD : DDC O') (h0 : 0 ≤ d) {i : Bool} (hi : i = decide (0 < d)) : ∀ (k : Nat) (s : Rdr) (p : Pst) (acc : List Pat), Rel d s p → rem s ≤ r → d + rem s ≤ 500 → rem s + 2 ≤ k → Sim d (rem s) (seqLoopE A O i k s acc) (seqLoopG A' O' k p acc)
 | 0, s, p, acc, h, hr, h5, hk => by have := h.rem0; omega
 | k + 1, s, p, acc, h, hr, h5, hk => by
   rw [seqLoopE, seqLoopG]
   obtain ⟨b, b1, b2⟩ := begins_eq h h0 hi
   rw [b1, b2]
   simp only [Out.of_some, Out.bind_ok, obnds]
   cases b with
   | true =>
     have h1 := begins_rem h b1
     simp only [if_true]
     refine Sim.bind (sim_rep hA hO hD h hr h0 h5) (fun s2 p2 y hR2 hm2 => ?_) (fun p' y hd => dd_seqLoop hd (by omega))
     exact (sim_seqLoop hA hO hD h0 hi k s2 p2 _ hR2 (by omega) (by omega) (by omega)).mono (by omega)
   | false =>
     simp only [Bool.false_eq_true, if_false]
     exact sim_ok h (Int.le_refl _)
theorem sim_seq (hA : SimA (r - 1) A A') (hO : SimC r O O') (hD : DDC O') (h : Rel d s p) (hr : rem s ≤ r) (h0 : 0 ≤ d) (h5 : d + rem s ≤ 500) {i : Bool} (hi : i = decide (0 < d)) : Sim d (rem s - 1) (seqE A O s i) (seqG A' O' p) := by
 unfold seqE seqG
 simp only [omap, Omap]
 refine Sim.bind (sim_rep hA hO hD h hr h0 h5) (fun s2 p2 y hR2 hm2 => ?_) (fun p' y hd => DD.bind (dd_seqLoop hd (by decide)) fun y => DD.some)
 have := hR2.rem0
 exact Sim.bind (sim_seqLoop hA hO hD h0 hi 500 s2 p2 _ hR2 (by omega) (by omega) (by omega)) (fun s3 p3 y hR3 hm3 => sim_ok hR3 (by first | omega | (simp only at *; omega))) (fun p' y hd => DD.some)
theorem dd_altLoop {k : Nat} {acc : List Pat} (h : Dd p) (hk : 1 ≤ k) : DD p (altLoopG A' O' k p acc) := by
 obtain _ | k := k
 ·omega
 rw [altLoopG]
 refine dd_eatb h ?_
 exact DD.some
theorem sim_altLoop (hA : SimA (r - 1) A A') (hO : SimC r O O') (hD : DDC O') (h0 : 0 ≤ d) {i : Bool} (hi : i = decide (0 < d)) : ∀ (k : Nat) (s : Rdr) (p : Pst) (acc : List Pat), Rel d s p → rem s ≤ r → d + rem s ≤ 500 → rem s + 2 ≤ k → Sim d (rem s) (altLoopE A O i k s acc) (altLoopG A' O' k p acc)
 | 0, s, p, acc, h, hr, h5, hk => by have := h.rem0; omega
 | k + 1, s, p, acc, h, hr, h5, hk => by
   rw [altLoopE, altLoopG]
   refine sim_take h (fun hs s' hR hm => ?_) (fun hs => ?_)
   ·have h1 := hR.rem0
    simp only [if_true]
    refine Sim.bind (sim_seq hA hO hD hR (by omega) h0 (by omega) hi) (fun s2 p2 y hR2 hm2 => ?_) (fun p' y hd => dd_altLoop hd (by omega))
    exact (sim_altLoop hA hO hD h0 hi k s2 p2 _ hR2 (by omega) (by omega) (by omega)).mono (by omega)
   ·simp only [Bool.false_eq_true, if_false]
    exact sim_ok h (Int.le_refl _)
theorem sim_alt (hA : SimA (r - 1) A A') (hO : SimC r O O') (hD : DDC O') : SimA r (altE A O) (altG A' O') := by
 intro d s p i h hr h0 h5 hi
 unfold altE altG
 simp only [omap, Omap]
 refine Sim.bind (sim_seq hA hO hD h hr h0 h5 hi) (fun s2 p2 y hR2 hm2 => ?_) (fun p' y hd => DD.bind (dd_altLoop hd (by decide)) fun y => DD.some)
 have := hR2.rem0
 exact Sim.bind (sim_altLoop hA hO hD h0 hi 500 s2 p2 _ hR2 (by omega) (by omega) (by omega)) (fun s3 p3 y hR3 hm3 => sim_ok hR3 (by first | omega | (simp only at *; omega))) (fun p' y hd => DD.some)
end
theorem sim_altN : ∀ n : Nat, SimA ((n : Int) - 1) (altEN n) (altN n)
 | 0 => fun d s p i h hr h0 h5 hi => by have := h.rem0; omega
 | n + 1 => by
   show SimA _ (altE (altEN n) (orE (notEN (n + 1)))) (altG (altN n) (orG (notN (n + 1))))
   rw [show ((n + 1 : Nat) : Int) - 1 = (n : Int) by omega]
   exact sim_alt (sim_altN n) (fun d s p h hr => sim_cond s p h (by omega)) (fun p h => dd_cond h)
/-! ### Queries -/
theorem word_dec (h : Rel d s p) (w : B) : isF p 110 w = some (wordR s [w]) := by
 rw [isF, if_neg (by simp [h.e]), h.now, Option.map_some, wordR]
 congr 1
 rw [Bool.eq_iff_iff]
 have := (kR_eq h.kind).2.2.1
 simp [this]
theorem idx_cons (w x : B) (l : List B) : idxL (x :: l) w = if w = x then 0 else if idxL l w < 0 then -1 else idxL l w + 1 := by
 show (if decide (w = x) = true then (0 : Int) else if idxL l w < 0 then -1 else idxL l w + 1) = _
 by_cases e : w = x <;> simp [e]
theorem idx_rng : ∀ (l : List B) (w : B), idxL l w = -1 ∨ 0 ≤ idxL l w
 | [], w => .inl rfl
 | x :: l, w => by
   have := idx_rng l w
   rw [idx_cons]
   split
   ·exact .inr (by omega)
   ·split
    ·exact .inl rfl
    ·exact .inr (by omega)
theorem idx_step (w x : B) (l : List B) : idxL (x :: l) w = if w = x then 0 else if idxL l w = -1 then -1 else idxL l w + 1 := by
 have := idx_rng l w
 rw [idx_cons]
 split
 ·rfl
 ·by_cases h : idxL l w < 0
  ·rw [if_pos h, if_pos (by omega)]
  ·rw [if_neg h, if_neg (by omega)]
theorem wordG_dec (h : Rel d s p) : ∀ (l : List B) (i : Int), wordG p l i = some (if s.kind = 2 ∧ idxL l s.text ≠ -1 then idxL l s.text + i else -1)
 | [], i => by
   have : idxL [] s.text = -1 := rfl
   rw [wordG, this, if_neg (by simp)]
 | w :: l, i => by
   rw [wordG, word_dec h, obnds, idx_step]
   have hr := idx_rng l s.text
   unfold wordR
   by_cases hk : s.kind = 2
   ·by_cases e : s.text = w
    ·simp [hk, e]
    ·simp only [hk, e, decide_true, Bool.true_and, List.any_cons, decide_false, List.any_nil, Bool.or_self, Bool.false_eq_true, if_false, wordG_dec h l (i + 1), true_and]
     rcases hr with hr | hr
     ·simp [hr]
     ·have h1 : idxL l s.text ≠ -1 := by omega
      have h2 : idxL l s.text + 1 ≠ -1 := by omega
      simp only [h1, h2, ne_eq, not_false_eq_true, if_true, if_false]
      congr 1
      omega
   ·simp only [hk, decide_false, Bool.false_and, Bool.false_eq_true, if_false, wordG_dec h l (i + 1), false_and]
theorem word_idx (l : List B) (hk : s.kind = 2) : wordR s l = decide (idxL l s.text ≠ -1) := by
 unfold wordR
 rw [decide_eq_true hk, Bool.true_and]
 induction l with
 | nil => rfl
 | cons x l ih =>
   have hr := idx_rng l s.text
   rw [List.any_cons, ih, idx_step]
   by_cases e : s.text = x
   ·simp [e]
   ·by_cases e2 : idxL l s.text = -1
    ·simp [e, e2]
    ·have : idxL l s.text + 1 ≠ -1 := by omega
     simp [e, e2, this]
theorem dd_filtLoop {k : Nat} {acc : List Filt} (h : Dd p) (hk : 1 ≤ k) : DD p (filtLoopG k p acc) := by
 obtain _ | k := k
 ·omega
 rw [filtLoopG, if_pos h.e]
 exact DD.some
theorem filt_idx (w : B) : idxL filterL w = if w = E0 then 0 else if idxL (filterL.drop 1) w = -1 then -1 else idxL (filterL.drop 1) w + 1 := idx_step w E0 _
theorem nextE_of {s' : Rdr} (h : nextR s = some s') : nextE s = .ok s' := by rw [nextE, h]; rfl
theorem sim_filtTail {k : Nat} {acc : List Filt} {b : Bool} (ih : ∀ (s : Rdr) (p : Pst) (acc : List Filt), Rel d s p → rem s + 2 ≤ k → Sim d (rem s) (filtLoopE k s acc) (filtLoopG k p acc)) (h : Rel d s p) (hk : rem s + 1 ≤ k) (h2 : s.kind = 2) (hD : idxL (filterL.drop 1) s.text ≠ -1) :
 Sim d (rem s) ((if s.kind ≠ 2 ∨ idxL filterL s.text < 1 then Out.err (s.pos, 3) else (nextE s).bind fun x => (textE x 2).bind fun n => .ok (n.1, (⟨idxL filterL s.text, b, n.2⟩ : Filt))).bind fun f => filtLoopE k f.1 (acc ++ [f.2]))
  ((wantG p.step 110 E0).bind fun n => filtLoopG k n.1 (acc ++ [⟨idxL (filterL.drop 1) s.text + 1, b, n.2⟩])) := by
 have h0 := h.rem0
 have hr := idx_rng (filterL.drop 1) s.text
 have hi : idxL filterL s.text = idxL (filterL.drop 1) s.text + 1 := by rw [filt_idx, if_neg (h.nam h2), if_neg hD]
 rw [if_neg (by rw [hi]; omega), hi]
 obtain ⟨s', e1, e2, e3⟩ := h.next (by omega)
 have h1 := e2.rem0
 rw [nextE_of e1]
 simp only [Out.bind_ok, Out.bind_bind]
 refine sim_text e2 ⟨rfl, by decide, by decide⟩ (fun hs s3 hR hm => ?_) (fun p' hd y => dd_filtLoop hd (by omega))
 exact (ih s3 _ _ hR (by omega)).mono (by omega)
theorem sim_filtLoop : ∀ (k : Nat) (s : Rdr) (p : Pst) (acc : List Filt), Rel d s p → rem s + 2 ≤ k → Sim d (rem s) (filtLoopE k s acc) (filtLoopG k p acc)
 | 0, s, p, acc, h, hk => by have := h.rem0; omega
 | k + 1, s, p, acc, h, hk => by
   have h0 := h.rem0
   rw [filtLoopE, filtLoopG, if_neg (show ¬ (p.e ≠ 0) by simp [h.e])]
   unfold filtE
   simp only [Omap]
   cases hb : signR s ⟨#[33]⟩ with
   | true =>
     have hb' : s.kind = 5 ∧ s.text = ⟨#[33]⟩ := by unfold signR at hb; simpa using hb
     obtain ⟨s', e1, e2, e3⟩ := h.next (by omega)
     have h1 := e2.rem0
     rw [eat_of h hb, obnds, takeE, takeR, hb, e1]
     simp only [Bool.true_or, if_true, Option.map_some, Out.of_some, Out.bind_ok, wordG_dec e2, obnds]
     by_cases hc : s'.kind = 2 ∧ idxL (filterL.drop 1) s'.text ≠ -1
     ·have hr := idx_rng (filterL.drop 1) s'.text
      rw [if_pos hc, if_neg (show ¬ (idxL (filterL.drop 1) s'.text + 1 = -1) by omega)]
      exact (sim_filtTail (sim_filtLoop k) e2 (by omega) hc.1 hc.2).mono (by omega)
     ·rw [if_neg hc, if_pos rfl]
      have : s'.kind ≠ 2 ∨ idxL filterL s'.text < 1 := by
       by_cases h2 : s'.kind = 2
       ·right
        rw [filt_idx, if_neg (e2.nam h2), if_pos (by
         by_cases e : idxL (filterL.drop 1) s'.text = -1
         ·exact e
         ·exact absurd ⟨h2, e⟩ hc)]
        omega
       ·exact .inl h2
      rw [if_pos this, wrongG, e2.now]
      exact ⟨_, _, rfl, e2.dead 3 s'.pos (by decide)⟩
   | false =>
     rw [eat_of h hb, obnds, take_no hb]
     simp only [Bool.false_or, Bool.false_eq_true, if_false, Out.bind_ok, wordG_dec h, obnds]
     by_cases hc : s.kind = 2 ∧ idxL (filterL.drop 1) s.text ≠ -1
     ·have hr := idx_rng (filterL.drop 1) s.text
      have hw : wordR s filterL = true := by
       rw [word_idx _ hc.1, decide_eq_true_eq, filt_idx, if_neg (h.nam hc.1), if_neg hc.2]
       omega
      rw [hw, if_pos rfl, if_pos hc, if_neg (show ¬ (idxL (filterL.drop 1) s.text + 1 = -1) by omega)]
      exact sim_filtTail (sim_filtLoop k) h (by omega) hc.1 hc.2
     ·have hw : wordR s filterL = false := by
       by_cases h2 : s.kind = 2
       ·rw [word_idx _ h2, decide_eq_false_iff_not, filt_idx, if_neg (h.nam h2), if_pos (by
         by_cases e : idxL (filterL.drop 1) s.text = -1
         ·exact e
         ·exact absurd ⟨h2, e⟩ hc)]
        simp
       ·unfold wordR
        simp [h2]
      rw [hw, if_neg (by simp), if_neg hc, if_pos rfl]
      exact sim_ok h (Int.le_refl _)
theorem sim_strat (h : Rel d s p) : Sim d (rem s) (stratE s) (stratG p) := by
 unfold stratE stratG
 rw [word_dec h, obnds]
 show Sim d (rem s) (if wordR s [strategyW] then _ else _) (if wordR s [strategyW] then _ else _)
 cases hb : wordR s [strategyW] with
 | true =>
   have hk : s.kind = 2 := by unfold wordR at hb; simp at hb; omega
   obtain ⟨s', e1, e2, e3⟩ := h.next (by omega)
   simp only [if_true]
   rw [nextE_of e1, Out.bind_ok, wordG_dec e2, obnds]
   by_cases hc : s'.kind = 2 ∧ idxL strategyL s'.text ≠ -1
   ·have hr := idx_rng strategyL s'.text
    rw [if_pos hc, if_neg (show ¬ (idxL strategyL s'.text + 0 = -1) by omega), word_idx _ hc.1, decide_eq_true hc.2, if_pos rfl]
    obtain ⟨s2, f1, f2, f3⟩ := e2.next (by omega)
    rw [textE, if_pos hc.1, nextE_of f1]
    simp only [Out.map_ok, Int.add_zero]
    exact sim_ok f2 (by first | omega | (simp only at *; omega))
   ·have hw : wordR s' strategyL = false := by
     by_cases h2 : s'.kind = 2
     ·rw [word_idx _ h2, decide_eq_false_iff_not]
      exact fun e => hc ⟨h2, e⟩
     ·unfold wordR
      simp [h2]
    rw [if_neg hc, if_pos rfl, hw, if_neg (by simp), wrongG, e2.now]
    exact ⟨_, _, rfl, e2.dead 3 s'.pos (by decide)⟩
 | false =>
   simp only [Bool.false_eq_true, if_false]
   exact sim_ok h (Int.le_refl _)
theorem dd_strat (h : Dd p) : DD p (stratG p) := by
 unfold stratG
 exact dd_is h DD.some
/-- Where the text is not too long, the reference's parser gives what the program's reader gives. -/
theorem sim_query {t : B} (ht : t.size ≤ 400) : match queryE 500 ⟨t, 0, 0, E0, 0⟩ with
 | .ok r => ∃ p, queryG (toksT t 0) = some (p, r.2) ∧ p.e = 0
 | .err f => ∃ p q, queryG (toksT t 0) = some (p, q) ∧ p.e = f.2 ∧ p.fail = f.1 ∧ f.2 ≠ 0
 | .no => False := by
 have hl := lexP_rng (s := t) (i := 0) (Nat.zero_le _)
 have hR : Rel 0 ⟨t, (lexP t 0).2, (lexP t 0).1.kind, (lexP t 0).1.text, (lexP t 0).1.pos⟩ ⟨toksT t 0, 0, 0, 0, 0⟩ := ⟨rfl, rfl, Int.le_refl _, by have := toksT_len t.size t 0 (Nat.zero_le _) (by omega); simp only; omega, ht, ⟨hl.1, hl.2.1⟩, ⟨hl.2.2.1, hl.2.2.2.1⟩, lexP_dig, lexP_nam, by
  show List.drop 0 (toksT t 0) = _
  rw [List.drop_zero, toksT_eq (Nat.zero_le _)]
  rfl⟩
 have hn : nextE ⟨t, 0, 0, E0, 0⟩ = .ok ⟨t, (lexP t 0).2, (lexP t 0).1.kind, (lexP t 0).1.text, (lexP t 0).1.pos⟩ := by
  refine nextE_of ?_
  rw [nextR, if_pos ⟨⟨Int.le_refl _, by simp⟩, by simp only; omega⟩]
  rfl
 have hr := hR.rem0
 have main : Sim 0 (rem ⟨t, (lexP t 0).2, (lexP t 0).1.kind, (lexP t 0).1.text, (lexP t 0).1.pos⟩) (queryE 500 ⟨t, 0, 0, E0, 0⟩) (queryG (toksT t 0)) := by
  unfold queryE queryG
  rw [hn, Out.bind_ok]
  refine Sim.bind (sim_altN 500 0 _ _ false hR (by omega) (Int.le_refl _) (by omega) rfl) (fun s2 p2 y hR2 hm2 => ?_) (fun p' y hd => ?_)
  ·have hr2 := hR2.rem0
   have tl : ∀ (g : Glob) (s3 : Rdr) (p3 : Pst), Rel 0 s3 p3 → rem s3 ≤ rem s2 → Sim 0 (rem ⟨t, (lexP t 0).2, (lexP t 0).1.kind, (lexP t 0).1.text, (lexP t 0).1.pos⟩) ((filtLoopE 500 s3 []).bind fun f => (stratE f.1).bind fun z => if z.1.kind = 0 then .ok (z.1, (⟨y, g, f.2, z.2⟩ : Qry)) else .err (z.1.pos, 3))
    ((filtLoopG 500 p3 []).bind fun f => (stratG f.1).bind fun z => (kindG z.1 101).bind fun b => if b ∨ z.1.e ≠ 0 then some (z.1, (⟨y, g, f.2, z.2⟩ : Qry)) else (wrongG z.1).map fun w => (w, ⟨y, g, f.2, z.2⟩)) := by
    intro g s3 p3 hR3 hm3
    have hr3 := hR3.rem0
    refine Sim.bind (sim_filtLoop 500 s3 p3 [] hR3 (by omega)) (fun s4 p4 y4 hR4 hm4 => ?_) (fun p' y hd => ?_)
    ·refine Sim.bind (sim_strat hR4) (fun s5 p5 y5 hR5 hm5 => ?_) (fun p' y hd => ?_)
     ·simp only
      rw [kind_dec hR5, obnds]
      have hk := kR_eq hR5.kind
      by_cases hz : s5.kind = 0
      ·rw [if_pos hz, if_pos (.inl (by rw [decide_eq_true_eq]; exact hk.1.2 hz))]
       exact sim_ok hR5 (by first | omega | (simp only at *; omega))
      ·rw [if_neg hz, if_neg (by
        rw [not_or]
        refine ⟨?_, by simp [hR5.e]⟩
        rw [decide_eq_true_eq, hk.1]
        exact hz), wrongG, hR5.now]
       exact ⟨_, _, rfl, hR5.dead 3 s5.pos (by decide)⟩
     ·simp only
      refine dd_kind hd ?_
      rw [if_pos (.inr hd.e)]
      exact DD.some
    ·refine DD.bind (dd_strat hd) fun y => ?_
     simp only
     refine dd_kind hd ?_
     rw [if_pos (.inr hd.e)]
     exact DD.some
   refine sim_take hR2 (fun hs s' hR hm => ?_) (fun hs => ?_)
   ·have hr3 := hR.rem0
    simp only [if_true]
    refine Sim.bind (sim_glob s' _ hR (by omega)) (fun s3 p3 y3 hR3 hm3 => ?_) (fun p' y hd => ?_)
    ·exact tl y3 s3 p3 hR3 (by simp only at *; omega)
    ·refine DD.bind (dd_filtLoop hd (by decide)) fun y => DD.bind (dd_strat hd) fun y => ?_
     simp only
     refine dd_kind hd ?_
     rw [if_pos (.inr hd.e)]
     exact DD.some
   ·simp only [Bool.false_eq_true, if_false, Out.bind_ok, obnds]
    exact tl GlobE s2 p2 hR2 (Int.le_refl _)
  ·refine dd_eatb hd ?_
   simp only [Bool.false_eq_true, if_false, obnds]
   refine DD.bind (dd_filtLoop hd (by decide)) fun y => DD.bind (dd_strat hd) fun y => ?_
   simp only
   refine dd_kind hd ?_
   rw [if_pos (.inr hd.e)]
   exact DD.some
 cases hE : queryE 500 ⟨t, 0, 0, E0, 0⟩ with
 | ok r =>
   rw [hE] at main
   obtain ⟨p, h1, h2, _⟩ := main
   exact ⟨p, h1, h2.e⟩
 | err f =>
   rw [hE] at main
   obtain ⟨p, y, h1, h2⟩ := main
   exact ⟨p, y, h1, h2.e, h2.fail, h2.ne⟩
 | no => rw [hE] at main; exact main.elim
/-- The program's Parse (as a function) is the reference's. -/
def parseP (s : B) : Option (Qry × Int × Int) := if 400 < s.size then some (qryZ, 0, 2) else match queryE 500 ⟨s, 0, 0, E0, 0⟩ with
 | .ok r => some (r.2, 0, 0)
 | .err f => some (qryZ, f.1, f.2)
 | .no => none
theorem parse_same (s : B) : ∃ r, parseG s = some r ∧ parseP s = some r := by
 unfold parseG parseP
 by_cases h : 400 < s.size
 ·rw [if_pos h, if_pos h]
  exact ⟨_, rfl, rfl⟩
 ·rw [if_neg h, if_neg h, scanG_eq, obnds]
  have := sim_query (t := s) (by omega)
  cases hE : queryE 500 ⟨s, 0, 0, E0, 0⟩ with
  | ok r =>
    rw [hE] at this
    obtain ⟨p, h1, h2⟩ := this
    refine ⟨(r.2, 0, 0), ?_, rfl⟩
    rw [h1, Option.map_some, if_neg (by simp [h2])]
  | err f =>
    rw [hE] at this
    obtain ⟨p, q, h1, h2, h3, h4⟩ := this
    refine ⟨(qryZ, f.1, f.2), ?_, rfl⟩
    rw [h1, Option.map_some, if_pos (by rw [h2]; exact h4), h2, h3]
  | no => rw [hE] at this; exact this.elim
end
end Go.Gv

namespace Go.Gv
open Cod (enc dec)
variable {S S0 : Nat → Spc}
def dgB (c : Int) : Bool := decide (48 ≤ c ∧ c ≤ 57)
abbrev s_isDigit : Spc := spc (a1 U8) (fun _ => True) (enc (X := Bool)) fun x y => y = dgB x.val
theorem w_isLetter : Walk cc_r23_isLetter rs_r23_isLetter S (a1 U8) (fun _ => True) (enc (X := Bool)) fun x y => y = begB x.val := by
 rintro ⟨c⟩ -
 simp [cc_r23_isLetter, rs_r23_isLetter, begB]
 repeat' first | apply And.intro | intro _
 all_goals first | omega | (rw [Bool.eq_iff_iff]; simp; omega)
theorem w_isDigit : Walk cc_r23_isDigit rs_r23_isDigit S (a1 U8) (fun _ => True) (enc (X := Bool)) fun x y => y = dgB x.val := by
 rintro ⟨c⟩ -
 simp [cc_r23_isDigit, rs_r23_isDigit, dgB]
 repeat' first | apply And.intro | intro _
 all_goals first | omega | (rw [Bool.eq_iff_iff]; simp; omega)
abbrev s_signs : Spc := spc a0 (fun _ => True) (enc (X := List B)) fun _ y => y = signsL
theorem w_signs : Walk cc_r23_signs rs_r23_signs S a0 (fun _ => True) (enc (X := List B)) fun _ y => y = signsL := by
 rintro x -
 simp [cc_r23_signs, rs_r23_signs]
 exact fin_of signsL (.same _) rfl
theorem isSp_at {s : B} {i : Nat} {c : UInt8} (h : s.data[i]? = some c) : isSp s i = decide (c.toNat = 32 ∨ c.toNat = 10) := by rw [isSp, h]
theorem isDg_at {s : B} {i : Nat} {c : UInt8} (h : s.data[i]? = some c) : isDg s i = decide (48 ≤ c.toNat ∧ c.toNat ≤ 57) := by rw [isDg, h]
theorem byte_at {s : B} {i : Nat} (h : i < s.size) : ∃ c, s.data[i]? = some c := ⟨s.data[i], Array.getElem?_eq_getElem h⟩
theorem skipF_le (s : B) : ∀ (n i : Nat), s.size - i = n → i ≤ s.size → i ≤ skipF s i ∧ skipF s i ≤ s.size
 | 0, i, h, hi => by rw [skipF_end (by omega)]; omega
 | n + 1, i, h, hi => by
   rw [skipF_step (by omega)]
   split
   ·have := skipF_le s n (i + 1) (by omega) (by omega); omega
   ·omega
end Go.Gv

namespace Go.Gv
open Cod (enc dec)
variable {S S0 : Nat → Spc}
theorem isNm_at {s : B} {i : Nat} {c : UInt8} (h : s.data[i]? = some c) : isNm s i = (begB c.toNat || dgB c.toNat || decide ((c.toNat : Int) = 45)) := by
 unfold isNm letB begB dgB
 rw [h, Bool.eq_iff_iff]
 simp
 omega
theorem namF_end {s : B} {i : Nat} (h : s.size ≤ i) : namF s i = i := by
 unfold namF
 rw [show s.size - i = 0 by omega, namN]
theorem letB_beg (c : UInt8) : letB c.toNat = begB (c.toNat : Int) := by unfold letB begB; rw [Bool.eq_iff_iff]; simp; omega
/-- quoG without the measure -/
theorem quoNG_fue : ∀ (a b : Nat) (s : B) (j : Nat) (v : B), s.size - j ≤ a → s.size - j ≤ b → quoNG a s j v = quoNG b s j v
 | 0, 0, _, _, _, _, _ => rfl
 | 0, b + 1, s, j, v, h, _ => by
   rw [quoNG, quoNG]
   have : s.data[j]? = none := Array.getElem?_eq_none (by show s.size ≤ j; omega)
   rw [this]
 | a + 1, 0, s, j, v, _, h => by
   rw [quoNG, quoNG]
   have : s.data[j]? = none := Array.getElem?_eq_none (by show s.size ≤ j; omega)
   rw [this]
 | a + 1, b + 1, s, j, v, ha, hb => by
   rw [quoNG, quoNG]
   split
   ·rfl
   ·split
    ·split
     ·split
      ·exact quoNG_fue a b s _ _ (by omega) (by omega)
      ·rfl
     ·rfl
    ·exact quoNG_fue a b s _ _ (by omega) (by omega)
theorem quoG_stp {s : B} {j : Nat} {v : B} {c : UInt8} (h : s.data[j]? = some c) : quoG s j v = if c.toNat = 34 then (match s.data[j + 1]? with
 | some d => if d.toNat = 34 then quoG s (j + 2) (v ++ s.extract (j + 1) (j + 2)) else some (j, v)
 | none => some (j, v)) else quoG s (j + 1) (v ++ s.extract j (j + 1)) := by
 have hj : j < s.size := (Array.getElem?_eq_some_iff.1 h).1
 unfold quoG
 rw [show s.size - j = (s.size - (j + 1)) + 1 by omega, quoNG, h]
 simp only
 split
 ·cases hd : s.data[j + 1]? with
  | none => rfl
  | some d =>
    have hj2 : j + 1 < s.size := (Array.getElem?_eq_some_iff.1 hd).1
    simp only
    split
    ·exact quoNG_fue _ _ s _ _ (by omega) (by omega)
    ·rfl
 ·rfl
theorem quoG_en {s : B} {j : Nat} {v : B} (h : s.size ≤ j) : quoG s j v = none := by
 unfold quoG
 rw [show s.size - j = 0 by omega, quoNG]
abbrev s_gscan : Spc := spc (a1 B) (fun s => s.size ≤ 100000) (enc (X := List Tok)) fun s y => scanG s = some y
theorem w_g_scan (h1 : S f_r23_isLetter = s_begins) (h2 : S f_r23_isDigit = s_isDigit) (h3 : S f_r23_signs = s_signs) : Walk cc_r23_scan rs_r23_scan S (a1 B) (fun s => s.size ≤ 100000) (enc (X := List Tok)) fun s y => scanG s = some y := by
 rintro s hsz
 have hsz : s.size ≤ 100000 := hsz
 obtain ⟨fin, hfin0⟩ : ∃ fin, scanG s = some fin := ⟨_, scanG_eq s⟩
 have hfin := hfin0
 unfold scanG at hfin
 simp [cc_r23_scan, rs_r23_scan]
 refine vc_while (X := Nat × Nat × Value × List Tok) [0] [] (fun z => scanNG z.1 s z.2.1 z.2.2.2 = some fin ∧ z.2.1 ≤ s.size ∧ z.2.2.2.length ≤ z.2.1) (fun z => [(3, .own 200 z.2.2.1), (4, enc (z.2.1 : Int))]) (fun z => [(200, .row z.2.2.1 ty_corporaref23_token 3 (z.2.2.2.map enc))]) (fun z => z.1) (s.size + 1, 0, .slice none 0 0, []) ⟨hfin, by simp, by simp⟩ (by simp) (by simp [isNilRow]) ?_
 clear hfin
 rintro ⟨k, i, v, out⟩ ⟨hk, hi, hlen⟩
 simp only at hk hi hlen
 obtain _ | k := k
 ·rw [scanNG] at hk; cases hk
 rw [scanNG] at hk
 simp
 refine vc_mid (X := Unit) [0, 3] [200] (fun _ => True) (fun _ => [(4, enc ((skipF s i : Nat) : Int))]) (fun _ => []) ?_ ?_
 ·simp
  refine vc_while (X := Nat) [0, 3] [200] (fun j => i ≤ j ∧ j ≤ s.size ∧ skipF s j = skipF s i) (fun j => [(4, enc (j : Int))]) (fun _ => []) (fun j => s.size - j) i ⟨Nat.le_refl _, hi, rfl⟩ (by simp) (by simp) ?_
  rintro j ⟨j0, j1, j2⟩
  simp
  refine fun _ => ⟨fun hj => ⟨hj, fun c hc => ⟨fun h32 => ⟨hj, fun c' hc' => ?_⟩, fun h32 => ?_⟩⟩, fun hj => ?_⟩
  ·rw [hc] at hc'
   cases hc'
   have hst := skipF_step hj
   rw [isSp_at hc] at hst
   refine ⟨fun h10 => ⟨by simp only [InR]; omega, j + 1, ⟨by omega, by omega, ?_⟩, by omega, by omega⟩, fun h10 => ?_⟩
   ·rw [← j2, hst, if_pos (by simp; omega)]
   ·rw [← j2, hst, if_neg (by simp; omega)]
  ·have hst := skipF_step hj
   rw [isSp_at hc] at hst
   refine ⟨by simp only [InR]; omega, j + 1, ⟨by omega, by omega, ?_⟩, by omega, by omega⟩
   rw [← j2, hst, if_pos (by simp; omega)]
  ·rw [← j2, skipF_end hj]
 rintro - -
 have hsk := skipF_le s _ i rfl hi
 generalize hi' : skipF s i = i' at hk hsk
 simp
 refine fun _ => ⟨fun he => ⟨by omega, by omega, fun v' => ?_⟩, fun hne => ?_⟩
 ·rw [if_pos (by omega)] at hk
  refine fin_of fin (fz_o ty_corporaref23_token ?_) hfin0
  cases hk
  rw [show (i' : Int) = (s.size : Int) by omega]
  simp [E0]
 rw [if_neg (by omega)] at hk
 have none_fin : tokG s i' = none → fin = out ++ [⟨120, E0, i'⟩] := fun h => by rw [h] at hk; exact (Option.some.inj hk).symm
 refine vc_mid (X := Nat × Tok × Value) [0] [] (fun z => tokG s i' = some (z.1, z.2.1)) (fun z => [(5, enc (z.1 : Int)), (3, .own 200 z.2.2)]) (fun z => [(200, .row z.2.2 ty_corporaref23_token 3 ((out ++ [z.2.1]).map enc))]) ?_ ?_
 ·obtain ⟨c, hc⟩ := byte_at (s := s) (i := i') (by omega)
  unfold tokG at none_fin ⊢
  simp only [hc, letB_beg] at none_fin ⊢
  simp [h1, h2, hc]
  clear hk
  refine ⟨by omega, fun hL => ?_, fun hL => ?_⟩
  ·refine vc_while (X := Nat) [0, 3, 4] [200] (fun j => i' ≤ j ∧ j ≤ s.size ∧ namF s j = namF s i') (fun j => [(5, enc (j : Int))]) (fun _ => []) (fun j => s.size - j) i' ⟨Nat.le_refl _, by omega, rfl⟩ (by simp) (by simp) ?_
   rintro j ⟨j0, j1, j2⟩
   have go : ∀ c : UInt8, s.data[j]? = some c → isNm s j = true → InR .i64 ((j : Int) + 1) ∧ ∃ y, (i' ≤ y ∧ y ≤ s.size ∧ namF s y = namF s i') ∧ (j : Int) + 1 = y ∧ s.size - y < s.size - j := fun c hc hn => by
    have hj : j < s.size := (Array.getElem?_eq_some_iff.1 hc).1
    refine ⟨by simp only [InR]; omega, j + 1, ⟨by omega, by omega, ?_⟩, by omega, by omega⟩
    rw [← j2, namF_step hj, hn, if_pos rfl]
   have stop : namF s j = j → namF s i' = j := fun h => by rw [← j2, h]
   simp [h1, h2, hL]
   refine fun _ => ⟨fun hj => ⟨hj, fun c hc => ⟨fun b1 => ⟨hj, fun c2 hc2 => ⟨fun b2 => ⟨hj, fun c3 hc3 => ⟨fun b3 => ?_, fun b3 => ?_⟩⟩, fun b2 => ?_⟩⟩, fun b1 => ?_⟩⟩, fun hj => ?_⟩
   ·rw [hc] at hc3
    cases hc3
    exact go c hc (by rw [isNm_at hc, decide_eq_true b3]; simp)
   ·rw [hc] at hc3 hc2
    cases hc3
    cases hc2
    have e := stop (by rw [namF_step hj, isNm_at hc, b1, b2, decide_eq_false b3]; rfl)
    exact ⟨j0, j1, by omega, by omega, fun v => ⟨_, _, ⟨rfl, rfl⟩, v, ⟨by rw [e], rfl⟩, .inl ⟨rfl, rfl, by rw [e], rfl⟩⟩⟩
   ·rw [hc] at hc2
    cases hc2
    exact go c hc (by rw [isNm_at hc, b2]; simp)
   ·exact go c hc (by rw [isNm_at hc, b1]; simp)
   ·have e := stop (namF_end hj)
    exact ⟨j0, j1, by omega, by omega, fun v => ⟨_, _, ⟨rfl, rfl⟩, v, ⟨by rw [e], rfl⟩, .inl ⟨rfl, rfl, by rw [e], rfl⟩⟩⟩
  ·simp [hL] at none_fin ⊢
   refine ⟨by omega, fun hD => ?_, fun hD => ?_⟩
   ·have hD' : 48 ≤ c.toNat ∧ c.toNat ≤ 57 := by unfold dgB at hD; simp at hD; omega
    simp only [hD', if_true, and_self] at none_fin ⊢
    refine vc_while (X := Nat) [0, 3, 4] [200] (fun j => i' ≤ j ∧ j ≤ s.size ∧ digF s j = digF s i') (fun j => [(5, enc (j : Int))]) (fun _ => []) (fun j => s.size - j) i' ⟨Nat.le_refl _, by omega, rfl⟩ (by simp) (by simp) ?_
    rintro j ⟨j0, j1, j2⟩
    have stop : digF s j = j → digF s i' = j := fun h => by rw [← j2, h]
    simp [h1, h2, hL]
    refine fun _ => ⟨fun hj => ⟨hj, fun c2 hc2 => ⟨fun b1 => ?_, fun b1 => ?_⟩⟩, fun hj => ?_⟩
    ·refine ⟨by simp only [InR]; omega, j + 1, ⟨by omega, by omega, ?_⟩, by omega, by omega⟩
     have hst := digF_step hj
     rw [isDg_at hc2, decide_eq_true (by unfold dgB at b1; simp at b1; omega), if_pos rfl] at hst
     rw [← j2, hst]
    ·have e := stop (by
      have hst := digF_step hj
      rw [isDg_at hc2, decide_eq_false (by unfold dgB at b1; simp at b1; omega), if_neg (by simp)] at hst
      exact hst)
     exact ⟨j0, j1, by omega, by omega, fun v => ⟨_, _, ⟨rfl, rfl⟩, v, ⟨by rw [e], rfl⟩, .inl ⟨rfl, rfl, by rw [e], rfl⟩⟩⟩
    ·have e := stop (digF_end hj)
     exact ⟨j0, j1, by omega, by omega, fun v => ⟨_, _, ⟨rfl, rfl⟩, v, ⟨by rw [e], rfl⟩, .inl ⟨rfl, rfl, by rw [e], rfl⟩⟩⟩
   ·refine ⟨by omega, fun hQ => ⟨by simp only [InR]; omega, ?_⟩, fun hQ => ?_⟩
    ·have hcq : ¬ (48 ≤ c.toNat ∧ c.toNat ≤ 57) := by omega
     have hq34 : c.toNat = 34 := by omega
     simp only [hcq, hq34, if_true, if_false] at none_fin ⊢
     refine vc_while (X := Nat × B) [0, 3, 4] [200] (fun z => quoG s z.1 z.2 = quoG s (i' + 1) ⟨#[]⟩ ∧ z.1 ≤ s.size ∧ i' < z.1 ∧ z.2.size ≤ z.1) (fun z => [(5, enc (z.1 : Int)), (6, enc z.2), (7, enc false)]) (fun _ => []) (fun z => s.size - z.1) (i' + 1, ⟨#[]⟩) ⟨rfl, by omega, by omega, Nat.zero_le _⟩ (by simp) (by simp) ?_
     rintro ⟨j, u⟩ ⟨j0, j1, j2, j3⟩
     simp only at j0 j1 j2 j3
     simp
     clear h1 h2 h3
     refine fun _ => ⟨fun hj => ⟨hj, fun d hd => ⟨fun h34 => ⟨by simp only [InR]; omega, fun _ => ⟨fun hj1 => ⟨by simp only [InR]; omega, by omega, hj1, fun d' hd' => ⟨fun hd34 => ?_, fun hd34 => ?_⟩⟩, fun hj1 => ?_⟩⟩, fun h34 => ?_⟩⟩, fun hj => ?_⟩
     ·rw [quoG_stp hd, if_pos (by omega), hd'] at j0
      simp only at j0
      rw [if_pos (by omega)] at j0
      have et : ((j : Int) + 1 + 1).toNat = j + 2 := by omega
      rw [et]
      refine ⟨by simp only [InR]; omega, by simp only [InR]; omega, by omega, by omega, by omega, by omega, by simp only [InR]; omega, j + 2, _, ⟨j0, by omega, by omega, ?_⟩, ⟨by omega, rfl⟩, by omega⟩
      rw [ByteArray.size_append, ByteArray.size_extract]
      omega
     ·have hq : quoG s (i' + 1) ⟨#[]⟩ = some (j, u) := by
       rw [← j0, quoG_stp hd, if_pos (by omega), hd']
       simp only
       rw [if_neg (by omega)]
      exact ⟨by simp only [InR]; omega, by omega, by omega, fun v => ⟨_, _, ⟨j, u, hq, rfl, rfl⟩, v, ⟨by omega, rfl⟩, .inl ⟨rfl, rfl, rfl, rfl⟩⟩⟩
     ·have hn : s.data[j + 1]? = none := Array.getElem?_eq_none (by show s.size ≤ j + 1; omega)
      have hq : quoG s (i' + 1) ⟨#[]⟩ = some (j, u) := by
       rw [← j0, quoG_stp hd, if_pos (by omega), hn]
      exact ⟨by simp only [InR]; omega, by omega, by omega, fun v => ⟨_, _, ⟨j, u, hq, rfl, rfl⟩, v, ⟨by omega, rfl⟩, .inl ⟨rfl, rfl, rfl, rfl⟩⟩⟩
     ·rw [quoG_stp hd, if_neg (by omega)] at j0
      refine ⟨by simp only [InR]; omega, by omega, by omega, by omega, by simp only [InR]; omega, j + 1, _, ⟨j0, by omega, by omega, ?_⟩, ⟨by omega, rfl⟩, by omega⟩
      rw [ByteArray.size_append, ByteArray.size_extract]
      omega
     ·have hq : quoG s (i' + 1) ⟨#[]⟩ = none := by rw [← j0, quoG_en hj]
      have hf := none_fin (by simp [hq])
      refine ⟨by omega, by omega, fun v => fin_of fin (fz_o ty_corporaref23_token ?_) hfin0⟩
      rw [hf]
      simp [E0]
    ·have hcq : ¬ (48 ≤ c.toNat ∧ c.toNat ≤ 57) := by unfold dgB at hD; simp at hD; omega
     have hq34 : ¬ c.toNat = 34 := by omega
     simp only [hcq, hq34, if_false] at none_fin ⊢
     simp [h3]
     rintro -
     refine vc_range (X := Unit) [0, 3, 4, 5, 38] [200] signsL.length (fun k _ => signsL.find? (preB s i') = (signsL.drop k).find? (preB s i')) (fun _ => []) (fun _ => []) () (by simp) (by simp) (by decide) (by simp) (by simp) (by simp) (by simp) (by simp) ?_ ?_
     ·rintro m - hm hP
      obtain ⟨y, hy⟩ := at_lt hm
      obtain ⟨_, hgy⟩ := List.getElem?_eq_some_iff.1 hy
      have hys := signs_size y (mem_at hy)
      rw [drop_cons_of hy, List.find?_cons] at hP
      have hpre : preB s i' y = decide (i' + y.size ≤ s.size ∧ s.extract i' (i' + y.size) = y) := rfl
      have e1 : ((i' : Int) + (y.size : Int)).toNat = i' + y.size := by omega
      simp [hm, hy, hgy, e1]
      clear h1 h2 h3
      refine fun _ => ⟨by simp only [InR]; omega, fun _ => ⟨fun hle _ => ⟨by simp only [InR]; omega, by omega, by omega, fun hex _ => ⟨by simp only [InR]; omega, fun hz => by omega, fun _ => ?_⟩, fun hex => ?_⟩, fun hlt => ?_⟩⟩
      ·rw [hpre, decide_eq_true ⟨by omega, hex⟩] at hP
       exact ⟨by omega, by omega, by omega, by omega, fun v => ⟨_, _, ⟨y, hP, rfl, rfl⟩, v, ⟨by omega, rfl⟩, .inl ⟨rfl, rfl, rfl, rfl⟩⟩⟩
      ·rw [hpre, decide_eq_false (fun h => hex h.2)] at hP
       exact hP
      ·rw [hpre, decide_eq_false (fun h => by have := h.1; omega)] at hP
       exact hP
     ·rintro - hP
      rw [List.drop_length] at hP
      have hf := none_fin (by rw [hP]; rfl)
      simp
      refine ⟨by omega, by omega, fun v => fin_of fin (fz_o ty_corporaref23_token ?_) hfin0⟩
      rw [hf]
      simp [E0]
 ·rintro ⟨j, t, v'⟩ ht
  simp only at ht
  rw [ht] at hk
  simp only at hk
  split at hk
  ·rename_i hj
   simp
   exact ⟨k, j, v', out ++ [t], ⟨hk, hj.1, by simp; omega⟩, ⟨⟨rfl, rfl⟩, .inl ⟨rfl, by simp⟩⟩, by omega⟩
  ·cases hk
end Go.Gv

namespace Go.Gv
open Go.Proofs
-- r23_Parse while id=0: live [2:, 5:p, 6:q] changed [] res [0, 2, 6, 16, 55]
def cc_r23_ParseE : CC := oX [oB 2 (.alloc ty_Query [oi,oi,oe,oe,oe,oe,ob,on,oe,oe,oi,oi,on,oi,oe,oe,oe,oe,oe,ob,oi,oi,on,on,on,oi]),oB 3 (.mv (oN 0)),oB 4 (.mv (oN 0))] [0,2] [0,2,16,55] (.seq (oX [oA 9 0,oB 10 (.slen (oT 9)),oB 11 (.cmp .gtr (oT 10) (oN 400))] [0,2,11] [0,2,16,55] (.ite (oT 11) (oX [
 oB 12 (.build [oi,oi,oe,oe,oe,oe,ob,on,oe,oe,oi,oi,on,oi,oe,oe,oe,oe,oe,ob,oi,oi,on,on,on,oi] []),.op none none (.store (some 2) 26 (oT 2) (oT 12)),oB 3 (.mv (oN 0)),oB 4 (.mv (oN 2))] [2,3,4] [0,2,16,55] (.ret)) (.skip))) (.keep [0,2] [0,2,16,55] (oX [oA 13 0,oZ 14 f_r23_scan [oT 13],oB 15 (.build [on,oi,oi,oi,oi] [(0,1,oT 14)]),oB 16 (.box ty_corporaref23_parser false (oT 15)),
 oA 5 16] [2,5] [0,2,16,55] (oX [oA 17 5,oZ 18 f_r23_parser_alt [oT 17],oB 19 (.build [oi,oi,oe,oe,oe,oe,ob,on,oe,oe,oi,oi,on,oi,oe,oe,oe,oe,oe,ob,oi,oi,on,on,on,oi] [(0,13,oT 18)]),oB 6 (.alloc ty_Query [oi,oi,oe,oe,oe,oe,ob,on,oe,oe,oi,oi,on,oi,oe,oe,oe,oe,oe,ob,oi,oi,on,on,on,oi]),oF 26 6 19] [2,5,6] [0,2,6,16,55] (seqM 6 (oX [oA 20 5,
 oZ 21 f_r23_parser_eat [oT 20,oS ⟨#[58,58]⟩]] [2,5,6,21] [0,2,6,16,55] (.ite (oT 21) (.reg [oA 22 5,oZ 23 f_r23_parser_gor [oT 22],oE 24 13 6,oF 11 24 23]) (.skip))) (.keep [2,5,6] [0,2,6,16,55] (seqM 8 (.block 0 (.loop 1 (.seq (oX [oA 25 5,oG 26 25,oE 27 3 26,oC 28 1 27,oB 29 (.eql false false [.int] (oT 28) (oN 0))] [2,5,6,29] [0,2,6,16,55] (.ite (oT 29) (.skip) (.exit 0)))
 (.keep [2,5,6] [0,2,6,16,55] (.block 1 (oX [oA 30 5,oZ 31 f_r23_parser_eat [oT 30,oS ⟨#[33]⟩],oA 7 31] [2,5,6,7] [0,2,6,16,55] (oX [oA 32 5,oZ 33 f_r23_filters [],oZ 34 f_r23_parser_word [oT 32,oT 33,oN 1],oA 8 34] [2,5,6,7,8] [0,2,6,16,55] (.seq (oX [oA 35 8,oB 36 (.eql false false [.int] (oT 35) (oN (-1)))] [2,5,6,7,8,36] [0,2,6,16,55] (.ite (oT 36) (.seq (oX [
 oA 37 7] [2,5,6,37] [0,2,6,16,55] (.ite (oT 37) (.reg [oA 38 5,oZ 39 f_r23_parser_wrong [oT 38]]) (.skip))) (.keep [2,5,6] [0,2,6,16,55] (.exit 0))) (.skip))) (.keep [2,5,6,7,8] [0,2,6,16,55] (oX [oA 40 5,oG 41 40,oE 42 1 41,oC 43 1 42,oB 44 (.arith .add (oT 43) (oN 1)),oG 45 40,oE 46 1 45,oF 1 46 44] [2,5,6,7,8] [0,2,6,16,55] (.regd [oE 47 24 6,oC 48 1 47,oA 49 8,oA 50 7,oA 51 5,
 oB 52 (.callb 16 f_r23_parser_want [oT 51,.const (.int .u8 110),oS ⟨#[]⟩]),oB 53 (.build [oi,ob,oe] [(0,1,oT 49),(1,1,oT 50),(2,1,oT 52)]),oB 54 (.bslice ty_Filter 3 [oT 53])] [oB 55 (.append (some 55) ty_Filter 3 32 (oT 48) (oT 54)),oE 56 24 6,.op none none (.store (some 6) 1 (oT 56) (oT 55))]))))))))))) (.keep [2,5,6] [0,2,6,16,55] (seqM 18 (oX [oA 57 5,
 oZ 58 f_r23_parser_is [oT 57,.const (.int .u8 110),oS ⟨#[115,116,114,97,116,101,103,121]⟩]] [2,5,6,58] [0,2,6,16,55] (.ite (oT 58) (oX [oA 59 5,oG 60 59,oE 61 1 60,oC 62 1 61,oB 63 (.arith .add (oT 62) (oN 1)),oG 64 59,oE 65 1 64,oF 1 65 63] [2,5,6] [0,2,6,16,55] (oX [oA 66 5,oZ 67 f_r23_strategies [],oZ 68 f_r23_parser_word [oT 66,oT 67,oN 0],oE 69 25 6,
 oF 1 69 68] [2,5,6] [0,2,6,16,55] (oX [oE 70 25 6,oC 71 1 70,oB 72 (.eql false false [.int] (oT 71) (oN (-1)))] [2,5,6,72] [0,2,6,16,55] (.ite (oT 72) (.reg [oA 73 5,oZ 74 f_r23_parser_wrong [oT 73]]) (.reg [oA 75 5,oG 76 75,oE 77 1 76,oC 78 1 77,oB 79 (.arith .add (oT 78) (oN 1)),oG 80 75,oE 81 1 80,oF 1 81 79]))))) (.skip))) (.keep [2,5,6] [0,2,6,16,55] (seqM 23 (oX [oA 82 5,
 oG 83 82,oE 84 3 83,oC 85 1 84,oB 86 (.eql false false [.int] (oT 85) (oN 0)),oA 87 86,oH 88 87 (.mv (oT 5)),oH 89 87 (.call f_r23_parser_now [oT 88]),oH 90 87 (.fld false 1 0 (oT 89)),oH 91 87 (.eql true false [.int] (oT 90) (.const (.int .u8 101))),oB 92 (.pick (oT 87) (oT 91) (.const ob))] [2,5,6,92] [0,2,6,16,55] (.ite (oT 92) (.reg [oA 93 5,oZ 94 f_r23_parser_wrong [oT 93]])
 (.skip))) (.keep [2,5,6] [0,2,6,16,55] (.seq (oX [oA 95 5,oG 96 95,oE 97 3 96,oC 98 1 97,oB 99 (.eql true false [.int] (oT 98) (oN 0))] [2,5,6,99] [0,2,6,16,55] (.ite (oT 99) (.seq (.regd [oB 100 (.build [oi,oi,oe,oe,oe,oe,ob,on,oe,oe,oi,oi,on,oi,oe,oe,oe,oe,oe,ob,oi,oi,on,on,on,oi] []),oA 101 5,oG 102 101,oE 103 4 102,oC 104 1 103,oA 105 5,oG 106 105,oE 107 3 106,oC 108 1 107,
 .op none none (.store (some 2) 26 (oT 2) (oT 100)),oA 3 104] [oA 4 108]) (.keep [2,3,4] [0,2,16,55] (.ret))) (.skip))) (.keep [2,6] [0,2,6,16,55] (oX [oD 109 26 6,.op none none (.store (some 2) 26 (oT 2) (oT 109)),oB 3 (.mv (oN 0)),oB 4 (.mv (oN 0))] [2,3,4] [0,2,16,55] (.ret))))))))))))))))
def rs_r23_ParseE : List CRes := [.cell 2 true 26, .tmp 3, .tmp 4]
def im_r23_ParseE : List Nat := [3052016, 1055055, 2056006, 2002002]
theorem ok_r23_ParseE : FnOk Tryz.prog f_r23_Parse im_r23_ParseE cc_r23_ParseE rs_r23_ParseE 110 := fnOk1 mixed (by kernel_rfl)

end Go.Gv
