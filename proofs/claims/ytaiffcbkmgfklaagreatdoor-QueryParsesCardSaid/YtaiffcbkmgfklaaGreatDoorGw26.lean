/- A part of the framework and of the walks: V22 V23. -/
import Derived.Test.YtaiffcbkmgfklaaGreatDoorGw25
set_option linter.unusedSimpArgs false
set_option linter.unusedVariables false

namespace Go.Gv
/-- The reader and the parser (at a depth d of parentheses) are at the same token, and nothing is wrong. -/
structure Rel (d : Int) (s : Rdr) (p : Pst) : Prop where
 e : p.e = 0
 deep : p.deep = d
 pos : 0 ≤ p.pos
 len : p.l.length ≤ 1000000
 size : s.txt.size ≤ 400
 kind : 0 ≤ s.kind ∧ s.kind ≤ 5
 fin : 0 ≤ s.fin ∧ s.fin ≤ s.txt.size
 dig : s.kind = 3 → digsB s.text = true
 nam : s.kind = 2 → s.text ≠ E0
 at_ : p.l.drop p.pos.toNat = ⟨kR s.kind, s.text, s.pos⟩ :: if s.kind < 2 then [] else toksT s.txt s.fin.toNat
/-- how many tokens may still come -/
def rem (s : Rdr) : Int := if s.kind < 2 then 0 else 1 + (s.txt.size - s.fin)
/-- The parser has met an error. -/
structure Dd (p : Pst) : Prop where
 e : p.e ≠ 0
 now : ∃ t, nowT p = some t
structure Dead (f : Int × Int) (d : Int) (p : Pst) : Prop where
 e : p.e = f.2
 fail : p.fail = f.1
 ne : f.2 ≠ 0
 deep : p.deep = d
 now : ∃ t, nowT p = some t
theorem Dead.dd {f : Int × Int} {d : Int} {p : Pst} (h : Dead f d p) : Dd p := ⟨by rw [h.e]; exact h.ne, h.now⟩
/-- With an error, nothing happens. -/
def DD {Y : Type} (p : Pst) (G : Option (Pst × Y)) : Prop := ∃ y, G = some (p, y)
/-- One computes what the other does; behind it not more than m tokens may come. -/
def Sim {Y : Type} (d m : Int) (E : Out (Rdr × Y)) (G : Option (Pst × Y)) : Prop := match E with
 | .ok r => ∃ p, G = some (p, r.2) ∧ Rel d r.1 p ∧ rem r.1 ≤ m
 | .err f => ∃ p y, G = some (p, y) ∧ Dead f d p
 | .no => False
section
variable {Y Z : Type} {d m : Int} {s : Rdr} {p : Pst}
theorem DD.bind {G : Option (Pst × Y)} {h : Pst × Y → Option (Pst × Z)} (h1 : DD p G) (h2 : ∀ y, DD p (h (p, y))) : DD p (G.bind h) := by
 obtain ⟨y, rfl⟩ := h1
 exact h2 y
theorem DD.some {y : Y} : DD p (some (p, y)) := ⟨y, rfl⟩
theorem sim_ok {y : Y} (h : Rel d s p) (hm : rem s ≤ m) : Sim d m (.ok (s, y)) (some (p, y)) := ⟨p, rfl, h, hm⟩
theorem sim_dead {f : Int × Int} {G : Option (Pst × Y)} (h : Dead f d p) (hd : DD p G) : Sim d m (.err f) G := by
 obtain ⟨y, rfl⟩ := hd
 exact ⟨p, y, rfl, h⟩
theorem Sim.mono {m' : Int} {E : Out (Rdr × Y)} {G : Option (Pst × Y)} (h : Sim d m E G) (hm : m ≤ m') : Sim d m' E G := by
 cases E with
 | ok r => obtain ⟨p, h1, h2, h3⟩ := h; exact ⟨p, h1, h2, by omega⟩
 | err f => exact h
 | no => exact h
theorem Sim.bind {m1 : Int} {E : Out (Rdr × Y)} {G : Option (Pst × Y)} {k : Rdr × Y → Out (Rdr × Z)} {h : Pst × Y → Option (Pst × Z)} (h1 : Sim d m1 E G)
 (h2 : ∀ s' p' y, Rel d s' p' → rem s' ≤ m1 → Sim d m (k (s', y)) (h (p', y))) (h3 : ∀ p' y, Dd p' → DD p' (h (p', y))) : Sim d m (E.bind k) (G.bind h) := by
 cases E with
 | ok r =>
   obtain ⟨p', rfl, hr, hm⟩ := h1
   exact h2 r.1 p' r.2 hr hm
 | err f =>
   obtain ⟨p', y, rfl, hr⟩ := h1
   obtain ⟨y', h4⟩ := h3 p' y hr.dd
   exact ⟨p', y', h4, hr⟩
 | no => exact h1.elim
/-! ### The present token -/
theorem Rel.now (h : Rel d s p) : nowT p = some ⟨kR s.kind, s.text, s.pos⟩ := by
 unfold nowT
 rw [if_pos ⟨h.pos, h.len⟩]
 have := congrArg (fun l => l[0]?) h.at_
 simpa using this
theorem Rel.dead (h : Rel d s p) (e a : Int) (he : e ≠ 0) : Dead (a, e) d (errS p e a) := by
 unfold errS
 rw [if_pos h.e]
 exact ⟨rfl, rfl, he, h.deep, ⟨_, h.now⟩⟩
theorem kR_eq {k : Int} (h : 0 ≤ k ∧ k ≤ 5) : (kR k = 101 ↔ k = 0) ∧ (kR k = 120 ↔ k = 1) ∧ (kR k = 110 ↔ k = 2) ∧ (kR k = 100 ↔ k = 3) ∧ (kR k = 115 ↔ k = 4) ∧ (kR k = 111 ↔ k = 5) := by
 unfold kR
 repeat' split
 all_goals omega
theorem runN_all (q : U8 → Bool) : ∀ (n : Nat) (s : B) (i j : Nat), i ≤ j → j < runN q n s i → ∃ c, s.data[j]? = some c ∧ q ⟨c.toNat⟩ = true
 | 0, s, i, j, h1, h2 => by rw [runN] at h2; omega
 | n + 1, s, i, j, h1, h2 => by
   rw [runN] at h2
   split at h2
   ·rename_i c hc
    split at h2
    ·rename_i hq
     by_cases e : i = j
     ·subst e; exact ⟨c, hc, hq⟩
     ·exact runN_all q n s (i + 1) j (by omega) h2
    ·omega
   ·omega
theorem lexP_dig {s : B} {i : Nat} (h : (lexP s i).1.kind = 3) : digsB (lexP s i).1.text = true := by
 unfold lexP at h ⊢
 try simp only at h
 try simp only
 split at h
 ·simp at h
 ·rename_i c hc
  split at h
  ·simp at h
  ·rename_i h1
   split at h
   ·rename_i h2
    simp only [hc, if_neg h1, if_pos h2]
    unfold digsB
    rw [List.all_eq_true]
    intro x hx
    obtain ⟨k, hk, rfl⟩ := List.mem_iff_getElem.1 hx
    have e : (s.extract (skipF s i) (digF s (skipF s i))).data.toList[k]? = some ((s.extract (skipF s i) (digF s (skipF s i))).data.toList[k]) := List.getElem?_eq_getElem hk
    generalize (s.extract (skipF s i) (digF s (skipF s i))).data.toList[k] = x at e
    rw [Array.getElem?_toList, ByteArray.data_extract, Array.getElem?_extract] at e
    split at e
    ·rename_i hlt
     have hd : digF s (skipF s i) = runN digP (s.size - skipF s i) s (skipF s i) := by rw [run_dig]; rfl
     obtain ⟨c', hc', hp⟩ := runN_all digP (s.size - skipF s i) s (skipF s i) (skipF s i + k) (by omega) (by rw [← hd]; omega)
     rw [hc'] at e
     cases e
     unfold digP at hp
     simp at hp ⊢
     omega
    ·cases e
   ·split at h
    ·split at h
     ·simp at h
     ·simp at h
    ·split at h
     ·simp at h
     ·simp at h
theorem lexP_nam {s : B} {i : Nat} (h : (lexP s i).1.kind = 2) : (lexP s i).1.text ≠ E0 := by
 unfold lexP at h ⊢
 try simp only at h
 try simp only
 split at h
 ·simp at h
 ·rename_i c hc
  have hj : skipF s i < s.size := (Array.getElem?_eq_some_iff.1 hc).1
  split at h
  ·rename_i hl
   simp only [hc, hl, if_true]
   have h1 := namF_rng (s := s) (i := skipF s i + 1) (by omega)
   have h2 : namF s (skipF s i) = namF s (skipF s i + 1) := by
    rw [namF_step hj, if_pos]
    unfold isNm
    rw [hc]
    have h2 : letB c.toNat = true := by
     unfold letP begB at hl
     unfold letB
     simp at hl ⊢
     omega
    simp [h2]
   intro e
   have := congrArg ByteArray.size e
   rw [ByteArray.size_extract, h2] at this
   have e0 : E0.size = 0 := rfl
   omega
  ·split at h
   ·simp at h
   ·split at h
    ·split at h
     ·simp at h
     ·simp at h
    ·split at h
     ·simp at h
     ·simp at h
/-- Going on. -/
theorem Rel.next (h : Rel d s p) (hk : 2 ≤ s.kind) : ∃ s', nextR s = some s' ∧ Rel d s' p.step ∧ rem s' < rem s := by
 have hf := h.fin
 have hz := h.size
 have hr := lexP_rng (s := s.txt) (i := s.fin.toNat) (by omega)
 refine ⟨⟨s.txt, (lexP s.txt s.fin.toNat).2, (lexP s.txt s.fin.toNat).1.kind, (lexP s.txt s.fin.toNat).1.text, (lexP s.txt s.fin.toNat).1.pos⟩, by rw [nextR, if_pos ⟨hf, by omega⟩], ⟨h.e, h.deep, ?_, h.len, hz, ⟨hr.1, hr.2.1⟩, ⟨hr.2.2.1, hr.2.2.2.1⟩, lexP_dig, lexP_nam, ?_⟩, ?_⟩
 ·have := h.pos
  show 0 ≤ p.pos + 1
  omega
 ·have h1 := h.at_
  rw [if_neg (by omega)] at h1
  have h2 := congrArg (List.drop 1) h1
  rw [List.drop_drop, List.drop_succ_cons, List.drop_zero, toksT_eq (by omega)] at h2
  have hp := h.pos
  show p.l.drop (p.pos + 1).toNat = _
  rw [show (p.pos + 1).toNat = p.pos.toNat + 1 by omega, h2]
  rfl
 ·have h0 := skipF_rng (s := s.txt) (i := s.fin.toNat) (by omega)
  unfold rem
  rw [if_neg (show ¬ s.kind < 2 by omega)]
  simp only
  split
  ·omega
  ·have := hr.2.2.2.2 (by omega)
   omega
theorem Rel.rem0 (h : Rel d s p) : 0 ≤ rem s ∧ rem s ≤ 401 := by
 have := h.fin
 have := h.size
 unfold rem
 split <;> omega
/-! ### Small steps -/
theorem sign_dec (h : Rel d s p) (t : B) : isF p 111 t = some (signR s t) := by
 rw [isF, if_neg (by simp [h.e]), h.now, Option.map_some, signR]
 congr 1
 rw [Bool.eq_iff_iff]
 have := (kR_eq h.kind).2.2.2.2.2
 simp [this]
theorem sim_take {t : B} {k : Rdr × Bool → Out (Rdr × Y)} {g : Pst × Bool → Option (Pst × Y)} (h : Rel d s p) (h1 : signR s t = true → ∀ s', Rel d s' p.step → rem s' < rem s → Sim d m (k (s', true)) (g (p.step, true)))
 (h2 : signR s t = false → Sim d m (k (s, false)) (g (p, false))) : Sim d m ((takeE s t).bind k) ((eatF p t).bind g) := by
 have hs := sign_dec h t
 unfold takeE takeR eatF
 rw [hs]
 cases hb : signR s t with
 | true =>
   obtain ⟨s', e1, e2, e3⟩ := h.next (by unfold signR at hb; simp at hb; omega)
   simp [e1]
   exact h1 hb s' e2 e3
 | false => exact h2 hb
theorem kind_dec (h : Rel d s p) (k : Int) : kindG p k = some (decide (kR s.kind = k)) := by
 rw [kindG, if_neg (by simp [h.e]), h.now]
 rfl
theorem sim_kind {n : Int} {E : Out (Rdr × Y)} {g : Bool → Option (Pst × Y)} (h : Rel d s p) (h1 : kR s.kind = n → Sim d m E (g true)) (h2 : kR s.kind ≠ n → Sim d m E (g false)) : Sim d m E ((kindG p n).bind g) := by
 rw [kind_dec h, Option.bind_some]
 by_cases e : kR s.kind = n
 ·rw [decide_eq_true e]; exact h1 e
 ·rw [decide_eq_false e]; exact h2 e
theorem want_no (h : Rel d s p) {k : Int} {t : B} (hk : kR s.kind ≠ k ∨ k = 111 ∧ s.text ≠ t) : wantG p k t = some (errS p 3 s.pos, E0) := by
 rw [wantG, h.now, Option.bind_some, if_neg (by simp [h.e]), if_pos hk]
theorem want_yes (h : Rel d s p) {k : Int} {t : B} (hk : ¬ (kR s.kind ≠ k ∨ k = 111 ∧ s.text ≠ t)) : wantG p k t = some (p.step, s.text) := by
 rw [wantG, h.now, Option.bind_some, if_neg (by simp [h.e]), if_neg hk]
theorem sim_must {t : B} {k : Rdr → Out (Rdr × Y)} {g : Pst × B → Option (Pst × Y)} (h : Rel d s p) (h1 : ∀ s' y, Rel d s' p.step → rem s' < rem s → Sim d m (k s') (g (p.step, y)))
 (h2 : ∀ p', Dd p' → ∀ y, DD p' (g (p', y))) : Sim d m ((mustE s [t]).bind k) ((wantG p 111 t).bind g) := by
 have hk := (kR_eq h.kind).2.2.2.2.2
 cases hb : signR s t with
 | true =>
   have hb' : s.kind = 5 ∧ s.text = t := by unfold signR at hb; simpa using hb
   obtain ⟨s', e1, e2, e3⟩ := h.next (by omega)
   rw [want_yes h (by rw [not_or]; exact ⟨fun h => h (hk.2 hb'.1), fun h => h.2 hb'.2⟩)]
   simp [mustE, hb, nextE, e1]
   exact h1 s' _ e2 e3
 | false =>
   have hb' : ¬ (s.kind = 5 ∧ s.text = t) := by
    intro hh
    unfold signR at hb
    simp [hh.1, hh.2] at hb
   rw [want_no h (by
    by_cases e : s.kind = 5
    ·exact .inr ⟨rfl, fun e2 => hb' ⟨e, e2⟩⟩
    ·exact .inl (by rw [Ne, hk]; exact e))]
   simp [mustE, hb]
   have hd := h.dead 3 s.pos (by decide)
   exact sim_dead hd (h2 _ hd.dd _)
theorem sim_text0 {n c : Int} {k : Rdr × B → Out (Rdr × Y)} {g : Pst × B → Option (Pst × Y)} (h : Rel d s p) (hn : kR n = c ∧ 2 ≤ n ∧ n ≤ 4) (h1 : s.kind = n → ∀ s', Rel d s' p.step → rem s' < rem s → Sim d m (k (s', s.text)) (g (p.step, s.text)))
 (h2 : ∀ p', Dd p' → DD p' (g (p', E0))) : Sim d m ((textE s n).bind k) ((wantG p c E0).bind g) := by
 obtain ⟨rfl, hn⟩ := hn
 have hk := kR_eq h.kind
 have hk' := kR_eq (k := n) (by omega)
 have hinj : kR s.kind = kR n ↔ s.kind = n := by
  unfold kR
  have := h.kind
  repeat' split
  all_goals omega
 have hne : kR n ≠ 111 := by rw [Ne, hk'.2.2.2.2.2]; omega
 by_cases e : s.kind = n
 ·obtain ⟨s', e1, e2, e3⟩ := h.next (by omega)
  rw [want_yes h (by rw [not_or]; exact ⟨fun h => h (hinj.2 e), fun h => hne h.1⟩)]
  simp [textE, e, nextE, e1]
  exact h1 e s' e2 e3
 ·rw [want_no h (.inl (by rw [Ne, hinj]; exact e))]
  simp [textE, e]
  have hd := h.dead 3 s.pos (by decide)
  exact sim_dead hd (h2 _ hd.dd)
theorem sim_text {n c : Int} {k : Rdr × B → Out (Rdr × Y)} {g : Pst × B → Option (Pst × Y)} (h : Rel d s p) (hn : kR n = c ∧ 2 ≤ n ∧ n ≤ 4) (h1 : s.kind = n → ∀ s', Rel d s' p.step → rem s' < rem s → Sim d m (k (s', s.text)) (g (p.step, s.text)))
 (h2 : ∀ p', Dd p' → ∀ y, DD p' (g (p', y))) : Sim d m ((textE s n).bind k) ((wantG p c E0).bind g) := sim_text0 h hn h1 fun p' hd => h2 p' hd _
/-! ### With an error -/
theorem dd_eat {t : B} (h : Dd p) : DD p (eatF p t) := ⟨false, by rw [eatF, isF, if_pos h.e]; rfl⟩
theorem dd_eatb {t : B} {g : Pst × Bool → Option (Pst × Y)} (h : Dd p) (h1 : DD p (g (p, false))) : DD p ((eatF p t).bind g) := by
 rw [eatF, isF, if_pos h.e]
 exact h1
theorem dd_want {k : Int} {t : B} (h : Dd p) : DD p (wantG p k t) := by
 obtain ⟨x, hx⟩ := h.now
 exact ⟨E0, by rw [wantG, hx, Option.bind_some, if_pos h.e]⟩
theorem dd_is {k : Int} {t : B} {g : Bool → Option (Pst × Y)} (h : Dd p) (h1 : DD p (g false)) : DD p ((isF p k t).bind g) := by
 rw [isF, if_pos h.e]
 exact h1
theorem dd_kind {k : Int} {g : Bool → Option (Pst × Y)} (h : Dd p) (h1 : DD p (g false)) : DD p ((kindG p k).bind g) := by
 rw [kindG, if_pos h.e]
 exact h1
theorem dd_number {l a : Int} (h : Dd p) : DD p (numberG p l a) := by
 obtain ⟨x, hx⟩ := h.now
 unfold numberG
 rw [wantG, hx, Option.bind_some, if_pos h.e, Option.bind_some, if_pos (show digsB E0 = true from rfl)]
 have e : (if l < E0.data.toList.foldl digitG 0 then errS p 8 a else p) = p := by
  split
  ·rw [errS, if_neg h.e]
  ·rfl
 exact ⟨E0.data.toList.foldl digitG 0, congrArg (fun x => some (x, E0.data.toList.foldl digitG 0)) e⟩
end
end Go.Gv

namespace Go.Gv
section
variable {Y Z : Type} {d m : Int} {s : Rdr} {p : Pst}
theorem omap {α β : Type} (o : Option α) (f : α → β) : o.map f = o.bind fun x => some (f x) := by cases o <;> rfl
theorem Omap {α β : Type} (o : Out α) (f : α → β) : o.map f = o.bind fun x => .ok (f x) := by cases o <;> rfl
theorem obnd {α β γ : Type} (o : Option α) (f : α → Option β) (g : β → Option γ) : (o.bind f).bind g = o.bind fun x => (f x).bind g := by cases o <;> rfl
theorem obnds {α β : Type} (x : α) (f : α → Option β) : (some x).bind f = f x := rfl
theorem sim_id {E : Out (Rdr × Y)} {G : Option (Pst × Y)} (h : Sim d m (E.bind fun x => .ok x) (G.bind fun x => some x)) : Sim d m E G := by cases E <;> cases G <;> exact h
/-! ### Numbers -/
theorem digit_of {c : UInt8} (h : 48 ≤ c.toNat ∧ c.toNat ≤ 57) (n : Int) : digitG n c = min (10 * n + ((c.toNat : Int) - 48)) 1000000 := by
 unfold digitG
 omega
theorem numL_eq {most : Int} (hm : 0 ≤ most ∧ most < 1000000) : ∀ (l : List UInt8), (∀ c ∈ l, 48 ≤ c.toNat ∧ c.toNat ≤ 57) → ∀ n k : Int, 0 ≤ n → 0 ≤ k → (n = k ∨ most < n ∧ most < k) → (numL most l n = l.foldl digitG k ∨ most < numL most l n ∧ most < l.foldl digitG k)
 | [], _, n, k, _, _, h => h
 | c :: l, hc, n, k, hn, hk, h => by
   have h1 := hc c (by simp)
   rw [numL, List.foldl_cons, digit_of h1]
   split
   ·refine numL_eq hm l (fun x hx => hc x (by simp [hx])) _ _ (by omega) (by omega) ?_
    omega
   ·refine .inr ⟨by omega, ?_⟩
    have := numL_eq hm l (fun x hx => hc x (by simp [hx])) (min (10 * k + ((c.toNat : Int) - 48)) 1000000) (min (10 * k + ((c.toNat : Int) - 48)) 1000000) (by omega) (by omega) (.inl rfl)
    have h2 : most < min (10 * k + ((c.toNat : Int) - 48)) 1000000 := by omega
    generalize min (10 * k + ((c.toNat : Int) - 48)) 1000000 = w at this h2
    have h3 : most < numL most l w := by
     cases l with
     | nil => exact h2
     | cons x l => rw [numL, if_neg (by omega)]; exact h2
    rcases this with e | e
    ·rw [← e]; exact h3
    ·exact e.2
theorem trimZ_fold (t : B) : ∃ a : Nat, t.data.toList = List.replicate a 48 ++ (trimZ t).data.toList := by
 unfold trimZ
 have h1 := runP_rng zerP (s := t) (i := 0) (Nat.zero_le _)
 refine ⟨runP zerP t 0, List.ext_getElem? fun k => ?_⟩
 rw [List.getElem?_append, List.length_replicate]
 split
 ·rename_i hk
  obtain ⟨c, hc, hz⟩ := runN_all zerP (t.size - 0) t 0 k (Nat.zero_le _) hk
  rw [Array.getElem?_toList, hc, List.getElem?_replicate, if_pos hk]
  unfold zerP at hz
  simp at hz
  congr 1
  exact UInt8.toNat_inj.1 (by show c.toNat = 48; omega)
 ·rename_i hk
  rw [Array.getElem?_toList, Array.getElem?_toList, ByteArray.data_extract, Array.getElem?_extract]
  have e : t.data.size = t.size := rfl
  split
  ·congr 1; omega
  ·exact Array.getElem?_eq_none (by omega)
theorem fold_zero : ∀ a : Nat, (List.replicate a (48 : UInt8)).foldl digitG 0 = 0
 | 0 => rfl
 | a + 1 => by rw [List.replicate_succ, List.foldl_cons, show digitG 0 48 = 0 from rfl, fold_zero a]
theorem numV_eq {most : Int} (hm : 0 ≤ most ∧ most < 1000000) {t : B} (ht : digsB t = true) : numV most t = t.data.toList.foldl digitG 0 ∨ most < numV most t ∧ most < t.data.toList.foldl digitG 0 := by
 obtain ⟨a, ha⟩ := trimZ_fold t
 have hd : ∀ c ∈ t.data.toList, 48 ≤ c.toNat ∧ c.toNat ≤ 57 := by
  intro c hc
  unfold digsB at ht
  rw [List.all_eq_true] at ht
  simpa using ht c hc
 rw [ha] at hd ⊢
 rw [List.foldl_append, fold_zero]
 exact numL_eq hm _ (fun c hc => hd c (by simp [hc])) 0 0 (by omega) (by omega) (.inl rfl)
theorem sim_number {most a : Int} {k : Rdr × Int → Out (Rdr × Y)} {g : Pst × Int → Option (Pst × Y)} (h : Rel d s p) (hm : 0 ≤ most ∧ most < 1000000) (h1 : ∀ s' y, Rel d s' p.step → rem s' < rem s → Sim d m (k (s', y)) (g (p.step, y)))
 (h2 : ∀ p', Dd p' → ∀ y, DD p' (g (p', y))) : Sim d m ((numberE s most a).bind k) ((numberG p most a).bind g) := by
 unfold numberE numberG
 rw [obnd, Out.bind_bind]
 refine sim_text0 h ⟨rfl, by decide, by decide⟩ (fun hs s' hR hm' => ?_) (fun p' hd => ?_)
 ·have hd := h.dig hs
  simp only
  rw [if_pos ⟨hd, by omega⟩, if_pos hd]
  simp only [obnds]
  rcases numV_eq hm hd with e | e
  ·rw [e]
   by_cases hlt : most < s.text.data.toList.foldl digitG 0
   ·rw [if_pos hlt, if_pos hlt]
    have hdd := hR.dead 8 a (by decide)
    exact sim_dead hdd (h2 _ hdd.dd _)
   ·rw [if_neg hlt, if_neg hlt]
    exact h1 s' _ hR hm'
  ·rw [if_pos e.1, if_pos e.2]
   have hdd := hR.dead 8 a (by decide)
   exact sim_dead hdd (h2 _ hdd.dd _)
 ·simp only
  rw [if_pos (show digsB E0 = true from rfl), obnds, if_neg (by show ¬ most < 0; omega)]
  exact h2 p' hd _
/-! ### Conditions -/
theorem sim_value {n : B} {k : Rdr × Cond → Out (Rdr × Y)} {g : Pst × Cond → Option (Pst × Y)} (h : Rel d s p) (h1 : ∀ s' p' y, Rel d s' p' → rem s' < rem s → Sim d m (k (s', y)) (g (p', y)))
 (h2 : ∀ p', Dd p' → ∀ y, DD p' (g (p', y))) : Sim d m ((valueE s n).bind k) ((valueG p n).bind g) := by
 unfold valueE valueG
 simp only [omap, Omap, obnd, obnds, Out.bind_bind, Out.bind_ok]
 repeat' first
  | exact sim_ok (by assumption) (by first | omega | (simp only at *; omega))
  | exact DD.some
  | exact dd_eat (by assumption)
  | exact dd_want (by assumption)
  | (refine sim_take (by assumption) (fun hs s' hR hm => ?_) (fun hs => ?_) <;> try simp only [↓reduceIte, Bool.false_eq_true, if_true, if_false])
  | (refine sim_text (by assumption) ⟨rfl, by decide, by decide⟩ (fun hs s' hR hm => ?_) (fun p' hd y => ?_) <;> try simp only [↓reduceIte, Bool.false_eq_true, if_true, if_false])
  | (refine sim_must (by assumption) (fun s' y hR hm => ?_) (fun p' hd y => ?_) <;> try simp only [↓reduceIte, Bool.false_eq_true, if_true, if_false])
  | (refine sim_number (by assumption) (by decide) (fun s' y hR hm => ?_) (fun p' hd y => ?_) <;> try simp only [↓reduceIte, Bool.false_eq_true, if_true, if_false])
  | (refine dd_eatb (by assumption) ?_; try simp only [↓reduceIte, Bool.false_eq_true, if_true, if_false])
  | (refine dd_is (by assumption) ?_; try simp only [↓reduceIte, Bool.false_eq_true, if_true, if_false])
  | (refine dd_kind (by assumption) ?_; try simp only [↓reduceIte, Bool.false_eq_true, if_true, if_false])
  | (refine DD.bind (dd_want (by assumption)) fun y => ?_; try simp only [↓reduceIte, Bool.false_eq_true, if_true, if_false])
  | (refine DD.bind (dd_number (by assumption)) fun y => ?_; try simp only [↓reduceIte, Bool.false_eq_true, if_true, if_false])    | exact h1 _ _ _ (by assumption) (by omega)
  | exact h2 _ (by assumption) _
theorem dd_value {n : B} (h : Dd p) : DD p (valueG p n) := by
 unfold valueG
 simp only [omap]
 repeat' first
  | exact sim_ok (by assumption) (by first | omega | (simp only at *; omega))
  | exact DD.some
  | exact dd_eat (by assumption)
  | exact dd_want (by assumption)
  | (refine sim_take (by assumption) (fun hs s' hR hm => ?_) (fun hs => ?_) <;> try simp only [↓reduceIte, Bool.false_eq_true, if_true, if_false])
  | (refine sim_text (by assumption) ⟨rfl, by decide, by decide⟩ (fun hs s' hR hm => ?_) (fun p' hd y => ?_) <;> try simp only [↓reduceIte, Bool.false_eq_true, if_true, if_false])
  | (refine sim_must (by assumption) (fun s' y hR hm => ?_) (fun p' hd y => ?_) <;> try simp only [↓reduceIte, Bool.false_eq_true, if_true, if_false])
  | (refine sim_number (by assumption) (by decide) (fun s' y hR hm => ?_) (fun p' hd y => ?_) <;> try simp only [↓reduceIte, Bool.false_eq_true, if_true, if_false])
  | (refine dd_eatb (by assumption) ?_; try simp only [↓reduceIte, Bool.false_eq_true, if_true, if_false])
  | (refine dd_is (by assumption) ?_; try simp only [↓reduceIte, Bool.false_eq_true, if_true, if_false])
  | (refine dd_kind (by assumption) ?_; try simp only [↓reduceIte, Bool.false_eq_true, if_true, if_false])
  | (refine DD.bind (dd_want (by assumption)) fun y => ?_; try simp only [↓reduceIte, Bool.false_eq_true, if_true, if_false])
  | (refine DD.bind (dd_number (by assumption)) fun y => ?_; try simp only [↓reduceIte, Bool.false_eq_true, if_true, if_false])
theorem sim_region (h : Rel d s p) : Sim d (rem s) (regionE s) (regionG p) := by
 unfold regionE regionG
 simp only [omap, Omap, obnd, obnds, Out.bind_bind, Out.bind_ok]
 repeat' first
  | exact sim_ok (by assumption) (by first | omega | (simp only at *; omega))
  | exact DD.some
  | exact dd_eat (by assumption)
  | exact dd_want (by assumption)
  | (refine sim_take (by assumption) (fun hs s' hR hm => ?_) (fun hs => ?_) <;> try simp only [↓reduceIte, Bool.false_eq_true, if_true, if_false])
  | (refine sim_text (by assumption) ⟨rfl, by decide, by decide⟩ (fun hs s' hR hm => ?_) (fun p' hd y => ?_) <;> try simp only [↓reduceIte, Bool.false_eq_true, if_true, if_false])
  | (refine sim_must (by assumption) (fun s' y hR hm => ?_) (fun p' hd y => ?_) <;> try simp only [↓reduceIte, Bool.false_eq_true, if_true, if_false])
  | (refine sim_number (by assumption) (by decide) (fun s' y hR hm => ?_) (fun p' hd y => ?_) <;> try simp only [↓reduceIte, Bool.false_eq_true, if_true, if_false])
  | (refine dd_eatb (by assumption) ?_; try simp only [↓reduceIte, Bool.false_eq_true, if_true, if_false])
  | (refine dd_is (by assumption) ?_; try simp only [↓reduceIte, Bool.false_eq_true, if_true, if_false])
  | (refine dd_kind (by assumption) ?_; try simp only [↓reduceIte, Bool.false_eq_true, if_true, if_false])
  | (refine DD.bind (dd_want (by assumption)) fun y => ?_; try simp only [↓reduceIte, Bool.false_eq_true, if_true, if_false])
  | (refine DD.bind (dd_number (by assumption)) fun y => ?_; try simp only [↓reduceIte, Bool.false_eq_true, if_true, if_false])
theorem dd_atom {n : B} (h : Dd p) : DD p (atomG p n) := by
 unfold atomG
 simp only [omap]
 repeat' first
  | exact sim_ok (by assumption) (by first | omega | (simp only at *; omega))
  | exact DD.some
  | exact dd_eat (by assumption)
  | exact dd_want (by assumption)
  | exact dd_value (by assumption)
  | (refine sim_take (by assumption) (fun hs s' hR hm => ?_) (fun hs => ?_) <;> try simp only [↓reduceIte, Bool.false_eq_true, if_true, if_false])
  | (refine sim_text (by assumption) ⟨rfl, by decide, by decide⟩ (fun hs s' hR hm => ?_) (fun p' hd y => ?_) <;> try simp only [↓reduceIte, Bool.false_eq_true, if_true, if_false])
  | (refine sim_must (by assumption) (fun s' y hR hm => ?_) (fun p' hd y => ?_) <;> try simp only [↓reduceIte, Bool.false_eq_true, if_true, if_false])
  | (refine sim_number (by assumption) (by decide) (fun s' y hR hm => ?_) (fun p' hd y => ?_) <;> try simp only [↓reduceIte, Bool.false_eq_true, if_true, if_false])
  | (refine dd_eatb (by assumption) ?_; try simp only [↓reduceIte, Bool.false_eq_true, if_true, if_false])
  | (refine dd_is (by assumption) ?_; try simp only [↓reduceIte, Bool.false_eq_true, if_true, if_false])
  | (refine dd_kind (by assumption) ?_; try simp only [↓reduceIte, Bool.false_eq_true, if_true, if_false])
  | (refine DD.bind (dd_want (by assumption)) fun y => ?_; try simp only [↓reduceIte, Bool.false_eq_true, if_true, if_false])
  | (refine DD.bind (dd_number (by assumption)) fun y => ?_; try simp only [↓reduceIte, Bool.false_eq_true, if_true, if_false])
theorem sim_atom {n : B} (h : Rel d s p) : Sim d (rem s) (atomE s n) (atomG p n) := by
 unfold atomE atomG
 have hc : isF p 110 ⟨#[99, 111, 110, 116, 97, 105, 110, 115]⟩ = some (wordR s [⟨#[99, 111, 110, 116, 97, 105, 110, 115]⟩]) := by
  rw [isF, if_neg (by simp [h.e]), h.now, Option.map_some, wordR]
  congr 1
  rw [Bool.eq_iff_iff]
  have := (kR_eq h.kind).2.2.1
  simp [this]
 simp only [omap, Omap, obnd, obnds, Out.bind_bind, Out.bind_ok]
 cases hw : wordR s [⟨#[99, 111, 110, 116, 97, 105, 110, 115]⟩] with
 | true =>
   have hk : s.kind = 2 := by unfold wordR at hw; simp at hw; omega
   obtain ⟨s', e1, e2, e3⟩ := h.next (by omega)
   have hn : eatF p ⟨#[33, 61]⟩ = some (p, false) := by
    unfold eatF
    rw [sign_dec h, signR, decide_eq_false (by omega)]
    rfl
   rw [hn]
   simp only [obnds, hc, hw, if_true, Bool.false_eq_true, if_false, nextE, e1, Out.of_some, Out.bind_ok]
   repeat' first
    | exact sim_ok (by assumption) (by first | omega | (simp only at *; omega))
    | exact DD.some
    | exact dd_eat (by assumption)
    | exact dd_want (by assumption)
    | (refine sim_take (by assumption) (fun hs s' hR hm => ?_) (fun hs => ?_) <;> try simp only [↓reduceIte, Bool.false_eq_true, if_true, if_false])
    | (refine sim_text (by assumption) ⟨rfl, by decide, by decide⟩ (fun hs s' hR hm => ?_) (fun p' hd y => ?_) <;> try simp only [↓reduceIte, Bool.false_eq_true, if_true, if_false])
    | (refine sim_must (by assumption) (fun s' y hR hm => ?_) (fun p' hd y => ?_) <;> try simp only [↓reduceIte, Bool.false_eq_true, if_true, if_false])
    | (refine sim_number (by assumption) (by decide) (fun s' y hR hm => ?_) (fun p' hd y => ?_) <;> try simp only [↓reduceIte, Bool.false_eq_true, if_true, if_false])
    | (refine dd_eatb (by assumption) ?_; try simp only [↓reduceIte, Bool.false_eq_true, if_true, if_false])
    | (refine dd_is (by assumption) ?_; try simp only [↓reduceIte, Bool.false_eq_true, if_true, if_false])
    | (refine dd_kind (by assumption) ?_; try simp only [↓reduceIte, Bool.false_eq_true, if_true, if_false])
    | (refine DD.bind (dd_want (by assumption)) fun y => ?_; try simp only [↓reduceIte, Bool.false_eq_true, if_true, if_false])
    | (refine DD.bind (dd_number (by assumption)) fun y => ?_; try simp only [↓reduceIte, Bool.false_eq_true, if_true, if_false])
 | false =>
   simp only [Bool.false_eq_true, if_false]
   refine sim_take h (fun hs s' hR hm => ?_) (fun hs => ?_)
   ·simp only [↓reduceIte]
    refine sim_value hR (fun s2 p2 y hR2 hm2 => ?_) (fun p' hd y => DD.some)
    exact sim_ok (s := s2) hR2 (by omega)
   ·simp only [Bool.false_eq_true, if_false, hc, hw, obnds]
    refine sim_must h (fun s' y hR hm => ?_) (fun p' hd y => ?_)
    ·refine sim_kind hR (fun e => ?_) (fun e => ?_)
     ·have e' : s'.kind = 2 := (kR_eq hR.kind).2.2.1.1 e
      rw [if_pos e']
      simp only [if_true]
      repeat' first
       | exact sim_ok (by assumption) (by first | omega | (simp only at *; omega))
       | exact DD.some
       | exact dd_eat (by assumption)
       | exact dd_want (by assumption)
       | (refine sim_take (by assumption) (fun hs s' hR hm => ?_) (fun hs => ?_) <;> try simp only [↓reduceIte, Bool.false_eq_true, if_true, if_false])
       | (refine sim_text (by assumption) ⟨rfl, by decide, by decide⟩ (fun hs s' hR hm => ?_) (fun p' hd y => ?_) <;> try simp only [↓reduceIte, Bool.false_eq_true, if_true, if_false])
       | (refine sim_must (by assumption) (fun s' y hR hm => ?_) (fun p' hd y => ?_) <;> try simp only [↓reduceIte, Bool.false_eq_true, if_true, if_false])
       | (refine sim_number (by assumption) (by decide) (fun s' y hR hm => ?_) (fun p' hd y => ?_) <;> try simp only [↓reduceIte, Bool.false_eq_true, if_true, if_false])
       | (refine dd_eatb (by assumption) ?_; try simp only [↓reduceIte, Bool.false_eq_true, if_true, if_false])
       | (refine dd_is (by assumption) ?_; try simp only [↓reduceIte, Bool.false_eq_true, if_true, if_false])
       | (refine dd_kind (by assumption) ?_; try simp only [↓reduceIte, Bool.false_eq_true, if_true, if_false])
       | (refine DD.bind (dd_want (by assumption)) fun y => ?_; try simp only [↓reduceIte, Bool.false_eq_true, if_true, if_false])
       | (refine DD.bind (dd_number (by assumption)) fun y => ?_; try simp only [↓reduceIte, Bool.false_eq_true, if_true, if_false])
     ·have e' : ¬ s'.kind = 2 := fun h => e ((kR_eq hR.kind).2.2.1.2 h)
      rw [if_neg e']
      simp only [Bool.false_eq_true, if_false]
      exact sim_id (sim_value (n := n) (k := fun x => .ok x) (g := fun x => some x) (m := rem s) hR (fun s2 p2 y hR2 hm2 => sim_ok (s := s2) hR2 (by omega)) (fun p' hd y => DD.some))
    ·refine dd_kind hd ?_
     exact dd_value hd
end
end Go.Gv
