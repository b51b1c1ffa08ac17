/- A part of the framework and of the walks: W54 W39 W32 W36 W40. -/
import Derived.Test.YtblcfloekekefaaGreatGh17
import Derived.Test.YtblcfloekekefaaGreatGh18
import Derived.Test.YtblcfloekekefaaGreatGh16
import Derived.Test.YtblcfloekekefaaGreatGh14

namespace Go.Gv
set_option linter.unusedSimpArgs false
set_option linter.unusedVariables false
set_option maxRecDepth 100000
open Cod (enc dec)
variable {S S0 : Nat → Spc}
def dgB (c : Int) : Bool := decide (48 ≤ c ∧ c ≤ 57)
abbrev s_isDigit : Spc := spc (a1 U8) (fun _ => True) (enc (X := Bool)) fun x y => y = dgB x.val
theorem w_isLetter : Walk cc_r23_isLetter rs_r23_isLetter S (a1 U8) (fun _ => True) (enc (X := Bool)) fun x y => y = begB x.val := by
  rintro ⟨c⟩ -
  simp [cc_r23_isLetter, rs_r23_isLetter, begB]
  repeat' first | apply And.intro | intro _
  all_goals first | omega | (rw [Bool.eq_iff_iff]; simp; omega)
theorem w_isDigit : Walk cc_r23_isDigit rs_r23_isDigit S (a1 U8) (fun _ => True) (enc (X := Bool)) fun x y => y = dgB x.val := by
  rintro ⟨c⟩ -
  simp [cc_r23_isDigit, rs_r23_isDigit, dgB]
  repeat' first | apply And.intro | intro _
  all_goals first | omega | (rw [Bool.eq_iff_iff]; simp; omega)
abbrev s_signs : Spc := spc a0 (fun _ => True) (enc (X := List B)) fun _ y => y = signsL
theorem w_signs : Walk cc_r23_signs rs_r23_signs S a0 (fun _ => True) (enc (X := List B)) fun _ y => y = signsL := by
  rintro x -
  simp [cc_r23_signs, rs_r23_signs]
  exact fin_of signsL (.same _) rfl
theorem isSp_at {s : B} {i : Nat} {c : UInt8} (h : s.data[i]? = some c) : isSp s i = decide (c.toNat = 32 ∨ c.toNat = 10) := by rw [isSp, h]
theorem isDg_at {s : B} {i : Nat} {c : UInt8} (h : s.data[i]? = some c) : isDg s i = decide (48 ≤ c.toNat ∧ c.toNat ≤ 57) := by rw [isDg, h]
theorem byte_at {s : B} {i : Nat} (h : i < s.size) : ∃ c, s.data[i]? = some c := ⟨s.data[i], Array.getElem?_eq_getElem h⟩
theorem skipF_le (s : B) : ∀ (n i : Nat), s.size - i = n → i ≤ s.size → i ≤ skipF s i ∧ skipF s i ≤ s.size
  | 0, i, h, hi => by rw [skipF_end (by omega)]; omega
  | n + 1, i, h, hi => by
    rw [skipF_step (by omega)]
    split
    · have := skipF_le s n (i + 1) (by omega) (by omega); omega
    · omega
abbrev s_scan : Spc := spc (a1 B) (fun s => ∃ r, scanF s = some r) (enc (X := List Tok)) fun s y => scanF s = some y
theorem w_scan (h1 : S f_r23_isLetter = s_begins) (h2 : S f_r23_isDigit = s_isDigit) (h3 : S f_r23_signs = s_signs) : Walk cc_r23_scan rs_r23_scan S (a1 B) (fun s => ∃ r, scanF s = some r) (enc (X := List Tok)) fun s y => scanF s = some y := by
  rintro s ⟨fin, hfin⟩
  have hsz : s.size ≤ 100000 := by
    by_cases h : s.size ≤ 100000
    · exact h
    · rw [scanF, if_neg h] at hfin; cases hfin
  have hfin0 := hfin
  rw [scanF, if_pos hsz] at hfin
  simp [cc_r23_scan, rs_r23_scan]
  refine vc_while (X := Nat × Nat × Value × List Tok) [0] [] (fun z => scanN z.1 s z.2.1 z.2.2.2 = some fin ∧ z.2.1 ≤ s.size ∧ z.2.2.2.length ≤ z.2.1) (fun z => [(3, .own 200 z.2.2.1), (4, enc (z.2.1 : Int))]) (fun z => [(200, .row z.2.2.1 ty_corporaref23_token 3 (z.2.2.2.map enc))]) (fun z => z.1) (100000, 0, .slice none 0 0, []) ⟨hfin, by simp, by simp⟩ (by simp) (by simp [isNilRow]) ?_
  clear hfin
  rintro ⟨k, i, v, out⟩ ⟨hk, hi, hlen⟩
  simp only at hk hi hlen
  obtain _ | k := k
  · rw [scanN] at hk; cases hk
  rw [scanN] at hk
  simp
  refine vc_mid (X := Unit) [0, 3] [200] (fun _ => True) (fun _ => [(4, enc ((skipF s i : Nat) : Int))]) (fun _ => []) ?_ ?_
  · simp
    refine vc_while (X := Nat) [0, 3] [200] (fun j => i ≤ j ∧ j ≤ s.size ∧ skipF s j = skipF s i) (fun j => [(4, enc (j : Int))]) (fun _ => []) (fun j => s.size - j) i ⟨Nat.le_refl _, hi, rfl⟩ (by simp) (by simp) ?_
    rintro j ⟨j0, j1, j2⟩
    simp
    refine fun _ => ⟨fun hj => ⟨hj, fun c hc => ⟨fun h32 => ⟨hj, fun c' hc' => ?_⟩, fun h32 => ?_⟩⟩, fun hj => ?_⟩
    · rw [hc] at hc'
      cases hc'
      have hst := skipF_step hj
      rw [isSp_at hc] at hst
      refine ⟨fun h10 => ⟨by simp only [InR]; omega, j + 1, ⟨by omega, by omega, ?_⟩, by omega, by omega⟩, fun h10 => ?_⟩
      · rw [← j2, hst, if_pos (by simp; omega)]
      · rw [← j2, hst, if_neg (by simp; omega)]
    · have hst := skipF_step hj
      rw [isSp_at hc] at hst
      refine ⟨by simp only [InR]; omega, j + 1, ⟨by omega, by omega, ?_⟩, by omega, by omega⟩
      rw [← j2, hst, if_pos (by simp; omega)]
    · rw [← j2, skipF_end hj]
  rintro - -
  have hsk := skipF_le s _ i rfl hi
  generalize hi' : skipF s i = i' at hk hsk
  simp
  refine fun _ => ⟨fun he => ⟨by omega, by omega, fun v' => ?_⟩, fun hne => ?_⟩
  · rw [if_pos (by omega)] at hk
    refine fin_of fin (fz_o ty_corporaref23_token ?_) hfin0
    cases hk
    rw [show (i' : Int) = (s.size : Int) by omega]
    simp
  rw [if_neg (by omega)] at hk
  obtain ⟨⟨j, t⟩, ht, hk⟩ := Option.bind_eq_some_iff.1 hk
  simp only at hk
  split at hk
  · rename_i hj
    refine vc_mid (X := Value) [0] [] (fun _ => True) (fun v' => [(5, enc (j : Int)), (3, .own 200 v')]) (fun v' => [(200, .row v' ty_corporaref23_token 3 ((out ++ [t]).map enc))]) ?_ ?_
    · obtain ⟨c, hc⟩ := byte_at (s := s) (i := i') (by omega)
      unfold tokF at ht
      rw [hc] at ht
      simp only at ht
      split at ht
      · cases ht
      rename_i hL
      have hbeg : begB (c.toNat : Int) = false := by unfold begB; rw [decide_eq_false]; omega
      split at ht
      · rename_i hD
        cases ht
        have hdg : dgB (c.toNat : Int) = true := by unfold dgB; rw [decide_eq_true]; omega
        simp [h1, h2, hc, hbeg, hdg]
        refine ⟨by omega, ?_⟩
        refine vc_while (X := Nat) [0, 3, 4] [200] (fun j => i' ≤ j ∧ j ≤ s.size ∧ digF s j = digF s i') (fun j => [(5, enc (j : Int))]) (fun _ => []) (fun j => s.size - j) i' ⟨Nat.le_refl _, by omega, rfl⟩ (by simp) (by simp) ?_
        rintro j ⟨j0, j1, j2⟩
        simp [h2]
        refine fun _ => ⟨fun hj2 => ⟨hj2, fun d hd => ⟨fun hdt => ⟨by simp only [InR]; omega, j + 1, ⟨by omega, by omega, ?_⟩, by omega, by omega⟩, fun hdf => ⟨j0, j1, by omega, by omega, fun v' => ⟨v', ⟨?_, rfl⟩, .inl ⟨rfl, ?_⟩⟩⟩⟩⟩, fun hj2 => ⟨j0, j1, by omega, by omega, fun v' => ⟨v', ⟨?_, rfl⟩, .inl ⟨rfl, ?_⟩⟩⟩⟩
        · have hst := digF_step hj2
          rw [isDg_at hd, decide_eq_true (by unfold dgB at hdt; simp at hdt; omega), if_pos rfl] at hst
          rw [← j2, hst]
        · have hst := digF_step hj2
          rw [isDg_at hd, decide_eq_false (by unfold dgB at hdf; simp at hdf; omega), if_neg (by simp)] at hst
          rw [← j2, hst]
        · have hst := digF_step hj2
          rw [isDg_at hd, decide_eq_false (by unfold dgB at hdf; simp at hdf; omega), if_neg (by simp)] at hst
          rw [← j2, hst]
        · rw [← j2, digF_end hj2]
        · rw [← j2, digF_end hj2]
      · rename_i hD
        have hdg : dgB (c.toNat : Int) = false := by unfold dgB; rw [decide_eq_false]; omega
        split at ht
        · rename_i hQ
          obtain ⟨⟨q, w⟩, hq, ht⟩ := Option.map_eq_some_iff.1 ht
          cases ht
          have hQ' : (c.toNat : Int) = 34 := by omega
          rw [hQ'] at hbeg hdg
          simp [h1, h2, hc, hbeg, hdg, hQ']
          refine ⟨by omega, by simp only [InR]; omega, ?_⟩
          refine vc_while (X := Nat × B) [0, 3, 4] [200] (fun z => quoF s z.1 z.2 = some (q, w) ∧ z.1 ≤ s.size ∧ i' < z.1 ∧ z.2.size ≤ z.1) (fun z => [(5, enc (z.1 : Int)), (6, enc z.2), (7, enc false)]) (fun _ => []) (fun z => s.size - z.1) (i' + 1, ⟨#[]⟩) ⟨hq, by omega, by omega, Nat.zero_le _⟩ (by simp) (by simp) ?_
          rintro ⟨j, u⟩ ⟨j0, j1, j2, j3⟩
          simp only at j0 j1 j2 j3
          simp
          clear h1 h2 h3
          refine fun _ => ⟨fun hjs => ⟨hjs, fun d hd => ?_⟩, fun hjs => ?_⟩
          · rw [quoF_step hd] at j0
            refine ⟨fun h34 => ⟨by simp only [InR]; omega, fun _ => ⟨fun hj1 => ⟨by simp only [InR]; omega, by omega, hj1, fun d' hd' => ⟨fun h34' => ?_, fun h34' => ?_⟩⟩, fun hj1 => ?_⟩⟩, fun h34 => ?_⟩
            · rw [if_pos (by omega), hd'] at j0
              simp only at j0
              rw [if_pos (by omega)] at j0
              cases j0
            · rw [if_pos (by omega), hd'] at j0
              simp only at j0
              rw [if_neg (by omega)] at j0
              cases j0
              exact ⟨by simp only [InR]; omega, by omega, by omega, fun v' => ⟨v', ⟨rfl, rfl⟩, .inl ⟨rfl, rfl⟩⟩⟩
            · have hnone : s.data[j + 1]? = none := Array.getElem?_eq_none (by show s.size ≤ j + 1; omega)
              rw [if_pos (by omega), hnone] at j0
              cases j0
              exact ⟨by simp only [InR]; omega, by omega, by omega, fun v' => ⟨v', ⟨rfl, rfl⟩, .inl ⟨rfl, rfl⟩⟩⟩
            · rw [if_neg (by omega)] at j0
              refine ⟨by simp only [InR]; omega, by omega, by omega, by omega, by simp only [InR]; omega, j + 1, _, ⟨j0, by omega, by omega, ?_⟩, ⟨by omega, rfl⟩, by omega⟩
              rw [ByteArray.size_append, ByteArray.size_extract]
              omega
          · rw [quoF_end hjs] at j0
            cases j0
        · rename_i hQ
          have hQ' : ¬ (c.toNat : Int) = 34 := by omega
          split at ht
          · cases ht
          · rename_i x hx
            cases ht
            simp [h1, h2, h3, hc, hbeg, hdg, hQ']
            refine ⟨by omega, fun _ => ?_⟩
            refine vc_range (X := Unit) [0, 3, 4, 5, 38] [200] signsL.length (fun k _ => (signsL.drop k).find? (preB s i') = some x) (fun _ => []) (fun _ => []) () (by simp) (by simp) (by decide) (by simp) (by simp) (by simpa using hx) (by simp) (by simp) ?_ ?_
            · rintro m - hm hP
              obtain ⟨y, hy⟩ := at_lt hm
              obtain ⟨_, hgy⟩ := List.getElem?_eq_some_iff.1 hy
              rw [drop_cons_of hy, List.find?_cons] at hP
              have hpre : preB s i' y = decide (i' + y.size ≤ s.size ∧ s.extract i' (i' + y.size) = y) := rfl
              have e1 : ((i' : Int) + (y.size : Int)).toNat = i' + y.size := by omega
              simp [hm, hy, hgy, e1]
              clear h1 h2 h3
              refine fun _ => ⟨by simp only [InR]; omega, fun _ => ⟨fun hle _ => ⟨by simp only [InR]; omega, by omega, by omega, fun hex _ => ⟨by simp only [InR]; omega, fun hz => ?_, fun _ => ?_⟩, fun hex => ?_⟩, fun hlt => ?_⟩⟩
              · rw [hpre, decide_eq_true ⟨by omega, hex⟩] at hP
                cases hP
                omega
              · rw [hpre, decide_eq_true ⟨by omega, hex⟩] at hP
                cases hP
                exact ⟨by omega, by omega, by omega, by omega, fun v' => ⟨v', ⟨rfl, rfl⟩, .inl ⟨rfl, rfl⟩⟩⟩
              · rw [hpre, decide_eq_false (fun h => hex h.2)] at hP
                exact hP
              · rw [hpre, decide_eq_false (fun h => by have := h.1; omega)] at hP
                exact hP
            · rintro - hP
              rw [List.drop_length] at hP
              cases hP
    · rintro v' -
      simp
      exact ⟨k, j, v', out ++ [t], ⟨hk, hj.1, by simp; omega⟩, ⟨⟨rfl, rfl⟩, .inl ⟨rfl, by simp⟩⟩, by omega⟩
  · cases hk
end Go.Gv

namespace Go.Gv
set_option linter.unusedSimpArgs false
set_option linter.unusedVariables false
set_option maxRecDepth 100000
open Cod (enc dec)
variable {S S0 : Nat → Spc}
abbrev s_Compact_Source : Spc := ioC (Y := Span) a0 (fun _ l => l.length ≤ 100000) (fun _ l r => r = cptS l) ty_Source 2
theorem w_slices_Compact_Source : WalkIO (Y := Span) cc_slices_Compact_Source rs_slices_Compact_Source S a0 (fun _ l => l.length ≤ 100000) (fun _ l r => r = cptS l) ty_Source 2 := by
  rintro v l ⟨⟩ hl
  simp [cc_slices_Compact_Source, rs_slices_Compact_Source]
  refine fun _ => ⟨fun h => ?_, fun h2 => ?_⟩
  · exact finF_of l (by simp) (cptS_short (by omega)).symm
  · refine vc_while (X := Nat) [0] [0] (fun k => 1 ≤ k ∧ k ≤ l.length ∧ cptS (l.take k) = l.take k) (fun k => [(3, enc (k : Int))]) (fun _ => []) (fun k => l.length - k) 1 ?_ (by simp) (by simp) ?_
    · exact ⟨by omega, by omega, cptS_one (by omega)⟩
    · rintro k ⟨hk1, hk2, hP⟩
      by_cases hkl : k < l.length
      · obtain ⟨x, hx⟩ := at_lt hkl
        obtain ⟨y, hy⟩ := at_lt (l := l) (k := k - 1) (by omega)
        have e1 : ((k : Int) - 1).toNat = k - 1 := by omega
        have e2 : ((k : Int) < l.length) := by omega
        have e3 : ¬ l.length ≤ k := by omega
        simp [hx, hy, InR, e1, e3]
        intro _ _
        have hstep := cptS_step hk1 hx hy
        refine ⟨hkl, by omega, by omega, by omega, by omega, fun q1 q2 => ⟨hk2, ?_⟩, fun hne => ⟨by omega, k + 1, ⟨by omega, by omega, ?_⟩, by omega, by omega⟩⟩
        · -- from here on elements are moved
          have hxy : x = y := Span.ext' q1 q2
          rw [if_pos hxy] at hstep
          refine vc_mid (X := Nat × List Span) [0] [] (fun z => z.2.length = l.length ∧ z.1 ≤ l.length ∧ z.2.take z.1 = cptS l) (fun z => [(3, enc (z.1 : Int))]) (fun z => [(0, .row v ty_Source 2 (z.2.map enc))]) ?_ ?_
          · simp
            refine vc_while (X := Nat × Nat × List Span) [0, 4] [] (fun z => z.2.2.length = l.length ∧ 1 ≤ z.2.1 ∧ k + z.2.1 ≤ l.length ∧ z.1 < k + z.2.1 ∧ z.2.2.take z.1 = cptS (l.take (k + z.2.1)) ∧ z.2.2.drop (k + z.2.1 - 1) = l.drop (k + z.2.1 - 1)) (fun z => [(3, enc (z.1 : Int)), (5, enc (z.2.1 : Int))]) (fun z => [(0, .row v ty_Source 2 (z.2.2.map enc))]) (fun z => l.length - z.2.1) (k, 1, l) ?_ (by simp) (by simp) ?_
            · simp
              refine ⟨by omega, ?_⟩
              rw [hstep, hP]
            · rintro ⟨i, j, cur⟩ ⟨c1, c2, c3, c4, c5, c6⟩
              simp at c1 c2 c3 c4 c5 c6
              by_cases hj : j < l.length - k
              · obtain ⟨a, ha⟩ := at_lt (l := l) (k := k + j) (by omega)
                obtain ⟨b, hb⟩ := at_lt (l := l) (k := k + j - 1) (by omega)
                have ha' : cur[k + j]? = some a := (drop_at c6 (by omega)).trans ha
                have hb' : cur[k + (j - 1)]? = some b := by
                  rw [show k + (j - 1) = k + j - 1 by omega]; exact (drop_at c6 (Nat.le_refl _)).trans hb
                obtain ⟨u, hu⟩ := at_lt (l := cur) (k := i) (by omega)
                have hs := cptS_step (j := k + j) (by omega) ha hb
                have hj' : ¬ l.length - k ≤ j := by omega
                simp [ha', hb', hu, InR, hj']
                intro _ _
                refine ⟨by omega, by omega, by omega, by omega, by omega, by omega, fun hne => ⟨by omega, by omega, by omega, by omega, by omega, i + 1, j + 1, cur.set i a, ⟨by simp; omega, by omega, by omega, by omega, ?_, ?_⟩, ⟨by omega, .inl ?_⟩, by omega⟩, fun q3 q4 => ⟨by omega, i, j + 1, cur, ⟨c1, by omega, by omega, by omega, ?_, ?_⟩, ⟨by omega, .inl rfl⟩, by omega⟩⟩
                · rw [(set_take_drop (m := k + j) (l := l) (by omega) c4 (drop_more c6 (by omega))).1, c5, show k + (j + 1) = k + j + 1 by omega, hs, if_neg]
                  rintro rfl
                  rcases hne with h | h <;> exact h rfl
                · rw [show k + (j + 1) - 1 = k + j by omega]
                  exact (set_take_drop (m := k + j) (l := l) (by omega) c4 (drop_more c6 (by omega))).2
                · exact set_encS cur i a
                · rw [c5, show k + (j + 1) = k + j + 1 by omega, hs, if_pos (Span.ext' q3 q4)]
                · exact drop_more c6 (by omega)
              · have hj' : j = l.length - k := by omega
                subst hj'
                simp
                intro _
                refine ⟨i, cur, ⟨c1, by omega, ?_⟩, rfl, .inl rfl⟩
                rw [c5, show k + (l.length - k) = l.length by omega, List.take_length]
          · rintro ⟨i, cur⟩ ⟨c1, c2, c3⟩
            simp at c1 c2 c3
            simp
            refine ⟨by omega, by omega, fun v => finF_of (cptS l) ?_ rfl⟩
            have e : (cptS l).map enc = (cur.map enc).take i := by rw [← c3, List.map_take]
            rw [e]
            simp [List.take_append, c1, c2]
        · rw [if_neg (fun e => by subst e; exact hne rfl rfl)] at hstep
          rw [hstep, hP, take_snoc hx]
      · have e3 : k = l.length := by omega
        subst e3
        simp
        rw [List.take_length] at hP
        exact fun _ => finF_of l (by simp) hP.symm

section
variable {α : Type} [DecidableEq α]
def ddG (l : List α) (x : α) : List α := if l.getLast? = some x then l else l ++ [x]
def cptG (l : List α) : List α := l.foldl ddG []
theorem cptG_snoc (l : List α) (x : α) : cptG (l ++ [x]) = ddG (cptG l) x := by simp [cptG]
theorem cptG_last (l : List α) : (cptG l).getLast? = l.getLast? := by
  refine list_snoc (P := fun l => (cptG l).getLast? = l.getLast?) rfl (fun l x ih => ?_) l
  rw [cptG_snoc, ddG]
  split
  · rename_i h; rw [h]; simp
  · simp
theorem cptG_len (l : List α) : (cptG l).length ≤ l.length := by
  refine list_snoc (P := fun l => (cptG l).length ≤ l.length) (Nat.le_refl _) (fun l x ih => ?_) l
  rw [cptG_snoc, ddG]
  split <;> simp <;> omega
theorem cptG_mem (l : List α) : ∀ x, x ∈ cptG l ↔ x ∈ l := by
  refine list_snoc (P := fun l => ∀ x, x ∈ cptG l ↔ x ∈ l) (fun x => Iff.rfl) (fun l y ih x => ?_) l
  rw [cptG_snoc, ddG]
  split
  · rename_i h
    rw [cptG_last] at h
    have hy : y ∈ l := List.mem_of_getLast? h
    simp [ih x]
    rintro rfl; exact hy
  · simp [ih x]
theorem cptG_short {l : List α} (h : l.length < 2) : cptG l = l := by
  match l, h with
  | [], _ => rfl
  | [x], _ => rfl
  | x :: y :: l, h => exact absurd h (by simp only [List.length_cons]; omega)
theorem cptG_one {l : List α} (h : 1 ≤ l.length) : cptG (l.take 1) = l.take 1 := cptG_short (by simp; omega)
theorem cptG_step {l : List α} {j : Nat} {x y : α} (hj : 1 ≤ j) (hx : l[j]? = some x) (hy : l[j - 1]? = some y) : cptG (l.take (j + 1)) = if x = y then cptG (l.take j) else cptG (l.take j) ++ [x] := by
  rw [take_snoc hx, cptG_snoc, ddG, cptG_last]
  have : (l.take j).getLast? = some y := by
    have e := take_snoc hy
    rw [Nat.sub_add_cancel hj] at e
    rw [e]; simp
  rw [this]
  by_cases h : x = y
  · subst h; simp
  · have : ¬ y = x := fun e => h e.symm
    simp [h, this]
end
abbrev s_Compact_int : Spc := ioC (Y := Int) a0 (fun _ l => l.length ≤ 100000) (fun _ l r => r = cptG l) ty_int 1
theorem w_slices_Compact_int : WalkIO (Y := Int) cc_slices_Compact_int rs_slices_Compact_int S a0 (fun _ l => l.length ≤ 100000) (fun _ l r => r = cptG l) ty_int 1 := by
  rintro v l ⟨⟩ hl
  simp [cc_slices_Compact_int, rs_slices_Compact_int]
  refine fun _ => ⟨fun h => ?_, fun h2 => ?_⟩
  · exact finF_of l (by simp) (cptG_short (by omega)).symm
  · refine vc_while (X := Nat) [0] [0] (fun k => 1 ≤ k ∧ k ≤ l.length ∧ cptG (l.take k) = l.take k) (fun k => [(3, enc (k : Int))]) (fun _ => []) (fun k => l.length - k) 1 ?_ (by simp) (by simp) ?_
    · exact ⟨by omega, by omega, cptG_one (by omega)⟩
    · rintro k ⟨hk1, hk2, hP⟩
      by_cases hkl : k < l.length
      · obtain ⟨x, hx⟩ := at_lt hkl
        obtain ⟨y, hy⟩ := at_lt (l := l) (k := k - 1) (by omega)
        have e1 : ((k : Int) - 1).toNat = k - 1 := by omega
        have e2 : ((k : Int) < l.length) := by omega
        have e3 : ¬ l.length ≤ k := by omega
        simp [hx, hy, InR, e1, e3]
        intro _ _
        have hstep := cptG_step hk1 hx hy
        refine ⟨hkl, by omega, by omega, by omega, by omega, fun q1 => ⟨hk2, ?_⟩, fun hne => ⟨by omega, k + 1, ⟨by omega, by omega, ?_⟩, by omega, by omega⟩⟩
        · -- from here on elements are moved
          have hxy : x = y := q1
          rw [if_pos hxy] at hstep
          refine vc_mid (X := Nat × List Int) [0] [] (fun z => z.2.length = l.length ∧ z.1 ≤ l.length ∧ z.2.take z.1 = cptG l) (fun z => [(3, enc (z.1 : Int))]) (fun z => [(0, .row v ty_int 1 (z.2.map enc))]) ?_ ?_
          · simp
            refine vc_while (X := Nat × Nat × List Int) [0, 4] [] (fun z => z.2.2.length = l.length ∧ 1 ≤ z.2.1 ∧ k + z.2.1 ≤ l.length ∧ z.1 < k + z.2.1 ∧ z.2.2.take z.1 = cptG (l.take (k + z.2.1)) ∧ z.2.2.drop (k + z.2.1 - 1) = l.drop (k + z.2.1 - 1)) (fun z => [(3, enc (z.1 : Int)), (5, enc (z.2.1 : Int))]) (fun z => [(0, .row v ty_int 1 (z.2.2.map enc))]) (fun z => l.length - z.2.1) (k, 1, l) ?_ (by simp) (by simp) ?_
            · simp
              refine ⟨by omega, ?_⟩
              rw [hstep, hP]
            · rintro ⟨i, j, cur⟩ ⟨c1, c2, c3, c4, c5, c6⟩
              simp at c1 c2 c3 c4 c5 c6
              by_cases hj : j < l.length - k
              · obtain ⟨a, ha⟩ := at_lt (l := l) (k := k + j) (by omega)
                obtain ⟨b, hb⟩ := at_lt (l := l) (k := k + j - 1) (by omega)
                have ha' : cur[k + j]? = some a := (drop_at c6 (by omega)).trans ha
                have hb' : cur[k + (j - 1)]? = some b := by
                  rw [show k + (j - 1) = k + j - 1 by omega]; exact (drop_at c6 (Nat.le_refl _)).trans hb
                obtain ⟨u, hu⟩ := at_lt (l := cur) (k := i) (by omega)
                have hs := cptG_step (j := k + j) (by omega) ha hb
                have hj' : ¬ l.length - k ≤ j := by omega
                simp [ha', hb', hu, InR, hj']
                intro _ _
                refine ⟨by omega, by omega, by omega, by omega, by omega, by omega, fun hne => ⟨by omega, by omega, by omega, by omega, by omega, i + 1, j + 1, cur.set i a, ⟨by simp; omega, by omega, by omega, by omega, ?_, ?_⟩, ⟨by omega, .inl ?_⟩, by omega⟩, fun q3 => ⟨by omega, i, j + 1, cur, ⟨c1, by omega, by omega, by omega, ?_, ?_⟩, ⟨by omega, .inl rfl⟩, by omega⟩⟩
                · rw [(set_take_drop (m := k + j) (l := l) (by omega) c4 (drop_more c6 (by omega))).1, c5, show k + (j + 1) = k + j + 1 by omega, hs, if_neg]
                  rintro rfl
                  exact hne rfl
                · rw [show k + (j + 1) - 1 = k + j by omega]
                  exact (set_take_drop (m := k + j) (l := l) (by omega) c4 (drop_more c6 (by omega))).2
                · exact (List.map_set ..).symm
                · rw [c5, show k + (j + 1) = k + j + 1 by omega, hs, if_pos (q3)]
                · exact drop_more c6 (by omega)
              · have hj' : j = l.length - k := by omega
                subst hj'
                simp
                intro _
                refine ⟨i, cur, ⟨c1, by omega, ?_⟩, rfl, .inl rfl⟩
                rw [c5, show k + (l.length - k) = l.length by omega, List.take_length]
          · rintro ⟨i, cur⟩ ⟨c1, c2, c3⟩
            simp at c1 c2 c3
            simp
            refine ⟨by omega, by omega, fun v => finF_of (cptG l) ?_ rfl⟩
            have e : (cptG l).map enc = (cur.map enc).take i := by rw [← c3, List.map_take]
            rw [e]
            simp [List.take_append, c1, c2]
        · rw [if_neg (fun e => by subst e; exact hne rfl)] at hstep
          rw [hstep, hP, take_snoc hx]
      · have e3 : k = l.length := by omega
        subst e3
        simp
        rw [List.take_length] at hP
        exact fun _ => finF_of l (by simp) hP.symm

def P_shift (x : List Int × Int) : Prop := x.1.length ≤ 100000 ∧ 0 ≤ x.2 ∧ x.2 ≤ 1000000 ∧ ∀ a ∈ x.1, 0 ≤ a ∧ a ≤ 1000000000000000
abbrev s_estimate_shift : Spc := spc (a2 (List Int) Int) P_shift (enc (X := List Int)) (fun x y => y = x.1.map (· + x.2))
theorem w_estimate_shift : Walk cc_estimate_shift rs_estimate_shift S (a2 (List Int) Int) P_shift (enc (X := List Int)) (fun x y => y = x.1.map (· + x.2)) := by
  rintro ⟨l, n⟩ ⟨hl, hn0, hn1, ha⟩
  simp only at hl hn0 hn1 ha
  simp [cc_estimate_shift, rs_estimate_shift]
  intro _
  refine vc_range (X := Value × List Int) [1, 8] [] l.length (fun k x => x.2 = (l.take k).map (· + n)) (fun x => [(5, .own 19 x.1)]) (fun x => [(19, .row x.1 ty_int 1 (x.2.map enc))]) (.slice none 0 0, []) (by simp) (by simp) (by omega) (by simp) (by simp) (by simp) (by simp) (by simp [isNilRow]) ?_ ?_
  · rintro k ⟨v, m⟩ hkl hm
    simp only at hm
    obtain ⟨x, hx⟩ := at_lt hkl
    have hx1 := ha x (mem_at hx)
    obtain ⟨_, hgx⟩ := List.getElem?_eq_some_iff.1 hx
    have hml : m.length = k := by rw [hm]; simp; omega
    simp [hkl, hx, hgx]
    refine ⟨by simp only [InR]; omega, by omega, by omega, fun v => .inl ?_⟩
    rw [List.take_add_one, hm]
    simp [hx]
  · rintro ⟨v, m⟩ hm
    simp only at hm
    rw [List.take_length] at hm
    simp
    exact fin_of m (fz_o ty_int (by simp)) hm
abbrev s_Sort_int : Spc := iuC (Y := Int) a0 (fun _ l => l.length ≤ 100000) (fun _ l r => r.length = l.length ∧ ∀ x, x ∈ r ↔ x ∈ l) ty_int 1
/-- What times is asked for: the pattern is a repetition. -/
def P_times (x : Pat × List Int) : Prop := x.1.op = 6 ∧ patB validN x.1 = true ∧ x.2.length * cntP x.1 ≤ 100000 ∧ ∀ a ∈ x.2, 0 ≤ a ∧ a ≤ 1000000000000000
def Q_times (x : Pat × List Int) (y : List Int) : Prop := y.length ≤ x.2.length * (max 1 x.1.mn).toNat ∧ ∀ k0, x.1.kids = [k0] → ∀ z, z ∈ y ↔ ∃ a ∈ x.2, ∃ i : Int, 0 ≤ i ∧ i < x.1.mn ∧ (i = 0 ∨ (widP k0).1 = (widP k0).2) ∧ z = a + i * (widP k0).1
abbrev s_estimate_times : Spc := spc (a2 Pat (List Int)) P_times (enc (X := List Int)) Q_times
theorem w_estimate_times (h1 : S f_query_Width = s_Width) (h2 : S f_estimate_shift = s_estimate_shift) (h3 : S f_slices_Sort_int = s_Sort_int) (h4 : S f_slices_Compact_int = s_Compact_int) : Walk cc_estimate_times rs_estimate_times S (a2 Pat (List Int)) P_times (enc (X := List Int)) Q_times := by
  rintro ⟨p, l⟩ ⟨ho, hp, hl, ha⟩
  simp only at ho hp hl ha
  rcases node_kids (patB_node hp).1 with ⟨ho', _⟩ | ⟨ho', _⟩ | ⟨ho', _⟩ | ⟨_, k0, hkk⟩
  · omega
  · omega
  · omega
  have q1 := patB_kid hp (show k0 ∈ p.kids by rw [hkk]; simp)
  have q2 : WidOk (widP k0) := widP_ok k0 q1
  have hn := (patB_node hp).2.2
  unfold numB at hn
  rw [decide_eq_true_eq] at hn
  have hn := hn ho
  have hsz : cntP p = (max 1 p.mn).toNat * cntP k0 := by rw [cntP_eq, hkk, if_neg (by simp), if_pos ho, cntPs, cntPs, Nat.add_zero]
  have hc1 := cntP_pos k0
  have hlm : l.length * (max 1 p.mn).toNat ≤ 100000 := by
    have := Nat.mul_le_mul_left (l.length * (max 1 p.mn).toNat) hc1
    rw [hsz, ← Nat.mul_assoc] at hl
    omega
  have hl1 : l.length ≤ 100000 := by
    have := Nat.mul_le_mul_left l.length (show 1 ≤ (max 1 p.mn).toNat by omega)
    omega
  simp [cc_estimate_times, rs_estimate_times, h1, hkk, q1, er2]
  refine ⟨fun he => fin_of [] (by simp) ⟨by simp, fun k hk z => ?_⟩, fun hne => ⟨fun hw => fin_of l (by simp) ⟨?_, fun k hk z => ?_⟩, fun hw => ?_⟩⟩
  · simp only [List.not_mem_nil, false_iff]
    rintro ⟨a, _, i, h0, h1, _⟩
    have h1 : i < p.mn := h1
    omega
  · exact Nat.le_mul_of_pos_right _ (by omega)
  · rw [hkk] at hk
    cases hk
    constructor
    · intro h
      exact ⟨z, h, 0, Int.le_refl _, by show 0 < p.mn; omega, .inl rfl, by simp⟩
    · rintro ⟨a, ha1, i, h0, h1, h2, rfl⟩
      rcases h2 with rfl | h2
      · simpa using ha1
      · exact absurd h2 hw
  · refine vc_range (X := Value × List Int) [1, 5] [] p.mn.toNat (fun k x => x.2.length = l.length * k ∧ ∀ z, z ∈ x.2 ↔ ∃ a ∈ l, ∃ i : Int, 0 ≤ i ∧ i < k ∧ z = a + i * (widP k0).1) (fun x => [(7, .own 35 x.1)]) (fun x => [(35, .row x.1 ty_int 1 (x.2.map enc))]) (.slice none 0 0, []) (by simp) (by simp; omega) (by omega) (by simp) (by simp) (by simp; intro z a _ i h0 h1; omega) (by simp) (by simp [isNilRow]) ?_ ?_
    · rintro k ⟨v, m⟩ hkl ⟨hm, hm2⟩
      simp only at hm hm2
      unfold WidOk at q2
      have hmr := mul_rng (show (0 : Int) ≤ k by omega) (show (k : Int) ≤ 16 by omega) q2.1 q2.2.1
      have q3 : P_shift (l, (k : Int) * (widP k0).1) := ⟨hl1, hmr.1, by show (k : Int) * (widP k0).1 ≤ _; omega, ha⟩
      simp [h2, q3]
      clear h1 h2 h3 h4
      have hb : m.length + l.length ≤ 100000 := by
        have := Nat.mul_le_mul_left l.length (show k + 1 ≤ (max 1 p.mn).toNat by omega)
        rw [Nat.mul_succ] at this
        omega
      refine ⟨by simp only [InR]; omega, by omega, by omega, fun v => ⟨v, m ++ l.map (· + (k : Int) * (widP k0).1), ⟨by rw [List.length_append, List.length_map, Nat.mul_succ, hm], fun z => ?_⟩, rfl, .inl ⟨rfl, by simp⟩⟩⟩
      rw [List.mem_append, hm2 z, List.mem_map]
      constructor
      · rintro (⟨a, ha1, i, h0, h1, h2⟩ | ⟨a, ha1, h2⟩)
        · exact ⟨a, ha1, i, h0, by omega, h2⟩
        · exact ⟨a, ha1, k, by omega, by omega, h2.symm⟩
      · rintro ⟨a, ha1, i, h0, h1, h2⟩
        by_cases e : i < k
        · exact .inl ⟨a, ha1, i, h0, e, h2⟩
        · have : i = k := by omega
          subst this
          exact .inr ⟨a, ha1, h2.symm⟩
    · rintro ⟨v, m⟩ ⟨hm, hm2⟩
      simp only at hm hm2
      have hm1 : m.length ≤ 100000 := by
        have : l.length * p.mn.toNat ≤ l.length * (max 1 p.mn).toNat := Nat.mul_le_mul_left _ (by omega)
        omega
      simp [h3, h4, hm1]
      clear h1 h2 h3 h4
      intro r hr1 hr2
      refine ⟨by omega, fun v' => fin_of (cptG r) (fz_o ty_int (by simp)) ⟨?_, fun k hk z => ?_⟩⟩
      · show (cptG r).length ≤ l.length * (max 1 p.mn).toNat
        have := cptG_len r
        have : l.length * p.mn.toNat ≤ l.length * (max 1 p.mn).toNat := Nat.mul_le_mul_left _ (by omega)
        omega
      · rw [hkk] at hk
        cases hk
        rw [cptG_mem, hr2 z, hm2 z]
        refine exists_congr fun a => and_congr_right fun _ => exists_congr fun i => ⟨fun ⟨h0, h1, h2⟩ => ⟨h0, by show i < p.mn; omega, .inr hw, h2⟩, fun ⟨h0, h1, _, h2⟩ => ⟨h0, ?_, h2⟩⟩
        have h1 : i < p.mn := h1
        omega
end Go.Gv

namespace Go.Gv
set_option linter.unusedSimpArgs false
set_option linter.unusedVariables false
set_option maxRecDepth 100000
open Cod (enc dec)
variable {S S0 : Nat → Spc}
abbrev s_zero : Spc := spc (a1 Cond) (fun _ => True) (enc (X := Bool)) fun x y => (y = true ↔ x = Cond0)
theorem w_query_zero : Walk cc_query_zero rs_query_zero S (a1 Cond) (fun _ => True) (enc (X := Bool)) fun x y => (y = true ↔ x = Cond0) := by
  rintro ⟨op, n, a, v, l, f, ks⟩ -
  simp [cc_query_zero, rs_query_zero, Cond0]
  repeat' first | apply And.intro | intro _
  all_goals simp_all
abbrev s_node : Spc := spc (a1 Pat) (fun _ => True) (enc (X := Bool)) fun x y => y = nodeB x
theorem w_query_node (h1 : S f_query_zero = s_zero) : Walk cc_query_node rs_query_node S (a1 Pat) (fun _ => True) (enc (X := Bool)) fun x y => y = nodeB x := by
  rintro p -
  simp [cc_query_node, rs_query_node, h1, -Bool.forall_bool]
  clear h1
  repeat' first | apply And.intro | intro _
  all_goals (rw [Bool.eq_iff_iff, nodeB_iff]; unfold NodeOk; simp_all; try omega)
abbrev s_named : Spc := spc (a1 Pat) (fun _ => True) (enc (X := Bool)) fun x y => y = nameB validN x
theorem w_query_named (h1 : S f_markup_ValidName = s_validN) : Walk cc_query_named rs_query_named S (a1 Pat) (fun _ => True) (enc (X := Bool)) fun x y => y = nameB validN x := by
  rintro p -
  simp [cc_query_named, rs_query_named, h1, nameB, -Bool.forall_bool]
  clear h1
  repeat' first | apply And.intro | intro _
  all_goals (first | omega | simp_all; try omega)
abbrev s_ranged : Spc := spc (a1 Pat) (fun _ => True) (enc (X := Bool)) fun x y => y = numB x
theorem w_query_ranged : Walk cc_query_ranged rs_query_ranged S (a1 Pat) (fun _ => True) (enc (X := Bool)) fun x y => y = numB x := by
  rintro p -
  simp [cc_query_ranged, rs_query_ranged, numB]
  repeat' first | apply And.intro | intro _
  all_goals (first | omega | (rw [Bool.eq_iff_iff]; simp; omega))
end Go.Gv

namespace Go.Gv
set_option linter.unusedSimpArgs false
set_option linter.unusedVariables false
set_option maxRecDepth 100000
open Cod (enc dec)
variable {S S0 : Nat → Spc}
theorem w_query_size (n : Nat) (h1 : S f_query_size = s_size n) : Walk cc_query_size rs_query_size S (a1 Pat) (PPat (n + 1)) (enc (X := Int)) fun x y => y = sizeP x := by
  rintro p hp
  have hk : ∀ k ∈ p.kids, PPat n k := fun k => hp.kid
  have hs : ∀ k ∈ p.kids, 0 ≤ sizeP k ∧ sizeP k ≤ 1000 := fun k h => sizeP_rng (v := validN) k (hk k h).2
  simp [cc_query_size, rs_query_size]
  intro _
  refine vc_range (X := Int) [1, 7] [] p.kids.length (fun k n => n = sizePs (p.kids.take k) 0) (fun n => [(3, enc n)]) (fun _ => []) 0 (by simp) (by simp) (by omega) (by simp) (by simp) (by simp [sizePs]) (by simp) (by simp) ?_ ?_
  · rintro k m hkl hP
    obtain ⟨x, hx⟩ := at_lt hkl
    have hx1 := mem_at hx
    obtain ⟨_, hgx⟩ := List.getElem?_eq_some_iff.1 hx
    have hm := sizePs_rng (p.kids.take k) 0 (by omega) (by omega) (fun y hy => (hs y (List.mem_of_mem_take hy)).1)
    have h2 := hs x hx1
    rw [← hP] at hm
    have q1 := hk x hx1
    simp [h1, hkl, hx, hgx, q1]
    refine ⟨by simp only [InR]; omega, ?_⟩
    rw [take_snoc hx, sizePs_app, ← hP, sizePs, sizePs]
  · rintro m hP
    have hm := sizePs_rng (p.kids.take p.kids.length) 0 (by omega) (by omega) (fun y hy => (hs y (List.mem_of_mem_take hy)).1)
    rw [← hP] at hm
    rw [List.take_length] at hP
    have hn := (patB_node hp.2).2.2
    unfold numB at hn
    rw [decide_eq_true_eq] at hn
    rw [sizeP_eq, sizeN, ← hP]
    simp
    intro _
    refine ⟨fun h => fun h' => absurd h h', fun h0 => ⟨fun h6 => ?_, fun h6 => by rw [if_neg h0, if_neg h6]⟩⟩
    rw [if_neg h0, if_pos h6]
    have hn := hn h6
    refine ⟨fun e => by rw [if_neg (by omega), if_pos e], fun e => ⟨fun e2 => ?_, fun e2 => ?_⟩⟩
    · have h2 := mul_rng hm.1 hm.2 (show 0 ≤ p.mn + 1 by omega) (show p.mn + 1 ≤ 17 by omega)
      rw [if_pos (by omega)]
      exact ⟨by simp only [InR]; omega, by simp only [InR]; omega, rfl⟩
    · have h2 := mul_rng hm.1 hm.2 (show 0 ≤ p.mx by omega) (show p.mx ≤ 16 by omega)
      rw [if_neg (by omega), if_neg e]
      exact ⟨by simp only [InR]; omega, rfl⟩
theorem w_query_Size (h1 : S f_query_right = s_r23_IsPattern) (h2 : S f_query_size = s_sizeA) : Walk cc_query_Size rs_query_Size S (a1 Pat) (fun _ => True) (enc (X := Int)) fun x y => y = if patB validN x then sizeP x else 0 := by
  rintro p -
  simp [cc_query_Size, rs_query_Size, h1, h2, -Bool.forall_bool]
  exact ⟨fun h1 h2 => absurd (h1.symm.trans h2) (by simp), fun h1 => ⟨h1, fun h2 => absurd (h2.symm.trans h1) (by simp)⟩⟩
theorem w_query_Width (h1 : S f_query_right = s_r23_IsPattern) (h2 : S f_query_width = s_widthA) : Walk cc_query_Width rs_query_Width S (a1 Pat) (fun _ => True) (er2 (Y := Int) (Z := Int)) fun x y => y = if patB validN x then widP x else (0, 0) := by
  rintro p -
  simp [cc_query_Width, rs_query_Width, h1, h2, er2, -Bool.forall_bool]
  exact ⟨fun h1 h2 => absurd (h1.symm.trans h2) (by simp), fun h1 => ⟨h1, fun h2 => absurd (h2.symm.trans h1) (by simp)⟩⟩
theorem w_query_width (n : Nat) (h1 : S f_query_width = s_width n) : Walk cc_query_width rs_query_width S (a1 Pat) (PPat (n + 1)) (er2 (Y := Int) (Z := Int)) fun x y => y = widP x := by
  rintro p hp
  have hk : ∀ k ∈ p.kids, PPat n k := fun k => hp.kid
  have hs : ∀ k ∈ p.kids, WidOk (widP k) := fun k h => widP_ok (v := validN) k (hk k h).2
  have hn := (patB_node hp.2).2.2
  unfold numB at hn
  rw [decide_eq_true_eq] at hn
  rcases node_kids (patB_node hp.2).1 with ⟨ho, _⟩ | ⟨ho, _⟩ | ⟨ho, k0, ks, hkk⟩ | ⟨ho, k0, hkk⟩
  · simp [cc_query_width, rs_query_width, h1, ho, widP1 ho]
  · have := widP2 ho
    rcases ho with ho | ho <;> simp [cc_query_width, rs_query_width, h1, ho, this]
  · have hc : p.op ≠ 1 ∧ p.op ≠ 2 ∧ p.op ≠ 3 ∧ p.op ≠ 6 := by omega
    have q1 := hk k0 (by rw [hkk]; simp)
    have q2 := hs k0 (by rw [hkk]; simp)
    simp [cc_query_width, rs_query_width, h1, hc, er2, hkk, q1]
    refine ⟨by omega, fun _ => ?_⟩
    refine vc_range (X := Int × Int) [1, 69] [] ks.length (fun k w => w = widPs (decide (p.op = 4)) (ks.take k) (widP k0) ∧ WidOk w) (fun w => [(6, enc w.1), (7, enc w.2)]) (fun _ => []) (widP k0) (by simp) (by simp) (by omega) (by simp) (by simp) (by simp [widPs, q2]) (by simp) (by simp) ?_ ?_
    · rintro k w hkl ⟨hP1, hP2⟩
      obtain ⟨x, hx⟩ := at_lt hkl
      have hx1 : x ∈ p.kids := by rw [hkk]; exact List.mem_cons_of_mem _ (mem_at hx)
      obtain ⟨_, hgx⟩ := List.getElem?_eq_some_iff.1 hx
      have q3 := hk x hx1
      have q4 := hs x hx1
      have key : ∀ r : Int × Int, r = widC (decide (p.op = 4)) w (widP x) → r = widPs (decide (p.op = 4)) (ks.take (k + 1)) (widP k0) ∧ WidOk r := by
        intro r hr
        rw [take_snoc hx, widPs_app, widPs, widPs, ← hP1]
        exact ⟨hr, by rw [hr]; exact widC_ok hP2 q4⟩
      simp [h1, hkl, hx, hgx, q3, er2]
      clear h1
      generalize widP x = u at q4 key
      obtain ⟨u1, u2⟩ := u
      obtain ⟨w1, w2⟩ := w
      unfold WidOk at q4 hP2
      simp only at q4 hP2
      clear hP1
      refine ⟨fun e1 => ⟨fun h4 => ⟨by simp only [InR]; omega, by simp only [InR]; omega, fun e2 => key _ ?_, fun e2 => key _ ?_⟩, fun h4 => ⟨fun e2 => key _ ?_, fun e2 => key _ ?_⟩⟩, fun e1 => ⟨fun h4 => ⟨by simp only [InR]; omega, by simp only [InR]; omega, key _ ?_⟩, fun h4 => key _ ?_⟩⟩
      all_goals clear key
      all_goals (try simp only at e1)
      all_goals (try simp only at e2)
      all_goals (unfold widC; simp [h4]; try omega)
    · rintro w ⟨hP, _⟩
      simp [er2]
      rw [widP4 ho hkk]
      rw [List.take_length] at hP
      rw [← hP]
  · have q1 := hk k0 (by rw [hkk]; simp)
    have q2 := hs k0 (by rw [hkk]; simp)
    have hn := hn ho
    simp [cc_query_width, rs_query_width, h1, ho, hkk, q1, er2]
    rw [widP6 ho hkk]
    generalize widP k0 = w at q2
    unfold WidOk at q2
    have h2 := mul_rng q2.1 q2.2.1 hn.1 hn.2.1
    refine ⟨by simp only [InR]; omega, fun e1 => ⟨fun e2 => by rw [if_pos (.inr e2)], fun e2 => ⟨fun e3 => ⟨fun e4 => ?_, fun e4 => ?_⟩, fun e3 => ?_⟩⟩, fun e1 => by rw [if_pos (.inl e1)]⟩
    · rw [if_neg (by omega), if_pos (by omega)]
    · have h3 := mul_rng e4 q2.2.2.2 (show 0 ≤ p.mx by omega) (show p.mx ≤ 16 by omega)
      refine ⟨by simp only [InR]; omega, ?_⟩
      rw [if_neg (by omega), if_neg (by omega)]
    · rw [if_neg (by omega), if_pos (by omega)]
end Go.Gv

namespace Go.Gv
set_option linter.unusedSimpArgs false
set_option linter.unusedVariables false
set_option maxRecDepth 100000
open Cod (enc dec)
variable {S S0 : Nat → Spc}
def lvN (ks : List Pat) : Nat := (ks.flatMap leavesP).length
theorem lvN_nil : lvN [] = 0 := rfl
theorem lvN_cons (k : Pat) (ks : List Pat) : lvN (k :: ks) = (leavesP k).length + lvN ks := by simp [lvN]
theorem lvN_eq {p : Pat} (h : p.op ≠ 1) : (leavesP p).length = lvN p.kids := by rw [leavesP_eq, if_neg h]; rfl
/-- A finder: the number of the next leaf; the slice of what was found (a row of its own). -/
structure Fnd where
  leaf : Int
  v : Value
  out : List Span
def fndB : BoxF Fnd := ⟨[47], fun x => [.v (.int .i64 x.leaf), .own 47 x.v], fun x => [(47, .row x.v ty_Source 2 (x.out.map enc))], fun _ => rfl⟩
@[simp] theorem fndB_ce (x : Fnd) : fndB.ce x = [.v (.int .i64 x.leaf), .own 47 x.v] := id rfl
@[simp] theorem fndB_hp (x : Fnd) : fndB.hp x = [(47, .row x.v ty_Source 2 (x.out.map enc))] := id rfl
def P_visit (n : Nat) (x : Fnd) (z : Pat × List Int) : Prop := PPat n z.1 ∧ 0 ≤ x.leaf ∧ x.leaf + pNum z.1 ≤ 100000000 ∧ x.out.length + z.2.length * cntP z.1 ≤ 100000 ∧ ∀ a ∈ z.2, 0 ≤ a ∧ a + 200000 * pNum z.1 ≤ 1000000000000000
def Q_visit (x : Fnd) (z : Pat × List Int) (x' : Fnd) (_ : Unit) : Prop := x'.leaf = x.leaf + (leavesP z.1).length ∧ x'.out.length ≤ x.out.length + z.2.length * cntP z.1 ∧ ∀ s, s ∈ x'.out ↔ s ∈ x.out ∨ ∃ a ∈ z.2, Src z.1 a x.leaf s
abbrev s_visit (n : Nat) : Spc := bpC fndB (a2 Pat (List Int)) er0 (P_visit n) Q_visit
theorem visit_use {n : Nat} {p : Pat} {l : List Int} {leaf : Int} {v : Value} {out : List Span} {d b : Nat} {P L : D} {H : HMap} {K : D → HMap → Prop} (hP : dec P = some p) (hL : dec L = some l)
    (h0 : H 0 = some (.box b [.v (.int .i64 leaf), .own 47 v])) (h47 : H 47 = some (.row v ty_Source 2 (out.map enc))) (hpre : P_visit n ⟨leaf, v, out⟩ (p, l))
    (hK : ∀ leaf' v' out', Q_visit ⟨leaf, v, out⟩ (p, l) ⟨leaf', v', out'⟩ () → K (.tup []) (updH (updH H 47 (some (.row v' ty_Source 2 (out'.map enc)))) 0 (some (.box b [.v (.int .i64 leaf'), .own 47 v'])))) : (s_visit n).pt d [.bptr 0 b 0, P, L] H K := by
  refine ⟨0, b, ⟨leaf, v, out⟩, (p, l), [P, L], rfl, ?_, h0, ?_, by simp [fndB], hpre, fun x' y hq => ?_⟩
  · rw [a2_dec, hP, hL]; rfl
  · intro q hq
    simp at hq
    subst hq
    exact h47
  · exact hK x'.leaf x'.v x'.out hq
theorem finV {b : Nat} {leaf : Int} {v : Value} {out : List Span} {q : Fnd → Unit → Prop} {H : HMap} (h0 : H 0 = some (.box b [.v (.int .i64 leaf), .own 47 v])) (h47 : H 47 = some (.row v ty_Source 2 (out.map enc))) (hq : q ⟨leaf, v, out⟩ ()) : FinBP fndB er0 b q (.tup []) H :=
  ⟨⟨leaf, v, out⟩, (), .same _, h0, fun p hp => by simp at hp; subst hp; exact h47, hq⟩
theorem w_estimate_visit (n : Nat) (h1 : S f_query_Width = s_Width) (h2 : S f_estimate_shift = s_estimate_shift) (h3 : S f_estimate_times = s_estimate_times) (h4 : S f_estimate_finder_visit = s_visit n) : WalkBP cc_estimate_finder_visit rs_estimate_finder_visit S fndB (a2 Pat (List Int)) er0 (P_visit (n + 1)) Q_visit := by
  rintro b ⟨leaf, v, out⟩ ⟨p, l⟩ ⟨hp, hl0, hl1, hlen, ha⟩
  simp only at hp hl0 hl1 hlen ha
  have hk : ∀ k ∈ p.kids, PPat n k := fun k => hp.kid
  have hs : ∀ k ∈ p.kids, WidOk (widP k) := fun k h => widP_ok (v := validN) k (hk k h).2
  have hn := (patB_node hp.2).2.2
  unfold numB at hn
  rw [decide_eq_true_eq] at hn
  have none4 : p.op ≠ 1 ∧ p.op ≠ 4 ∧ p.op ≠ 6 → ↑p.kids.length ≤ (9223372036854775807 : Int) → vc S cc_estimate_finder_visit (retK rs_estimate_finder_visit fun r H' => FinBP fndB er0 b (Q_visit ⟨leaf, v, out⟩ (p, l)) r H') (initS (.bptr 0 b 0 :: (a2 Pat (List Int)).view (p, l))) (updH (addH (fndB.hp ⟨leaf, v, out⟩) noH) 0 (some (.box b (fndB.ce ⟨leaf, v, out⟩)))) := by
    intro e hkl
    simp [cc_estimate_finder_visit, rs_estimate_finder_visit, e]
    intro _
    rw [pNum_eq] at hl1
    have hcnt : out.length ≤ 100000 := by omega
    refine vc_range (X := Fnd) [0, 17] [] p.kids.length (fun k x => 0 ≤ x.leaf ∧ x.leaf + pNums (p.kids.drop k) ≤ 100000000 ∧ x.out.length ≤ out.length ∧ x.leaf + lvN (p.kids.drop k) = leaf + lvN p.kids ∧ ∀ s, s ∈ x.out ↔ s ∈ out) (fun x => []) (fun x => [(0, .box b [.v (.int .i64 x.leaf), .own 47 x.v]), (47, .row x.v ty_Source 2 (x.out.map enc))]) ⟨leaf, v, out⟩ (by simp) (by simp) (by omega) (by simp) (by simp) ⟨hl0, by simp; omega, Nat.le_refl _, by simp, by simp⟩ (by simp) (by simp) ?_ ?_
    · rintro k ⟨leaf', v', out'⟩ hkl ⟨b0, b1, b2, b3, b4⟩
      simp only at b0 b1 b2 b3 b4
      obtain ⟨x, hx⟩ := at_lt hkl
      have hx1 := mem_at hx
      obtain ⟨_, hgx⟩ := List.getElem?_eq_some_iff.1 hx
      rw [drop_cons_of hx, pNums] at b1
      rw [drop_cons_of hx, lvN_cons] at b3
      have q1 := hk x hx1
      simp [hkl, hx, hgx]
      intro b1'
      rw [h4]
      refine visit_use (p := x) (l := []) (leaf := leaf') (v := v') (out := out') ?_ ?_ ?_ ?_ ⟨q1, b0, by show leaf' + (pNum x : Int) ≤ _; omega, by simp; omega, by simp⟩ ?_
      · simp
      · simp
      · simp
      · simp
      rintro leaf2 v2 out2 ⟨c1, c2, c3⟩
      simp only at c1 c2 c3
      have q4 := leavesP_le x
      simp
      refine ⟨⟨leaf2, v2, out2⟩, ⟨by show 0 ≤ leaf2; omega, by show leaf2 + _ ≤ _; omega, ?_, by show leaf2 + _ = _; omega, fun s => ?_⟩, .inl ⟨rfl, rfl⟩, .inl ⟨rfl, rfl⟩⟩
      · show out2.length ≤ out.length
        simp at c2
        omega
      · show s ∈ out2 ↔ s ∈ out
        rw [c3 s, b4 s]
        simp
    · rintro ⟨leaf', v', out'⟩ ⟨b0, b1, b2, b3, b4⟩
      simp only at b0 b1 b2 b3 b4
      simp
      refine finV (leaf := leaf') (v := v') (out := out') (by simp) (by simp) ⟨?_, ?_, fun s => ?_⟩
      · rw [List.drop_length] at b3
        rw [lvN_nil] at b3
        show leaf' = leaf + ((leavesP p).length : Int)
        rw [lvN_eq e.1]
        omega
      · show out'.length ≤ out.length + _
        omega
      · rw [b4 s]
        exact ⟨.inl, fun h => h.elim id fun ⟨a, _, h⟩ => absurd h (src0 e _ _ _)⟩
  have hkl : ↑p.kids.length ≤ (9223372036854775807 : Int) := by
    have : ∀ ks : List Pat, ks.length ≤ pNums ks := by
      intro ks
      induction ks with
      | nil => simp
      | cons k ks ih => rw [pNums, List.length_cons]; have : 1 ≤ pNum k := by rw [pNum_eq]; omega
                        omega
    have := this p.kids
    rw [pNum_eq] at hl1
    omega
  rcases node_kids (patB_node hp.2).1 with ⟨ho, hkk⟩ | ⟨ho, hkk⟩ | ⟨ho, k0, ks, hkk⟩ | ⟨ho, k0, hkk⟩
  · rw [cntP_eq, if_pos hkk, Nat.mul_one] at hlen
    simp [cc_estimate_finder_visit, rs_estimate_finder_visit, ho]
    intro _
    refine vc_range (X := Value × List Span) [0, 29] [] l.length (fun k x => x.2 = out ++ (l.take k).map fun a => ⟨leaf, a⟩) (fun x => []) (fun x => [(0, .box b [.v (.int .i64 leaf), .own 47 x.1]), (47, .row x.1 ty_Source 2 (x.2.map enc))]) (v, out) (by simp) (by simp) (by omega) (by simp) (by simp) (by simp) (by simp) (by simp) ?_ ?_
    · rintro k ⟨v, m⟩ hkl hm
      simp only at hm
      obtain ⟨x, hx⟩ := at_lt hkl
      obtain ⟨_, hgx⟩ := List.getElem?_eq_some_iff.1 hx
      have hml : m.length = out.length + k := by rw [hm]; simp; omega
      simp [hkl, hx, hgx]
      refine ⟨by omega, by omega, fun v => .inl (.inl ?_)⟩
      rw [List.take_add_one, hm]
      simp [hx]
    · rintro ⟨v', m⟩ hm
      simp only at hm
      rw [List.take_length] at hm
      simp
      have : 1 ≤ pNum p := by rw [pNum_eq]; omega
      refine ⟨by simp only [InR]; omega, finV (leaf := leaf + 1) (v := v') (out := m) (by simp) (by simp) ⟨?_, ?_, fun s => ?_⟩⟩
      · rw [leavesP_eq, if_pos ho]; rfl
      · show m.length ≤ out.length + l.length * cntP p
        rw [hm, cntP_eq, if_pos hkk]
        simp
      · show s ∈ m ↔ s ∈ out ∨ ∃ a ∈ l, Src p a leaf s
        rw [hm, List.mem_append, List.mem_map]
        refine or_congr_right (exists_congr fun a => and_congr_right fun _ => ?_)
        rw [src1 ho]
        exact eq_comm
  · exact none4 (by omega) hkl
  · by_cases h4' : p.op = 4
    · rw [pNum_eq] at hl1
      have ha' : ∀ a ∈ l, 0 ≤ a ∧ a + 200000 * pNums p.kids ≤ 1000000000000000 := fun a h => by have := ha a h; rw [pNum_eq] at this; omega
      rw [cntP_eq, if_neg (by rw [hkk]; simp), if_neg (by omega)] at hlen
      simp [cc_estimate_finder_visit, rs_estimate_finder_visit, h4']
      intro _
      refine vc_range (X := Fnd × List Int) [0, 61] [] p.kids.length (fun k x => (0 ≤ x.1.leaf ∧ x.1.leaf + pNums (p.kids.drop k) ≤ 100000000) ∧ x.1.out.length + x.2.length * cntPs (p.kids.drop k) ≤ out.length + l.length * cntPs p.kids ∧ (∀ a ∈ x.2, 0 ≤ a ∧ a + 200000 * pNums (p.kids.drop k) ≤ 1000000000000000) ∧ x.1.leaf + lvN (p.kids.drop k) = leaf + lvN p.kids ∧ ∀ s, (s ∈ x.1.out ∨ ∃ a ∈ x.2, Srcs (p.kids.drop k) a x.1.leaf s) ↔ (s ∈ out ∨ ∃ a ∈ l, Srcs p.kids a leaf s))
        (fun x => [(2, enc x.2)]) (fun x => [(0, .box b [.v (.int .i64 x.1.leaf), .own 47 x.1.v]), (47, .row x.1.v ty_Source 2 (x.1.out.map enc))]) (⟨leaf, v, out⟩, l) (by simp) (by simp) (by omega) (by simp) (by simp) ⟨⟨hl0, by simp; omega⟩, by simp, by simpa using ha', by simp, by simp⟩ (by simp) (by simp) ?_ ?_
      · rintro k ⟨⟨leaf', v', out'⟩, l'⟩ hkl ⟨⟨b0, b1⟩, b2, b3, b4, b5⟩
        simp only at b0 b1 b2 b3 b4 b5
        obtain ⟨x, hx⟩ := at_lt hkl
        have hx1 := mem_at hx
        obtain ⟨_, hgx⟩ := List.getElem?_eq_some_iff.1 hx
        rw [drop_cons_of hx, pNums] at b1 b3
        rw [drop_cons_of hx, cntPs, Nat.mul_add] at b2
        rw [drop_cons_of hx, lvN_cons] at b4
        have q1 := hk x hx1
        have q2 := hs x hx1
        simp [hkl, hx, hgx]
        intro b1'
        rw [h4]
        refine visit_use (p := x) (l := l') (leaf := leaf') (v := v') (out := out') ?_ ?_ ?_ ?_ ⟨q1, b0, by show leaf' + (pNum x : Int) ≤ _; omega, by show out'.length + l'.length * cntP x ≤ _; omega, fun a h => by have := b3 a h; show 0 ≤ a ∧ a + 200000 * (pNum x : Int) ≤ _; omega⟩ ?_
        · simp
        · simp
        · simp
        · simp
        rintro leaf2 v2 out2 ⟨c1, c2, c3⟩
        simp only at c1 c2 c3
        have q4 := leavesP_le x
        simp [h1, h2, q1.2, er2]
        unfold WidOk at q2
        have hlx : l'.length ≤ 100000 := by
          have := Nat.mul_le_mul_left l'.length (cntP_pos x)
          omega
        have hb : ∀ s, (s ∈ out2 ∨ ∃ a ∈ l', (widP x).1 = (widP x).2 ∧ Srcs (p.kids.drop (k + 1)) (a + (widP x).1) leaf2 s) ↔ (s ∈ out ∨ ∃ a ∈ l, Srcs p.kids a leaf s) := by
          intro s
          rw [← b5 s, c3 s, drop_cons_of hx, or_assoc, c1]
          refine or_congr_right ⟨?_, ?_⟩
          · rintro (⟨a, ha1, h⟩ | ⟨a, ha1, h⟩)
            · exact ⟨a, ha1, by rw [Srcs]; exact .inl h⟩
            · exact ⟨a, ha1, by rw [Srcs]; exact .inr h⟩
          · rintro ⟨a, ha1, h⟩
            rw [Srcs] at h
            rcases h with h | h
            · exact .inl ⟨a, ha1, h⟩
            · exact .inr ⟨a, ha1, h⟩
        refine ⟨fun hne => ⟨⟨by simp, q2.1, by show (widP x).1 ≤ _; omega, by simp⟩, ⟨leaf2, v2, out2⟩, [], ⟨⟨by show 0 ≤ leaf2; omega, by show leaf2 + _ ≤ _; omega⟩, ?_, by simp, by show leaf2 + _ = _; omega, fun s => ?_⟩, rfl, .inl ⟨rfl, rfl⟩, .inl ⟨rfl, rfl⟩⟩, fun he => ⟨⟨hlx, q2.1, by show (widP x).1 ≤ _; omega, fun a h => by have := b3 a h; omega⟩, ⟨leaf2, v2, out2⟩, l'.map (· + (widP x).1), ⟨⟨by show 0 ≤ leaf2; omega, by show leaf2 + _ ≤ _; omega⟩, ?_, fun a h => ?_, by show leaf2 + _ = _; omega, fun s => ?_⟩, rfl, .inl ⟨rfl, rfl⟩, .inl ⟨rfl, rfl⟩⟩⟩
        · simp
          show out2.length ≤ _
          omega
        · rw [← hb s]
          refine or_congr_right ⟨fun ⟨a, h, _⟩ => by simp at h, fun ⟨a, _, h, _⟩ => absurd h hne⟩
        · rw [List.length_map]
          show out2.length + _ ≤ _
          omega
        · obtain ⟨a0, h0, rfl⟩ := List.mem_map.1 h
          have := b3 a0 h0
          have h3 : 1 ≤ pNum x := by rw [pNum_eq]; omega
          show 0 ≤ a0 + (widP x).1 ∧ a0 + (widP x).1 + _ ≤ _
          omega
        · rw [← hb s]
          refine or_congr_right ⟨?_, ?_⟩
          · rintro ⟨a, h, h'⟩
            obtain ⟨a0, h0, rfl⟩ := List.mem_map.1 h
            exact ⟨a0, h0, he, h'⟩
          · rintro ⟨a, h, _, h'⟩
            exact ⟨a + (widP x).1, List.mem_map.2 ⟨a, h, rfl⟩, h'⟩
      · rintro ⟨⟨leaf', v', out'⟩, l'⟩ ⟨⟨b0, b1⟩, b2, b3, b4, b5⟩
        simp only at b0 b1 b2 b3 b4 b5
        rw [List.drop_length] at b2 b4 b5
        rw [lvN_nil] at b4
        rw [cntPs, Nat.mul_zero] at b2
        simp
        refine finV (leaf := leaf') (v := v') (out := out') (by simp) (by simp) ⟨?_, ?_, fun s => ?_⟩
        · show leaf' = leaf + ((leavesP p).length : Int)
          rw [lvN_eq (by omega)]
          omega
        · show out'.length ≤ out.length + l.length * cntP p
          rw [cntP_eq, if_neg (by rw [hkk]; simp), if_neg (by omega)]
          omega
        · show s ∈ out' ↔ s ∈ out ∨ ∃ a ∈ l, Src p a leaf s
          have : (∃ a ∈ l, Src p a leaf s) ↔ ∃ a ∈ l, Srcs p.kids a leaf s := exists_congr fun a => and_congr_right fun _ => src4 h4' _ _ _
          rw [this, ← b5 s]
          exact ⟨.inl, fun h => h.elim id fun ⟨a, _, h⟩ => by rw [Srcs] at h; exact h.elim⟩
    · exact none4 (by omega) hkl
  · have q1 := hk k0 (by rw [hkk]; simp)
    have q2 := hs k0 (by rw [hkk]; simp)
    have hn := hn ho
    have e6 : (⟨6, p.cond, p.lab, p.reg, p.mn, p.mx, p.kids⟩ : Pat) = p := by rw [← ho]; exact eta_Pat p
    have hsz : cntP p = (max 1 p.mn).toNat * cntP k0 := by rw [cntP_eq, hkk, if_neg (by simp), if_pos ho, cntPs, cntPs, Nat.add_zero]
    have hpn : pNum p = pNum k0 + 1 := by rw [pNum_eq, hkk, pNums, pNums]
    have ht : P_times (p, l) := ⟨ho, hp.2, by show l.length * cntP p ≤ _; omega, fun a h => by have := ha a h; omega⟩
    simp [cc_estimate_finder_visit, rs_estimate_finder_visit, ho, h3, e6, ht]
    refine ⟨by rw [hkk]; simp, fun a haa => ?_⟩
    rw [hkk] at haa
    cases haa
    rintro y ⟨c1, c2⟩
    simp only at c1 c2
    have c2 := c2 k0 hkk
    rw [h4]
    refine visit_use (p := k0) (l := y) (leaf := leaf) (v := v) (out := out) ?_ ?_ ?_ ?_ ⟨q1, hl0, by show leaf + (pNum k0 : Int) ≤ _; omega, ?_, fun z hz => ?_⟩ ?_
    · simp
    · simp
    · simp
    · simp
    · show out.length + y.length * cntP k0 ≤ 100000
      rw [hsz, ← Nat.mul_assoc] at hlen
      have := Nat.mul_le_mul_right (cntP k0) c1
      omega
    · obtain ⟨a, ha1, i, h0, h1, h2, rfl⟩ := (c2 z).1 hz
      have h1 : i < p.mn := h1
      have := ha a ha1
      unfold WidOk at q2
      have hm := mul_rng h0 (show i ≤ 16 by omega) q2.1 q2.2.1
      show 0 ≤ a + i * (widP k0).1 ∧ a + i * (widP k0).1 + 200000 * (pNum k0 : Int) ≤ _
      omega
    · rintro leaf2 v2 out2 ⟨d1, d2, d3⟩
      simp only at d1 d2 d3
      refine finV (leaf := leaf2) (v := v2) (out := out2) (by simp) (by simp) ⟨?_, ?_, fun s => ?_⟩
      · show leaf2 = leaf + ((leavesP p).length : Int)
        rw [lvN_eq (by omega), hkk, lvN_cons, lvN_nil]
        omega
      · show out2.length ≤ out.length + l.length * cntP p
        rw [hsz, ← Nat.mul_assoc]
        have := Nat.mul_le_mul_right (cntP k0) c1
        omega
      · show s ∈ out2 ↔ s ∈ out ∨ ∃ a ∈ l, Src p a leaf s
        rw [d3 s]
        refine or_congr_right ⟨?_, ?_⟩
        · rintro ⟨z, hz, hsz⟩
          obtain ⟨a, ha1, i, h0, h1, h2, rfl⟩ := (c2 z).1 hz
          exact ⟨a, ha1, (src6 ho hkk _ _ _).2 ⟨i, h0, h1, h2, hsz⟩⟩
        · rintro ⟨a, ha1, h⟩
          obtain ⟨i, h0, h1, h2, h3⟩ := (src6 ho hkk _ _ _).1 h
          exact ⟨_, (c2 _).2 ⟨a, ha1, i, h0, h1, h2, rfl⟩, h3⟩
end Go.Gv
