/- A part of the framework and of the walks: W5 W6 W7 W8 W13. -/
import Derived.Test.YtblcfloekekefaaGe15
import Derived.Test.YtblcfloekekefaaGe14

namespace Go.Gv
set_option linter.unusedSimpArgs false
set_option linter.unusedVariables false
set_option maxRecDepth 100000
open Cod (enc dec)
variable {S S0 : Nat → Spc}


theorem take_enc {X : Type} [Cod X] (l : List X) (k : Nat) : List.take k (List.map enc l) = List.map enc (List.take k l) := List.map_take.symm
theorem drop_enc {X : Type} [Cod X] (l : List X) (k : Nat) : List.drop k (List.map enc l) = List.map enc (List.drop k l) := List.map_drop.symm

abbrev s_r06_sign : Spc := spc (a1 Bool) anyX (enc (X := Int)) tot
theorem w_r06_sign : Walk cc_r06_sign rs_r06_sign S (a1 Bool) anyX (enc (X := Int)) tot := by
  rintro s -
  simp [cc_r06_sign, rs_r06_sign, -Bool.forall_bool]

abbrev s_r06_compare : Spc := spc (a2 B B) anyX (enc (X := Int)) tot
theorem w_r06_compare : Walk cc_r06_compare rs_r06_compare S (a2 B B) anyX (enc (X := Int)) tot := by
  rintro ⟨a, b⟩ -
  simp [cc_r06_compare, rs_r06_compare]

abbrev s_r06_CompareRegions : Spc := spc (a2 Region Region) anyX (enc (X := Int)) tot
theorem w_r06_CompareRegions (h1 : S f_r06_sign = s_r06_sign) (h2 : S f_r06_compare = s_r06_compare) : Walk cc_r06_CompareRegions rs_r06_CompareRegions S (a2 Region Region) anyX (enc (X := Int)) tot := by
  rintro ⟨a, b⟩ -
  simp [cc_r06_CompareRegions, rs_r06_CompareRegions, h1, h2, anyX, -Bool.forall_bool]
  intro _ _ _
  refine vc_while (X := Nat) [2, 3] [] (fun k => True) (fun k => [(5, enc (k : Int))]) (fun _ => []) (fun k => a.kv.length - k) 0 trivial (by simp) (by simp) ?_
  intro k _
  simp [h1, h2, anyX, -Bool.forall_bool]
  repeat' first | apply And.intro | intro _
  all_goals first | omega | (simp only [InR]; omega) | exact ⟨k + 1, by omega, by omega⟩

abbrev s_r06_Attributes : Spc := spc (a1 (List Attr)) anyX (er2 (Y := Int) (Z := Int)) tot
theorem w_r06_Attributes (h1 : S f_r04_ValidName = s_r04_ValidName) : Walk cc_r06_Attributes rs_r06_Attributes S (a1 (List Attr)) anyX (er2 (Y := Int) (Z := Int)) tot := by
  rintro l -
  simp [cc_r06_Attributes, rs_r06_Attributes, h1, anyX, -Bool.forall_bool]
  intro _ _ _ _ _
  refine vc_range (X := Unit) [0, 14] [] (l.length) (fun _ _ => True) (fun _ => []) (fun _ => []) () (by simp) (by simp) (by first | omega | (simp; omega)) (by simp) (by simp) trivial (by simp) (by simp) ?_ ?_
  · intro k _ hk _
    obtain ⟨x, hx⟩ := at_lt hk
    simp [h1, anyX, -Bool.forall_bool, hx, hk]
    refine fun b => ⟨by omega, fun _ => ?_⟩
    refine vc_range (X := Unit) [0, 4, 5, 14, 15, 16, 28] [5] (min k l.length) (fun _ _ => True) (fun _ => []) (fun _ => []) () (by simp) (by simp) (by first | omega | (simp; omega)) (by simp) (by simp) trivial (by simp) (by simp) ?_ ?_
    · intro j _ hj _
      obtain ⟨y, hy⟩ : ∃ y, (l.take k)[j]? = some y := at_lt (by simpa using hj)
      simp [hy, take_enc, -List.map_take]
      simpa using hj
    · intro _ _
      simp
  · intro _ _
    simp
abbrev s_r06_Value : Spc := spc (a2 Attr B) anyX (enc (X := Int)) tot
theorem w_r06_Value (h1 : S f_r05_Parse = s_r05_Parse) (h2 : S f_r04_ValidValue = s_r04_ValidValue) : Walk cc_r06_Value rs_r06_Value S (a2 Attr B) anyX (enc (X := Int)) tot := by
  rintro ⟨a, b⟩ -
  simp [cc_r06_Value, rs_r06_Value, h1, h2, anyX, -Bool.forall_bool]
abbrev s_r06_pairs : Spc := spc (a1 (List Pair)) anyX (enc (X := Int)) tot
theorem w_r06_pairs (h1 : S f_r04_ValidName = s_r04_ValidName) (h2 : S f_r04_ValidValue = s_r04_ValidValue) : Walk cc_r06_pairs rs_r06_pairs S (a1 (List Pair)) anyX (enc (X := Int)) tot := by
  rintro l -
  simp [cc_r06_pairs, rs_r06_pairs, h1, h2, anyX, -Bool.forall_bool]
  intro _ _ _
  refine vc_range (X := Unit) [0, 9] [] (l.length) (fun _ _ => True) (fun _ => []) (fun _ => []) () (by simp) (by simp) (by first | omega | (simp; omega)) (by simp) (by simp) trivial (by simp) (by simp) ?_ ?_
  · intro k _ hk _
    obtain ⟨x, hx⟩ := at_lt hk
    simp [h1, h2, anyX, -Bool.forall_bool, hx, hk]
    ((repeat' first | apply And.intro | intro _) <;> first | omega | (simp only [InR]; omega) | assumption | trivial)
  · intro _ _
    simp
abbrev s_r06_within : Spc := spc (a3 Corpus Int Int) anyX (enc (X := Bool)) tot
theorem w_r06_within : Walk cc_r06_within rs_r06_within S (a3 Corpus Int Int) anyX (enc (X := Bool)) tot := by
  rintro ⟨c, x, y⟩ -
  simp [cc_r06_within, rs_r06_within, -Bool.forall_bool]
  intro _
  refine vc_range (X := Unit) [1, 2, 10] [] (c.texts.length) (fun _ _ => True) (fun _ => []) (fun _ => []) () (by simp) (by simp) (by first | omega | (simp; omega)) (by simp) (by simp) trivial (by simp) (by simp) ?_ ?_
  · intro k _ hk _
    obtain ⟨t, ht⟩ := at_lt hk
    simp [ht, hk, -Bool.forall_bool]
  · intro _ _
    simp
abbrev s_r06_bare : Spc := spc (a2 (List Int) (List B)) (fun x => x.1.length = x.2.length) (enc (X := Bool)) tot
theorem w_r06_bare : Walk cc_r06_bare rs_r06_bare S (a2 (List Int) (List B)) (fun x => x.1.length = x.2.length) (enc (X := Bool)) tot := by
  rintro ⟨l, r⟩ hl
  have hl : l.length = r.length := hl
  simp [cc_r06_bare, rs_r06_bare, -Bool.forall_bool]
  intro _
  refine vc_range (X := Unit) [0, 1] [] (l.length) (fun _ _ => True) (fun _ => []) (fun _ => []) () (by simp) (by simp) (by first | omega | (simp; omega)) (by simp) (by simp) trivial (by simp) (by simp) ?_ ?_
  · intro k _ hk _
    obtain ⟨t, ht⟩ := at_lt hk
    obtain ⟨u, hu⟩ := at_lt (l := r) (k := k) (by omega)
    have hk2 : k < r.length := by omega
    simp [ht, hu, hk, hk2, -Bool.forall_bool]
  · intro _ _
    simp
abbrev s_r06_TextAt : Spc := spc (a2 Corpus Int) anyX (enc (X := Int)) tot
theorem w_r06_TextAt : Walk cc_r06_TextAt rs_r06_TextAt S (a2 Corpus Int) anyX (enc (X := Int)) tot := by
  rintro ⟨c, x⟩ -
  simp [cc_r06_TextAt, rs_r06_TextAt, -Bool.forall_bool]
  intro _
  refine vc_range (X := Unit) [1, 8] [] (c.texts.length) (fun _ _ => True) (fun _ => []) (fun _ => []) () (by simp) (by simp) (by first | omega | (simp; omega)) (by simp) (by simp) trivial (by simp) (by simp) ?_ ?_
  · intro k _ hk _
    obtain ⟨t, ht⟩ := at_lt hk
    simp [ht, hk, -Bool.forall_bool]
  · intro _ _
    simp
abbrev s_r06_FindText : Spc := spc (a2 Corpus B) anyX (enc (X := Int)) tot
theorem w_r06_FindText : Walk cc_r06_FindText rs_r06_FindText S (a2 Corpus B) anyX (enc (X := Int)) tot := by
  rintro ⟨c, x⟩ -
  simp [cc_r06_FindText, rs_r06_FindText, -Bool.forall_bool]
  intro _
  refine vc_range (X := Unit) [1, 8] [] (c.texts.length) (fun _ _ => True) (fun _ => []) (fun _ => []) () (by simp) (by simp) (by first | omega | (simp; omega)) (by simp) (by simp) trivial (by simp) (by simp) ?_ ?_
  · intro k _ hk _
    obtain ⟨t, ht⟩ := at_lt hk
    simp [ht, hk, -Bool.forall_bool]
  · intro _ _
    simp
abbrev s_r06_sameAttributes : Spc := spc (a2 (List Attr) (List Attr)) anyX (enc (X := Bool)) tot
theorem w_r06_sameAttributes : Walk cc_r06_sameAttributes rs_r06_sameAttributes S (a2 (List Attr) (List Attr)) anyX (enc (X := Bool)) tot := by
  rintro ⟨l, r⟩ -
  simp [cc_r06_sameAttributes, rs_r06_sameAttributes, -Bool.forall_bool]
  intro _ _ he _
  refine vc_range (X := Unit) [0, 1] [] (l.length) (fun _ _ => True) (fun _ => []) (fun _ => []) () (by simp) (by simp) (by first | omega | (simp; omega)) (by simp) (by simp) trivial (by simp) (by simp) ?_ ?_
  · intro k _ hk _
    obtain ⟨t, ht⟩ := at_lt hk
    obtain ⟨u, hu⟩ := at_lt (l := r) (k := k) (by omega)
    have hk2 : k < r.length := by omega
    simp [ht, hu, hk, hk2, -Bool.forall_bool]
  · intro _ _
    simp
abbrev s_r06_cyclic : Spc := spc (a2 (List Int) Int) (fun x => 0 ≤ x.2 ∧ x.2 < x.1.length) (enc (X := Bool)) tot
theorem w_r06_cyclic : Walk cc_r06_cyclic rs_r06_cyclic S (a2 (List Int) Int) (fun x => 0 ≤ x.2 ∧ x.2 < x.1.length) (enc (X := Bool)) tot := by
  rintro ⟨l, i⟩ hl
  have hl : 0 ≤ i ∧ i < l.length := hl
  simp [cc_r06_cyclic, rs_r06_cyclic, -Bool.forall_bool]
  intro _
  refine vc_range (X := Int) [0, 1] [] l.length (fun _ a => 0 ≤ a ∧ a < l.length) (fun a => [(5, enc a)]) (fun _ => []) i (by simp) (by simp) (by omega) (by simp) (by simp) hl (by simp) (by simp) ?_ ?_
  · intro k a hk ha
    simp [-Bool.forall_bool]
    refine ⟨ha.1, ha.2, fun b _ h1 _ h2 _ => ⟨h1, h2⟩⟩
  · intro _ _
    simp
abbrev s_r06_tokens : Spc := spc (a1 Corpus) anyX (er2 (Y := Int) (Z := Int)) tot
theorem w_r06_tokens (h1 : S f_r06_Value = s_r06_Value) : Walk cc_r06_tokens rs_r06_tokens S (a1 Corpus) anyX (er2 (Y := Int) (Z := Int)) tot := by
  rintro c -
  simp [cc_r06_tokens, rs_r06_tokens, h1, anyX, -Bool.forall_bool]
  intro _ _ _
  refine vc_range (X := Unit) [1, 14] [] (c.toks.length) (fun _ _ => True) (fun _ => []) (fun _ => []) () (by simp) (by simp) (by first | omega | (simp; omega)) (by simp) (by simp) trivial (by simp) (by simp) ?_ ?_
  · intro k _ hk _
    obtain ⟨t, ht⟩ := at_lt hk
    simp [ht, hk, -Bool.forall_bool]
    intro hl1 hl2 hle hl3
    refine vc_range (X := Unit) [1, 4, 14, 15, 16, 28] [] (c.toks[k].length) (fun _ _ => True) (fun _ => []) (fun _ => []) () (by simp) (by simp) (by first | omega | (simp; omega)) (by simp) (by simp) trivial (by simp) (by simp) ?_ ?_
    · intro j _ hj _
      have hj2 : j < c.attrs.length := by omega
      simp [hj, hj2, h1, anyX, -Bool.forall_bool]
    · intro _ _
      simp
  · intro _ _
    simp
abbrev s_r06_texts : Spc := spc (a1 Corpus) anyX (er2 (Y := Int) (Z := Int)) tot
theorem w_r06_texts (h1 : S f_r04_ValidName = s_r04_ValidName) (h2 : S f_r06_pairs = s_r06_pairs) : Walk cc_r06_texts rs_r06_texts S (a1 Corpus) anyX (er2 (Y := Int) (Z := Int)) tot := by
  rintro c -
  simp [cc_r06_texts, rs_r06_texts, h1, h2, anyX, -Bool.forall_bool]
  intro _ _ _ _ _ _
  refine vc_range (X := Int) [1, 4, 26] [] c.texts.length (fun _ _ => True) (fun a => [(5, enc a)]) (fun _ => []) 0 (by simp) (by simp) (by omega) (by simp) (by simp) trivial (by simp) (by simp) ?_ ?_
  · intro k a hk _
    obtain ⟨t, ht⟩ := at_lt hk
    simp [ht, hk, h1, anyX, -Bool.forall_bool]
    refine fun b => ⟨by omega, fun _ => ?_⟩
    refine vc_range (X := Unit) [1, 4, 5, 6, 7, 26, 27, 28, 41] [7] (min k c.texts.length) (fun _ _ => True) (fun _ => []) (fun _ => []) () (by simp) (by simp) (by first | omega | (simp; omega)) (by simp) (by simp) trivial (by simp) (by simp) ?_ ?_
    · intro j _ hj _
      obtain ⟨y, hy⟩ : ∃ y, (c.texts.take k)[j]? = some y := at_lt (by simpa using hj)
      simp [hy, take_enc, -List.map_take]
      simpa using hj
    · intro _ _
      simp [h2, anyX, -Bool.forall_bool]
      ((repeat' first | apply And.intro | intro _) <;> first | omega | (simp only [InR]; omega) | assumption | trivial)
  · intro _ _
    simp
abbrev s_r06_regions : Spc := spc (a1 Corpus) anyX (er2 (Y := Int) (Z := Int)) tot
theorem w_r06_regions (h1 : S f_r04_ValidName = s_r04_ValidName) (h2 : S f_r06_pairs = s_r06_pairs) (h3 : S f_r06_within = s_r06_within) (h4 : S f_r06_CompareRegions = s_r06_CompareRegions) : Walk cc_r06_regions rs_r06_regions S (a1 Corpus) anyX (er2 (Y := Int) (Z := Int)) tot := by
  rintro c -
  simp [cc_r06_regions, rs_r06_regions, h1, h2, h3, h4, anyX, -Bool.forall_bool]
  intro _ _ _
  refine vc_range (X := Unit) [1, 15] [] (c.regs.length) (fun _ _ => True) (fun _ => []) (fun _ => []) () (by simp) (by simp) (by first | omega | (simp; omega)) (by simp) (by simp) trivial (by simp) (by simp) ?_ ?_
  · intro k _ hk _
    obtain ⟨t, ht⟩ := at_lt hk
    simp [ht, hk, h1, h2, h3, h4, anyX, -Bool.forall_bool]
    refine fun b => ⟨fun h0 => ⟨by simp only [InR]; omega, by omega, by omega, fun a _ y _ => ⟨by simp only [InR]; omega, by omega, by omega, fun _ => ?_⟩⟩, fun h0 => ⟨by simp only [InR]; omega, by omega, by omega, fun _ => ?_⟩⟩
    all_goals
      refine vc_range (X := Nat) [1, 4, 5, 15, 16, 17, 62] [5] (min (k + 1) c.regs.length) (fun j d => d ≤ j) (fun d => [(7, enc (d : Int))]) (fun _ => []) 0 (by simp) (by simp) (by omega) (by simp) (by simp) (by omega) (by simp) (by simp) ?_ ?_
      · intro j d hj hd
        obtain ⟨y, hy⟩ : ∃ y, (c.regs.take (k + 1))[j]? = some y := at_lt (by simpa using hj)
        simp [hy, take_enc, -List.map_take, -Bool.forall_bool]
        repeat' first | apply And.intro | intro _
        all_goals first | omega | (simp only [InR]; omega) | exact ⟨d, by omega, by omega⟩ | exact ⟨d + 1, by omega, by omega⟩ | (simp; omega) | skip
      · intro d hd
        simp
  · intro _ _
    simp
end Go.Gv

namespace Go.Gv
set_option linter.unusedSimpArgs false
set_option linter.unusedVariables false
set_option maxRecDepth 100000
open Cod (enc dec)
variable {S S0 : Nat → Spc}
def P_Nodes (x : List Node × Corpus) : Prop := ∀ (j : Nat) (y : Node), x.1[j]? = some y → y.par < j
abbrev s_r06_Nodes : Spc := spc (a2 (List Node) Corpus) P_Nodes (er2 (Y := Int) (Z := Int)) tot
theorem w_r06_Nodes (h1 : S f_r04_ValidName = s_r04_ValidName) (h3 : S f_r06_within = s_r06_within) : Walk cc_r06_Nodes rs_r06_Nodes S (a2 (List Node) Corpus) P_Nodes (er2 (Y := Int) (Z := Int)) tot := by
  rintro ⟨l, c⟩ hp
  have hp : ∀ (j : Nat) (y : Node), l[j]? = some y → y.par < j := hp
  simp [cc_r06_Nodes, rs_r06_Nodes, h1, h3, anyX, -Bool.forall_bool]
  intro _ _ _
  refine ⟨by omega, by omega, fun x _ => ?_⟩
  refine vc_range (X := List Int) [0, 3, 18] [] l.length (fun _ d => d.length = l.length ∧ ∀ a ∈ d, 0 ≤ a ∧ a ≤ 40) (fun _ => [(6, .own 17 x)]) (fun d => [(17, .row x ty_int 1 (d.map enc))]) (List.replicate l.length 0) (by simp) (by simp) (by omega) (by simp) (by simp) (by simp) (by simp) (by simp) ?_ ?_
  · rintro k d hk ⟨hd1, hd2⟩
    obtain ⟨t, ht⟩ := at_lt hk
    have htp := hp k t ht
    have ht' := List.getElem?_eq_some_iff.1 ht
    obtain ⟨_, ht'⟩ := ht'
    simp [ht, ht', hk, h1, h3, anyX, -Bool.forall_bool]
    refine fun b => ⟨by simp only [InR]; omega, ?_⟩
    refine vc_mid (X := Int) [0, 3, 6, 7, 8, 18, 19, 20] [8, 17] (fun _ => True) (fun a => [(9, enc a)]) (fun _ => []) ?_ ?_
    · simp
      refine vc_while (X := Int) [0, 3, 6, 7, 8, 18, 19, 20] [8, 17] (fun a => a < k) (fun a => [(9, enc a)]) (fun _ => []) (fun a => (a + 1).toNat) ((k : Int) - 1) (by omega) (by simp) (by simp) ?_
      intro a ha
      simp
      intro h0 _
      refine ⟨h0, by omega, fun y hy => ?_⟩
      have := hp a.toNat y hy
      exact ⟨y.par, by omega, rfl, by omega⟩
    · intro a _
      refine vc_mid (X := Unit) [0, 3, 6, 7, 8, 18, 19, 20] [8, 17] (fun _ => True) (fun _ => []) (fun _ => []) ?_ ?_
      · simp
      · rintro - -
        refine vc_mid (X := List Int) [0, 3, 6, 7, 8, 18, 19, 20] [8] (fun d => d.length = l.length ∧ ∀ a ∈ d, 0 ≤ a ∧ a ≤ 40) (fun _ => []) (fun d => [(17, .row x ty_int 1 (d.map enc))]) ?_ ?_
        · simp
          refine ⟨fun h0 => ⟨h0, by omega, fun y _ _ _ => ⟨h0, by omega, by omega, fun a2 ha2 => ⟨by omega, fun a3 _ => ⟨d.set k a2, ⟨by simpa using hd1, fun a4 h4 => ?_⟩, .inl (set_enc d k a2)⟩⟩⟩⟩, fun _ => ⟨d, ⟨hd1, hd2⟩, .inl rfl⟩⟩
          rcases List.mem_or_eq_of_mem_set h4 with h4 | rfl
          · exact hd2 _ h4
          · exact hd2 _ (mem_at ha2)
        · rintro d ⟨hd1, hd2⟩
          refine vc_mid (X := Unit) [0, 3, 6, 7, 18, 19, 20] [17] (fun _ => True) (fun _ => []) (fun _ => []) ?_ ?_
          · simp
            refine ⟨by simp only [InR]; omega, ?_⟩
            refine vc_while (X := Int) [0, 3, 6, 7, 8, 18, 19, 20] [8, 17] (fun a => a < k) (fun a => [(11, enc a)]) (fun _ => []) (fun a => (a + 1).toNat) ((k : Int) - 1) (by omega) (by simp) (by simp) ?_
            intro a ha
            simp
            exact fun h0 => ⟨h0, by omega, fun y _ => ⟨fun _ => ⟨h0, by omega⟩, fun _ => ⟨by simp only [InR]; omega, a - 1, by omega, rfl, by omega⟩⟩⟩
          · rintro - -
            simp
            refine ⟨by omega, fun a2 ha2 => ?_⟩
            have h4 := hd2 _ (mem_at ha2)
            refine ⟨by simp only [InR]; omega, by omega, fun _ _ => ⟨by omega, fun d1 h5 => ?_⟩⟩
            have hkd : k < d.length := by omega
            rw [List.getElem?_set_self (by simpa using hkd)] at h5
            cases h5
            simp
            refine fun h6 => ⟨d.set k (a2 + 1), ⟨by simpa using hd1, fun a4 h4 => ?_⟩, .inl (set_enc d k (a2 + 1))⟩
            rcases List.mem_or_eq_of_mem_set h4 with h4 | rfl
            · exact hd2 _ h4
            · omega
  · intro d hd
    simp
def P_heads (c : Corpus) : Prop := True
abbrev s_r06_heads : Spc := spc (a1 Corpus) P_heads (er2 (Y := Int) (Z := Int)) tot
theorem w_r06_heads (h1 : S f_r04_ValidName = s_r04_ValidName) (h3 : S f_r06_bare = s_r06_bare) (h4 : S f_r06_TextAt = s_r06_TextAt) (h5 : S f_r06_cyclic = s_r06_cyclic) : Walk cc_r06_heads rs_r06_heads S (a1 Corpus) P_heads (er2 (Y := Int) (Z := Int)) tot := by
  rintro c -
  simp [cc_r06_heads, rs_r06_heads, h1, h3, h4, h5, anyX, -Bool.forall_bool]
  intro _
  refine vc_mid (X := Unit) [1, 4] [] (fun _ => c.heads.length = c.rels.length) (fun _ => []) (fun _ => []) ?_ ?_
  · simp
    ((repeat' first | apply And.intro | intro _) <;> first | omega | (simp only [InR]; omega) | assumption | trivial)
  · rintro - hl
    refine vc_mid (X := Unit) [1, 4] [] (fun _ => True) (fun _ => []) (fun _ => []) ?_ ?_
    · simp [h1, h3, h4, h5, anyX, hl, -Bool.forall_bool]
    · rintro - -
      simp
      intro _
      refine vc_range (X := Unit) [1, 4, 36] [] (c.heads.length) (fun _ _ => True) (fun _ => []) (fun _ => []) () (by simp) (by simp) (by first | omega | (simp; omega)) (by simp) (by simp) trivial (by simp) (by simp) ?_ ?_
      · intro k _ hk _
        have hk2 : k < c.rels.length := by omega
        simp [hk, hk2]
        refine vc_mid (X := Unit) [1, 4, 5, 36, 37, 38] [] (fun _ => True) (fun _ => []) (fun _ => []) ?_ ?_
        · simp [h1, h3, h4, h5, anyX, hk, hk2, hl, -Bool.forall_bool]
        · rintro - -
          refine vc_mid (X := Unit) [1, 4, 5, 36, 37, 38] [] (fun _ => True) (fun _ => []) (fun _ => []) ?_ ?_
          · simp [h1, h3, h4, h5, anyX, hk, hk2, hl, -Bool.forall_bool]
          · rintro - -
            simp [h1, h3, h4, h5, anyX, hk, hk2, hl, -Bool.forall_bool]
      · intro _ _
        simp
def P_Validate (c : Corpus) : Prop := ∀ (j : Nat) (y : Node), c.nodes[j]? = some y → y.par < j
abbrev s_r06_Validate : Spc := spc (a1 Corpus) P_Validate (er3 (Y := Int) (Z := Int) (W := Int)) tot
theorem w_r06_Validate (h1 : S f_r06_Attributes = s_r06_Attributes) (h2 : S f_r06_tokens = s_r06_tokens) (h3 : S f_r06_texts = s_r06_texts) (h4 : S f_r06_regions = s_r06_regions) (h5 : S f_r06_Nodes = s_r06_Nodes) (h6 : S f_r06_heads = s_r06_heads) : Walk cc_r06_Validate rs_r06_Validate S (a1 Corpus) P_Validate (er3 (Y := Int) (Z := Int) (W := Int)) tot := by
  rintro c hc
  simp [cc_r06_Validate, rs_r06_Validate, h1, h2, h3, h4, h5, h6, anyX, -Bool.forall_bool]
  exact ⟨hc, trivial⟩
abbrev s_r06_Valid : Spc := spc (a1 Corpus) P_Validate (enc (X := Bool)) tot
theorem w_r06_Valid (h1 : S f_r06_Validate = s_r06_Validate) : Walk cc_r06_Valid rs_r06_Valid S (a1 Corpus) P_Validate (enc (X := Bool)) tot := by
  rintro c hc
  simp [cc_r06_Valid, rs_r06_Valid, h1, anyX, -Bool.forall_bool]
  exact hc
end Go.Gv

namespace Go.Gv
set_option linter.unusedSimpArgs false
set_option linter.unusedVariables false
set_option maxRecDepth 100000
open Cod (enc dec)
variable {S S0 : Nat → Spc}

theorem ins_at {α : Type} (m : List α) (bl x : α) (j : Nat) (hj : j ≤ m.length) : (List.take (j+1) (m ++ [bl]) ++ (List.take (m.length - j) (List.drop j (List.take (m.length+1) (m ++ [bl]))) ++ List.drop (j+1+min (m.length+1-j) (m.length-j)) (m ++ [bl]))).set j x = m.take j ++ x :: m.drop j := by
  have h1 : List.take (m.length+1) (m ++ [bl]) = m ++ [bl] := List.take_of_length_le (by simp)
  have h2 : List.drop j (m ++ [bl]) = m.drop j ++ [bl] := List.drop_append_of_le_length hj
  have h3 : List.take (m.length - j) (m.drop j ++ [bl]) = m.drop j := by rw [List.take_left']; simp
  have h4 : List.drop (j+1+min (m.length+1-j) (m.length-j)) (m ++ [bl]) = [] := List.drop_of_length_le (by simp; omega)
  rw [h1, h2, h3, h4, List.append_nil]
  have h5 : List.take (j+1) (m++[bl]) = m.take j ++ [(m ++ [bl])[j]'(by simp; omega)] := by
    rw [List.take_succ_eq_append_getElem (by simp; omega), List.take_append_of_le_length hj]
  rw [h5, List.append_assoc, List.set_append_right _ _ (by simp; omega)]
  simp [hj]
theorem ins_at' {α : Type} {m : List α} {bl x : α} {j n : Nat} (hn : m.length = n) (hj : j ≤ n) : (List.take (j+1) (m ++ [bl]) ++ (List.take (n - j) (List.drop j (List.take (n+1) (m ++ [bl]))) ++ List.drop (j+1+min (n+1-j) (n-j)) (m ++ [bl]))).set j x = m.take j ++ x :: m.drop j := by
  subst hn; exact ins_at m bl x j hj
theorem app_enc1 {X : Type} [Cod X] (l : List X) (x : X) : List.map enc l ++ [enc x] = List.map enc (l ++ [x]) := by simp
def Q_Sort (l m : List Region) : Prop := m.length = l.length ∧ ∀ x ∈ m, x ∈ l
def P_Sort (l : List Region) : Prop := l.length ≤ 1000000
abbrev s_r06_SortRegions : Spc := spc (a1 (List Region)) P_Sort (enc (X := List Region)) Q_Sort
theorem w_r06_SortRegions (h1 : S f_r06_CompareRegions = s_r06_CompareRegions) : Walk cc_r06_SortRegions rs_r06_SortRegions S (a1 (List Region)) P_Sort (enc (X := List Region)) Q_Sort := by
  rintro l hl
  have hl : l.length ≤ 1000000 := hl
  simp [cc_r06_SortRegions, rs_r06_SortRegions, -Bool.forall_bool]
  intro _
  refine vc_range (X := Value × List Region) [7] [] l.length (fun k x => x.2.length = k ∧ ∀ y ∈ x.2, y ∈ l) (fun x => [(3, .own 32 x.1)]) (fun x => [(32, .row x.1 ty_Region 4 (x.2.map enc))]) (.slice none 0 0, []) (by simp) (by simp) (by omega) (by simp) (by simp) (by simp) (by simp) (by simp [isNilRow]) ?_ ?_
  · rintro k ⟨v, m⟩ hk ⟨hm1, hm2⟩
    simp at hm1 hm2
    simp [hk]
    refine fun b _ => ?_
    refine vc_mid (X := Nat) [3, 5, 7, 8, 9] [5, 32] (fun x => x ≤ m.length) (fun x => [(6, enc (x : Int))]) (fun x => []) ?_ ?_
    · simp
      refine vc_while (X := Nat) [3, 5, 7, 8, 9] [5, 32] (fun x => x ≤ m.length) (fun x => [(6, enc (x : Int))]) (fun x => []) (fun x => x) m.length (by simp) (by simp) (by simp) ?_
      intro j hj
      simp [h1, anyX]
      refine ⟨fun h0 => ⟨by simp only [InR]; omega, by omega, by omega, by omega, fun a _ y => ⟨fun _ => ⟨by simp only [InR]; omega, j - 1, by omega, by omega, by omega⟩, fun _ => ⟨j, hj, rfl⟩⟩⟩, fun _ => ⟨j, hj, rfl⟩⟩
    · intro j hj
      simp
      have hx : D.agg [D.v (Value.string l[k].ty), D.v (Value.int IntKind.i64 l[k].b), D.v (Value.int IntKind.i64 l[k].e), D.list 2 (List.map enc l[k].kv)] = enc l[k] := by simp
      refine ⟨by omega, by omega, fun v => ⟨by simp only [InR]; omega, by omega, by omega, by omega, by omega, by omega, fun d _ => ⟨v, m.take j ++ l[k] :: m.drop j, ⟨by simp; omega, fun y hy => ?_⟩, rfl, .inl ⟨rfl, ?_⟩⟩⟩⟩
      · rcases List.mem_append.1 hy with h | h
        · exact hm2 _ (List.mem_of_mem_take h)
        · rcases List.mem_cons.1 h with rfl | h
          · exact List.getElem_mem hk
          · exact hm2 _ (List.mem_of_mem_drop h)
      · refine (ins_at' (by simp) hj).trans ?_
        rw [hx, take_enc, drop_enc, List.map_append, List.map_cons]
  · rintro ⟨v, m⟩ ⟨hm1, hm2⟩
    simp at hm1 hm2
    simp
    exact fin_of m (fz_o ty_Region (by simp)) ⟨hm1, hm2⟩

/-- The texts lie one behind the other, from s to e. -/
def Chain (s : Int) : List Text → Int → Prop
  | [], e => s = e
  | t :: r, e => t.b = s ∧ t.b < t.e ∧ Chain t.e r e
/-- What the made corpora are. -/
def WFc (c : Corpus) : Prop := Chain 0 c.texts c.toks.length ∧ c.texts ≠ [] ∧ c.toks.length ≤ 4096 ∧ c.texts.length ≤ 64 ∧ c.regs.length ≤ 1024 ∧ c.nodes.length ≤ 2048 ∧ c.attrs.length ≤ 1000 ∧ c.heads.length ≤ c.toks.length ∧ c.rels.length ≤ c.toks.length ∧
  (∀ x ∈ c.regs, 0 ≤ x.b ∧ x.b ≤ c.toks.length ∧ 0 ≤ x.e ∧ x.e ≤ c.toks.length) ∧ (∀ x ∈ c.nodes, 0 ≤ x.b ∧ x.b ≤ c.toks.length ∧ 0 ≤ x.e ∧ x.e ≤ c.toks.length) ∧ (∀ (j : Nat) (y : Node), c.nodes[j]? = some y → y.par < j) ∧ ∀ h ∈ c.heads, h ≤ c.toks.length
def Q_allHeads (c : Corpus) (x : List Int × List B) : Prop := (∀ h ∈ x.1, h ≤ c.toks.length) ∧ x.1.length ≤ c.toks.length ∧ x.2.length ≤ c.toks.length

abbrev s_r06_allHeads : Spc := spc (a1 Corpus) WFc (er2 (Y := List Int) (Z := List B)) Q_allHeads
theorem w_r06_allHeads : Walk cc_r06_allHeads rs_r06_allHeads S (a1 Corpus) WFc (er2 (Y := List Int) (Z := List B)) Q_allHeads := by
  rintro c hc
  obtain ⟨c1, c2, c3, c4, c5, c6, c7, c8, c9, c10, c11, c12, c13⟩ := hc
  simp [cc_r06_allHeads, rs_r06_allHeads, -Bool.forall_bool]
  refine fun _ => ⟨fun _ => ⟨c.heads, .same _, c.rels, .same _, c13, c8, c9⟩, fun _ _ => ⟨by omega, by omega, fun v _ => ?_⟩⟩
  refine vc_range (X := List Int) [1] [] c.toks.length (fun k x => x.length = c.toks.length ∧ ∀ (j : Nat) (y : Int), x[j]? = some y → j < k → y = -1) (fun x => [(4, .own 17 v)]) (fun x => [(17, .row v ty_int 1 (x.map enc))]) (List.replicate c.toks.length 0) (by simp) (by simp) (by omega) (by simp) (by simp) (by simp) (by simp) (by simp) ?_ ?_
  · rintro k m hk ⟨hm1, hm2⟩
    simp
    refine ⟨by omega, fun a _ => ⟨m.set k (-1), ⟨by simpa using hm1, fun j y hy hj => ?_⟩, .inl (set_enc m k (-1))⟩⟩
    rw [List.getElem?_set] at hy
    split at hy
    · split at hy
      · cases hy; rfl
      · cases hy
    · exact hm2 j y hy (by omega)
  · rintro m ⟨hm1, hm2⟩
    simp
    refine fun _ => ⟨by omega, by omega, fun x => ⟨m, fz_o ty_int (by simp), List.replicate c.toks.length ⟨#[]⟩, fz_o ty_string (by simp), fun y hy => ?_, by show m.length ≤ _; omega, by simp⟩⟩
    obtain ⟨j, hj⟩ := List.mem_iff_getElem?.1 hy
    have := hm2 j y hj (by have := (List.getElem?_eq_some_iff.1 hj).1; have h9 : j < m.length := this; omega)
    omega
end Go.Gv

namespace Go.Gv
set_option linter.unusedSimpArgs false
set_option linter.unusedVariables false
set_option maxRecDepth 100000
open Cod (enc dec)
variable {S S0 : Nat → Spc}
theorem fz_agg_cons (H : HMap) (a b : D) (l bs : List D) : FrzTo H (.agg (a :: l)) (.agg (b :: bs)) = (FrzTo H a b ∧ FrzTo H (.agg l) (.agg bs)) := by
  refine propext ⟨fun h => ?_, fun ⟨h1, h2⟩ => ?_⟩
  · cases h with
    | same => exact ⟨.same _, .same _⟩
    | agg hl h => exact ⟨h 0 a b rfl rfl, .agg (by simpa using hl) fun k c c' h1 h2 => h (k + 1) c c' (by simpa using h1) (by simpa using h2)⟩
  · have hl : l.length = bs.length := by
      cases h2 with
      | same => rfl
      | agg hl _ => exact hl
    refine .agg (by simp [hl]) fun k c c' e1 e2 => ?_
    cases k with
    | zero => simp at e1 e2; subst e1; subst e2; exact h1
    | succ k =>
      simp at e1 e2
      cases h2 with
      | same => rw [e1] at e2; cases e2; exact .same _
      | agg _ h => exact h k c c' e1 e2
def zc : Corpus := ⟨[], [], [], [], [], [], []⟩
/-- A list whose rear part is changed step by step. -/
def mix {X : Type} (f : X → X) (a b : List X) (j : Nat) : List X := a ++ ((b.take j).map f ++ b.drop j)
theorem mix_0 {X : Type} (f : X → X) (a b : List X) : mix f a b 0 = a ++ b := by simp [mix]
theorem mix_n {X : Type} (f : X → X) (a b : List X) : mix f a b b.length = a ++ b.map f := by simp [mix]
theorem mix_len {X : Type} (f : X → X) (a b : List X) (j : Nat) : (mix f a b j).length = a.length + b.length := by simp [mix]; omega
theorem mix_at {X : Type} (f : X → X) (a b : List X) {j : Nat} {y : X} (hy : b[j]? = some y) : (mix f a b j)[a.length + j]? = some y := by
  have hj := (List.getElem?_eq_some_iff.1 hy).1
  simp only [mix]
  rw [List.getElem?_append_right (by omega), List.getElem?_append_right (by simp; omega)]
  simp only [List.length_map, List.length_take, List.getElem?_drop]
  rw [← hy]
  congr 1
  omega
theorem mix_set {X : Type} (f : X → X) (a b : List X) {j : Nat} {y : X} (hy : b[j]? = some y) : (mix f a b j).set (a.length + j) (f y) = mix f a b (j + 1) := by
  have hj := (List.getElem?_eq_some_iff.1 hy).1
  have hd : b.drop j = y :: b.drop (j + 1) := by
    rw [List.drop_eq_getElem_cons hj]
    rw [(List.getElem?_eq_some_iff.1 hy).2]
  simp only [mix]
  rw [List.set_append_right _ _ (by omega), List.set_append_right _ _ (by simp; omega)]
  have : a.length + j - a.length - (List.map f (List.take j b)).length = 0 := by simp; omega
  rw [this, hd, List.set_cons_zero]
  rw [List.take_succ_eq_append_getElem hj, (List.getElem?_eq_some_iff.1 hy).2]
  simp
theorem mix_at' {X : Type} (f : X → X) (a b : List X) {k : Nat} {y : X} (hk : a.length ≤ k) (hy : b[k - a.length]? = some y) : (mix f a b (k - a.length))[k]? = some y := by
  have := mix_at f a b hy
  rwa [Nat.add_sub_cancel' hk] at this
theorem mix_set' {X : Type} (f : X → X) (a b : List X) {k : Nat} {y : X} (hk : a.length ≤ k) (hy : b[k - a.length]? = some y) : (mix f a b (k - a.length)).set k (f y) = mix f a b (k + 1 - a.length) := by
  have := mix_set f a b hy
  rw [Nat.add_sub_cancel' hk] at this
  rw [this]; congr 1; omega
theorem chain_mem : ∀ {l : List Text} {s e : Int}, Chain s l e → ∀ t ∈ l, s ≤ t.b ∧ t.b < t.e ∧ t.e ≤ e
  | [], s, e, h, t, ht => by simp at ht
  | x :: r, s, e, h, t, ht => by
    obtain ⟨h1, h2, h3⟩ := h
    have hle : ∀ {l : List Text} {s e : Int}, Chain s l e → s ≤ e := by
      intro l
      induction l with
      | nil => intro s e h; have h : s = e := h; omega
      | cons a l ih => intro s e h; have := ih h.2.2; have := h.1; have := h.2.1; omega
    rcases List.mem_cons.1 ht with rfl | ht
    · have := hle h3; omega
    · have := chain_mem h3 t ht; omega
def shT (n : Int) (t : Text) : Text := ⟨t.nm, t.b + n, t.e + n, t.kv⟩
theorem chain_app : ∀ {l : List Text} {s e : Int} {r : List Text} {n f : Int}, Chain s l e → Chain 0 r f → n = e → Chain s (l ++ r.map (shT n)) (n + f)
  | [], s, e, r, n, f, h, hr, hn => by
    have h : s = e := h
    subst h; subst hn
    have go : ∀ (r : List Text) (a : Int), Chain a r f → Chain (a + n) (r.map (shT n)) (n + f) := by
      intro r
      induction r with
      | nil => intro a h; have h : a = f := h; show a + n = n + f; omega
      | cons x r ih => intro a h; obtain ⟨h1, h2, h3⟩ := h; exact ⟨by show x.b + n = a + n; omega, by show x.b + n < x.e + n; omega, ih _ h3⟩
    have := go r 0 hr
    simpa using this
  | x :: l, s, e, r, n, f, h, hr, hn => ⟨h.1, h.2.1, chain_app h.2.2 hr hn⟩
def shR (n : Int) (x : Region) : Region := ⟨x.ty, x.b + n, x.e + n, x.kv⟩
def shN (n m : Int) (x : Node) : Node := ⟨x.lb, x.b + n, x.e + n, if 0 ≤ x.par then x.par + m else x.par⟩
def joinC (a b : Corpus) (hd : List Int) (rl : List B) : Corpus := ⟨a.attrs, a.toks ++ b.toks, a.texts ++ b.texts.map (shT a.toks.length), a.regs ++ b.regs.map (shR a.toks.length), a.nodes ++ b.nodes.map (shN a.toks.length a.nodes.length), hd, rl⟩
theorem wf_join {a b : Corpus} {hd : List Int} {rl : List B} (ha : WFc a) (hb : WFc b) (l1 : a.toks.length + b.toks.length ≤ 4096) (l2 : a.texts.length + b.texts.length ≤ 64) (l3 : a.regs.length + b.regs.length ≤ 1024) (l4 : a.nodes.length + b.nodes.length ≤ 2048)
    (h1 : hd.length ≤ a.toks.length + b.toks.length) (h2 : rl.length ≤ a.toks.length + b.toks.length) (h3 : ∀ h ∈ hd, h ≤ a.toks.length + b.toks.length) : WFc (joinC a b hd rl) := by
  obtain ⟨a1, a2, a3, a4, a5, a6, a7, a8, a9, a10, a11, a12, a13⟩ := ha
  obtain ⟨b1, b2, b3, b4, b5, b6, b7, b8, b9, b10, b11, b12, b13⟩ := hb
  refine ⟨?_, ?_, ?_, ?_, ?_, ?_, a7, ?_, ?_, ?_, ?_, ?_, ?_⟩
  · have := chain_app (n := a.toks.length) a1 b1 rfl
    simpa [joinC] using this
  · simp [joinC, a2]
  · simpa [joinC] using l1
  · simpa [joinC] using l2
  · simpa [joinC] using l3
  · simpa [joinC] using l4
  · simpa [joinC] using h1
  · simpa [joinC] using h2
  · intro x hx
    simp only [joinC, List.mem_append, List.mem_map, List.length_append] at hx ⊢
    rcases hx with hx | ⟨y, hy, rfl⟩
    · have := a10 x hx; omega
    · have := b10 y hy
      simp only [shR]
      omega
  · intro x hx
    simp only [joinC, List.mem_append, List.mem_map, List.length_append] at hx ⊢
    rcases hx with hx | ⟨y, hy, rfl⟩
    · have := a11 x hx; omega
    · have := b11 y hy
      simp only [shN]
      omega
  · intro j y hy
    simp only [joinC] at hy
    by_cases hj : j < a.nodes.length
    · rw [List.getElem?_append_left hj] at hy
      exact a12 j y hy
    · rw [List.getElem?_append_right (by omega), List.getElem?_map] at hy
      simp only [Option.map_eq_some_iff] at hy
      obtain ⟨z, hz, rfl⟩ := hy
      have := b12 _ z hz
      simp only [shN]
      split <;> omega
  · intro h hh
    simp only [joinC, List.length_append] at hh ⊢
    have := h3 h hh; omega
theorem fz_nn {X : Type} [Cod X] {H : HMap} {n : Nat} : FrzTo H (.v (.slice none 0 0)) (.list n (([] : List X).map enc)) := .nil n
def P_Concat (x : Corpus × Corpus) : Prop := WFc x.1 ∧ WFc x.2
def Q_Concat (x : Corpus × Corpus) (z : Corpus × Int) : Prop := z.2 = 0 → WFc z.1
abbrev s_r06_Concat : Spc := spc (a2 Corpus Corpus) P_Concat (er2 (Y := Corpus) (Z := Int)) Q_Concat
theorem w_r06_Concat (h1 : S f_r06_Valid = s_r06_Valid) (h2 : S f_r06_sameAttributes = s_r06_sameAttributes) (h3 : S f_r06_FindText = s_r06_FindText) (h4 : S f_r06_allHeads = s_r06_allHeads) : Walk cc_r06_Concat rs_r06_Concat S (a2 Corpus Corpus) P_Concat (er2 (Y := Corpus) (Z := Int)) Q_Concat := by
  rintro ⟨a, b⟩ ⟨ha, hb⟩
  have ha : WFc a := ha
  have hb : WFc b := hb
  have va : P_Validate a := ha.2.2.2.2.2.2.2.2.2.2.2.1
  have vb : P_Validate b := hb.2.2.2.2.2.2.2.2.2.2.2.1
  simp [cc_r06_Concat, rs_r06_Concat, h1, h2, va, vb, anyX, -Bool.forall_bool]
  intro r y
  refine ⟨fun _ y2 => ⟨fun _ => ?_, fun _ y3 => ⟨fun _ => ?_, fun _ => ?_⟩⟩, fun _ => ?_⟩
  case refine_1 => exact ⟨zc, by simp [zc, fz_agg_cons], fun h => by simp at h⟩
  case refine_2 => exact ⟨zc, by simp [zc, fz_agg_cons], fun h => by simp at h⟩
  case refine_4 => exact ⟨zc, by simp [zc, fz_agg_cons], fun h => by simp at h⟩
  refine vc_mid (X := Unit) [2, 3, 4] [4] (fun _ => True) (fun _ => []) (fun _ => []) ?_ ?_
  · simp
    intro _
    refine vc_range (X := Unit) [2, 3, 4, 37] [4] (b.texts.length) (fun _ _ => True) (fun _ => []) (fun _ => []) () (by simp) (by simp) (by first | omega | (simp; omega)) (by simp) (by simp) trivial (by simp) (by simp) ?_ ?_
    · intro k _ hk _
      simp [hk, h3, anyX]
      intro _ _
      exact ⟨zc, by simp [zc, fz_agg_cons], fun h => by simp at h⟩
    · simp
  rintro - -
  simp
  intro _ _
  refine vc_mid (X := Unit) [2, 3, 4, 8, 9] [4] (fun _ => a.toks.length + b.toks.length ≤ 4096 ∧ a.texts.length + b.texts.length ≤ 64 ∧ a.regs.length + b.regs.length ≤ 1024 ∧ a.nodes.length + b.nodes.length ≤ 2048) (fun _ => []) (fun _ => []) ?_ ?_
  · obtain ⟨a1, a2, a3, a4, a5, a6, a7, a8, a9, a10, a11, a12, a13⟩ := ha
    obtain ⟨b1, b2, b3, b4, b5, b6, b7, b8, b9, b10, b11, b12, b13⟩ := hb
    simp
    intro _
    refine ⟨by simp only [InR]; omega, fun _ _ _ => ⟨by simp only [InR]; omega, fun _ _ _ => ⟨by simp only [InR]; omega, fun _ _ => ⟨by simp only [InR]; omega, fun _ => ?_, by omega⟩, fun _ => ?_⟩, fun _ => ?_⟩, fun _ => ?_⟩
    all_goals exact ⟨zc, by simp [zc, fz_agg_cons], fun h => by simp at h⟩
  · rintro - ⟨l1, l2, l3, l4⟩
    have hA := ha
    have hB := hb
    obtain ⟨a1, a2, a3, a4, a5, a6, a7, a8, a9, a10, a11, a12, a13⟩ := ha
    obtain ⟨b1, b2, b3, b4, b5, b6, b7, b8, b9, b10, b11, b12, b13⟩ := hb
    simp
    refine ⟨by omega, by omega, fun v0 bx => ⟨by omega, by omega, by omega, by omega, fun v1 => ⟨by omega, by omega, by omega, by omega, fun v2 => ?_⟩⟩⟩
    refine vc_mid (X := Unit) [2, 3, 4, 8, 9, 10] [4, 10, 93, 97] (fun _ => True) (fun _ => []) (fun _ => [(104, .row v2 ty_Text 4 ((a.texts ++ b.texts.map (shT a.toks.length)).map enc))]) ?_ ?_
    · simp
      intro _
      refine vc_while (X := Nat) [2, 3, 4, 8, 9, 10] [4, 10, 93, 97] (fun k => a.texts.length ≤ k ∧ k ≤ a.texts.length + b.texts.length) (fun k => [(11, enc (k : Int))]) (fun k => [(104, .row v2 ty_Text 4 ((mix (shT a.toks.length) a.texts b.texts (k - a.texts.length)).map enc))]) (fun k => a.texts.length + b.texts.length - k) a.texts.length (by omega) (by simp) (by simp [mix_0]) ?_
      intro k hk
      by_cases hkb : k < a.texts.length + b.texts.length
      · obtain ⟨t, ht⟩ := at_lt (l := b.texts) (k := k - a.texts.length) (by omega)
        have hat := mix_at' (shT a.toks.length) a.texts b.texts hk.1 ht
        have hset := mix_set' (shT a.toks.length) a.texts b.texts hk.1 ht
        have hc := chain_mem b1 t (mem_at ht)
        obtain ⟨hk9, hgk⟩ := List.getElem?_eq_some_iff.1 hat
        simp [mix_len, hat, hgk, hkb, List.getElem?_set_self, List.set_set]
        refine fun _ => ⟨fun _ => ⟨by omega, by simp only [InR]; omega, by omega, by simp only [InR]; omega, by omega, by simp only [InR]; omega, k + 1, by omega, ⟨by omega, .inl ?_⟩, by omega⟩, fun h => by omega⟩
        rw [← hset, ← set_enc]
        simp [shT]
      · have hke : k - a.texts.length = b.texts.length := by omega
        simp [mix_len, hkb, hke, mix_n]
        omega
    rintro - -
    simp
    refine ⟨by omega, by omega, by omega, by omega, fun v3 => ?_⟩
    refine vc_mid (X := Unit) [2, 3, 4, 8, 9, 10] [4, 10, 93, 97, 104] (fun _ => True) (fun _ => []) (fun _ => [(141, .row v3 ty_Region 4 ((a.regs ++ b.regs.map (shR a.toks.length)).map enc))]) ?_ ?_
    · simp
      intro _
      refine vc_while (X := Nat) [2, 3, 4, 8, 9, 10] [4, 10, 93, 97, 104] (fun k => a.regs.length ≤ k ∧ k ≤ a.regs.length + b.regs.length) (fun k => [(12, enc (k : Int))]) (fun k => [(141, .row v3 ty_Region 4 ((mix (shR a.toks.length) a.regs b.regs (k - a.regs.length)).map enc))]) (fun k => a.regs.length + b.regs.length - k) a.regs.length (by omega) (by simp) (by simp [mix_0]) ?_
      intro k hk
      by_cases hkb : k < a.regs.length + b.regs.length
      · obtain ⟨t, ht⟩ := at_lt (l := b.regs) (k := k - a.regs.length) (by omega)
        have hat := mix_at' (shR a.toks.length) a.regs b.regs hk.1 ht
        have hset := mix_set' (shR a.toks.length) a.regs b.regs hk.1 ht
        have hc := b10 t (mem_at ht)
        obtain ⟨hk9, hgk⟩ := List.getElem?_eq_some_iff.1 hat
        simp [mix_len, hat, hgk, hkb, List.getElem?_set_self, List.set_set]
        refine fun _ => ⟨fun _ => ⟨by omega, by simp only [InR]; omega, by omega, by simp only [InR]; omega, by omega, by simp only [InR]; omega, k + 1, by omega, ⟨by omega, .inl ?_⟩, by omega⟩, fun h => by omega⟩
        rw [← hset, ← set_enc]
        simp [shR]
      · have hke : k - a.regs.length = b.regs.length := by omega
        simp [mix_len, hkb, hke, mix_n]
        omega
    rintro - -
    simp
    refine ⟨by omega, by omega, by omega, by omega, fun v4 => ?_⟩
    refine vc_mid (X := Unit) [2, 3, 4, 8, 10] [4, 10, 93, 97, 104, 141] (fun _ => True) (fun _ => []) (fun _ => [(178, .row v4 ty_Node 4 ((a.nodes ++ b.nodes.map (shN a.toks.length a.nodes.length)).map enc))]) ?_ ?_
    · simp
      refine vc_while (X := Nat) [2, 3, 4, 8, 9, 10] [4, 10, 93, 97, 104, 141] (fun k => a.nodes.length ≤ k ∧ k ≤ a.nodes.length + b.nodes.length) (fun k => [(13, enc (k : Int))]) (fun k => [(178, .row v4 ty_Node 4 ((mix (shN a.toks.length a.nodes.length) a.nodes b.nodes (k - a.nodes.length)).map enc))]) (fun k => a.nodes.length + b.nodes.length - k) a.nodes.length (by omega) (by simp) (by simp [mix_0]) ?_
      intro k hk
      by_cases hkb : k < a.nodes.length + b.nodes.length
      · obtain ⟨t, ht⟩ := at_lt (l := b.nodes) (k := k - a.nodes.length) (by omega)
        have hat := mix_at' (shN a.toks.length a.nodes.length) a.nodes b.nodes hk.1 ht
        have hset := mix_set' (shN a.toks.length a.nodes.length) a.nodes b.nodes hk.1 ht
        have hc := b11 t (mem_at ht)
        have hc2 := b12 _ t ht
        obtain ⟨hk9, hgk⟩ := List.getElem?_eq_some_iff.1 hat
        simp [mix_len, hat, hgk, hkb, List.getElem?_set_self, List.set_set]
        refine fun _ => ⟨fun _ => ⟨by omega, by simp only [InR]; omega, by omega, by simp only [InR]; omega, by omega, fun hp => ⟨by omega, by simp only [InR]; omega, by omega, by simp only [InR]; omega, k + 1, by omega, ⟨by omega, .inl ?_⟩, by omega⟩, fun hp => ⟨by simp only [InR]; omega, k + 1, by omega, ⟨by omega, .inl ?_⟩, by omega⟩⟩, fun h => by omega⟩
        · rw [← hset, ← set_enc]
          simp [shN, hp]
        · rw [← hset, ← set_enc]
          simp [shN, show ¬ (0 ≤ t.par) by omega]
      · have hke : k - a.nodes.length = b.nodes.length := by omega
        simp [mix_len, hkb, hke, mix_n]
        omega
    rintro - -
    simp [h4, hA, hB]
    refine fun _ _ => ⟨by simp only [InR]; omega, fun _ => ?_, fun _ => ?_⟩
    · rintro hd1 rl1 ⟨q1, q2, q3⟩ hd2 rl2 ⟨p1, p2, p3⟩
      simp only at q1 q2 q3 p1 p2 p3
      refine ⟨by omega, by omega, fun v5 => ⟨by omega, by omega, by omega, by omega, fun v6 _ => ?_⟩⟩
      refine vc_rangeW (wk_ren 247 269 10 bx _ [D.own 93 v0, D.own 97 v1, D.own 104 v2, D.own 141 v3, D.own 178 v4, D.own 269 v5, D.own 249 v6] (by decide) (by decide) rfl rfl (fun m c c' h h' => ?_)) ?_
      · rcases m with _ | _ | _ | _ | _ | _ | _ | m <;> simp at h h' <;> subst h <;> subst h' <;> simp
      refine vc_range (X := Value × List Int) [4, 8, 10, 254] [4, 93, 97, 104, 141, 178, 249] hd2.length (fun k x => x.2.length = hd1.length + k ∧ ∀ h ∈ x.2, h ≤ a.toks.length + b.toks.length) (fun _ => []) (fun x => [(10, .box bx [D.own 93 v0, D.own 97 v1, D.own 104 v2, D.own 141 v3, D.own 178 v4, D.own 269 x.1, D.own 249 v6]), (269, .row x.1 ty_int 1 (x.2.map enc))]) (v5, hd1) (by simp) (by simp) (by omega) (by simp) (by simp) ⟨rfl, fun h hh => by have := q1 h hh; omega⟩ (by simp) (by simp) ?_ ?_
      · rintro k ⟨v, l⟩ hk ⟨hx1, hx2⟩
        simp only at hx1 hx2
        obtain ⟨x, hx⟩ := at_lt hk
        have hpx := p1 x (mem_at hx)
        obtain ⟨_, hgx⟩ := List.getElem?_eq_some_iff.1 hx
        simp [hk, hx, hgx]
        refine vc_mid (X := Int) [4, 8, 10, 254, 255, 256] [4, 10, 93, 97, 104, 141, 178, 249, 269] (fun y => y ≤ a.toks.length + b.toks.length) (fun y => [(19, enc y)]) (fun _ => []) ?_ ?_
        · simp
          exact ⟨fun h0 => ⟨by simp only [InR]; omega, by omega⟩, fun h0 => by omega⟩
        · intro y hy
          simp
          refine ⟨by omega, by omega, fun v => ⟨v, l ++ [y], ⟨by simp; omega, fun h hh => ?_⟩, .inl rfl, .inl ⟨rfl, app_enc l y⟩⟩⟩
          rcases List.mem_append.1 hh with hh | hh
          · exact hx2 h hh
          · simp at hh; omega
      · rintro ⟨v, l⟩ ⟨hx1, hx2⟩
        simp only at hx1 hx2
        simp
        refine ⟨joinC a b l (rl1 ++ rl2), ?_, fun _ => wf_join hA hB l1 l2 l3 l4 (by omega) (by simp; omega) hx2⟩
        simp only [fz_agg_cons]
        refine ⟨fz_o (X := Attr) ty_Attribute (by simp [joinC]), fz_o (X := List B) ty_L_string (by simp [joinC]), fz_o (X := Text) ty_Text (by simp [joinC]), fz_o (X := Region) ty_Region (by simp [joinC]), fz_o (X := Node) ty_Node (by simp [joinC]), fz_o (X := Int) ty_int (by simp [joinC]), fz_o (X := B) ty_string (by simp [joinC]), .same _⟩
    · refine ⟨joinC a b [] [], ?_, fun _ => wf_join hA hB l1 l2 l3 l4 (by simp) (by simp) (by simp)⟩
      simp only [fz_agg_cons]
      refine ⟨fz_o (X := Attr) ty_Attribute (by simp [joinC]), fz_o (X := List B) ty_L_string (by simp [joinC]), fz_o (X := Text) ty_Text (by simp [joinC]), fz_o (X := Region) ty_Region (by simp [joinC]), fz_o (X := Node) ty_Node (by simp [joinC]), .nil _, .nil _, .same _⟩
end Go.Gv

namespace Go.Gv
set_option linter.unusedSimpArgs false
set_option linter.unusedVariables false
set_option maxRecDepth 100000
open Cod (enc dec)
variable {S S0 : Nat → Spc}
abbrev s_m_Document : Spc := spc (aT (a2 B Int)) (fun x => 1 ≤ x.2.2 ∧ x.2.2 ≤ 1000) (enc (X := Corpus)) (fun _ c => WFc c)
abbrev s_m_Corpus : Spc := spc (aT (a1 Int)) (fun x => 1 ≤ x.2 ∧ x.2 ≤ 1000) (enc (X := Corpus)) (fun _ c => WFc c)
theorem w_m_Corpus (h1 : S f_m_Tape_Next = s_m_Next) (h2 : S f_m_Tape_Document = s_m_Document) (h3 : S f_r06_Concat = s_r06_Concat) : Walk cc_m_Tape_Corpus rs_m_Tape_Corpus S (aT (a1 Int)) (fun x => 1 ≤ x.2 ∧ x.2 ≤ 1000) (enc (X := Corpus)) (fun _ c => WFc c) := by
  rintro ⟨L, n⟩ hn
  have hn : 1 ≤ n ∧ n ≤ 1000 := hn
  simp [cc_m_Tape_Corpus, rs_m_Tape_Corpus, h1, h2, hn]
  intro b y hy b1 k hk0 hk1
  refine vc_while (X := Int × Corpus) [0, 1, 4, 5] [4] (fun x => 0 ≤ x.1 ∧ x.1 ≤ 2 ∧ WFc x.2) (fun x => [(6, enc x.1)]) (fun x => [(5, .box b1 (enc x.2).cells)]) (fun x => x.1.toNat) (k, y) ⟨hk0, by omega, hy⟩ (by simp) (by simp) ?_
  rintro ⟨k, c⟩ ⟨q1, q2, q3⟩
  simp only at q1 q2 q3
  simp [h1, h2, h3, hn]
  refine ⟨fun hk => ⟨by omega, by omega, ?_⟩, fun hk => ?_⟩
  · have : k = 1 ∨ k = 2 := by omega
    rcases this with rfl | rfl
    all_goals
      simp [hn]
      refine fun y hy => ⟨⟨q3, hy⟩, fun a e he => ⟨fun h0 => ⟨by simp [InR], _, a, ⟨?_, ?_, he h0⟩, ⟨rfl, .inl ⟨rfl, rfl, rfl, rfl, rfl, rfl, rfl⟩⟩, ?_⟩, fun h0 => ⟨by simp [InR], _, c, ⟨?_, ?_, q3⟩, ⟨rfl, .inl ⟨rfl, rfl, rfl, rfl, rfl, rfl, rfl⟩⟩, ?_⟩⟩⟩
      all_goals omega
  · exact fin_of c (by simp) q3
end Go.Gv
