/- A part of the framework and of the walks: Cl N1 W22 T19 W15 T20 W16 T21 W18 W9 W19 Asm. -/
import Derived.Test.YtblcfloekekefaaGe12
import Derived.Test.YtblcfloekekefaaGe17
import Derived.Test.YtblcfloekekefaaGe14
import Derived.Test.YtblcfloekekefaaGe16
import Derived.Test.YtblcfloekekefaaGe15

namespace Go.Gv
open Go.Proofs
/-- corpora/corporalaw30.SubcorpusLaws [L_int] -> [bool] -/
def cc_law30_SubcorpusLaws : CC :=
  .seq (.reg [
    .op (some 2) none (.mv (.const (.bool false)))])
  (.keep [0] [] (.seq (.reg [
    .op (some 11) none (.mv (.tmp 0)),
    .op (some 12) none (.call f_m_New [(.tmp 11)]),
    .op (some 3) none (.mv (.tmp 12))])
  (.keep [3] [] (.seq (.reg [
    .op (some 13) none (.mv (.tmp 3)),
    .op (some 14) none (.call f_m_Tape_Corpus [(.tmp 13), (.const (.int .i64 5))]),
    .op (some 4) none (.alloc ty_Corpus [(.slice none 0 0), (.slice none 0 0), (.slice none 0 0), (.slice none 0 0), (.slice none 0 0), (.slice none 0 0), (.slice none 0 0)]),
    .op none none (.store none 7 (.tmp 4) (.tmp 14))])
  (.keep [3, 4] [4] (seqM 3 (.regd [
    .op (some 15) none (.mv (.tmp 3)),
    .op (some 16) none (.load true 7 (.tmp 4)),
    .op (some 17) none (.call f_m_Tape_Spans [(.tmp 15), (.tmp 16), (.const (.int .i64 6))]),
    .op (some 18) none (.mv (.tmp 3)),
    .op (some 19) none (.load true 7 (.tmp 4)),
    .op (some 20) none (.call f_m_Tape_Spans [(.tmp 18), (.tmp 19), (.const (.int .i64 6))]),
    .op (some 21) none (.mv (.tmp 3)),
    .op (some 22) none (.load true 7 (.tmp 4))] [
    .op (some 23) none (.call f_m_Tape_Spans [(.tmp 21), (.tmp 22), (.const (.int .i64 4))]),
    .op (some 5) none (.mv (.tmp 17)),
    .frz 5 2,
    .op (some 6) none (.mv (.tmp 20)),
    .frz 6 2,
    .op (some 7) none (.mv (.tmp 23)),
    .frz 7 2])
  (.keep [4, 5, 6, 7] [4, 17, 20, 23] (.seq (.reg [
    .op (some 24) none (.mv (.tmp 5)),
    .op (some 25) none (.mv (.tmp 6)),
    .op (some 26) none (.call f_subcorpus_Subtract [(.tmp 24), (.tmp 25)]),
    .op (some 27) none (.mv (.tmp 5)),
    .op (some 28) none (.mv (.tmp 6)),
    .op (some 29) none (.call f_subcorpus_Intersect [(.tmp 27), (.tmp 28)]),
    .op (some 8) none (.mv (.tmp 26)),
    .op (some 9) none (.mv (.tmp 29))])
  (.keep [4, 5, 6, 7, 8, 9] [4, 17, 20, 23] (.seq (.reg [
    .op (some 30) none (.mv (.tmp 5)),
    .op (some 31) none (.mv (.tmp 6)),
    .op (some 32) none (.call f_subcorpus_Unite [(.tmp 30), (.tmp 31)]),
    .op (some 10) none (.mv (.tmp 32))])
  (.keep [4, 5, 6, 7, 8, 9, 10] [4, 17, 20, 23] (.seq (.reg [
    .op (some 33) none (.mv (.tmp 8)),
    .op (some 34) none (.mv (.tmp 9)),
    .op (some 35) none (.call f_subcorpus_Unite [(.tmp 33), (.tmp 34)]),
    .op (some 36) none (.mv (.tmp 5)),
    .op (some 37) none (.call f_subcorpus_Unite [(.tmp 36), (.const (.slice none 0 0))]),
    .op (some 38) none (.call f_r27_Same [(.tmp 35), (.tmp 37)]),
    .op (some 39) none (.mv (.tmp 38)),
    .op (some 40) (some (39, true)) (.mv (.tmp 8)),
    .op (some 41) (some (39, true)) (.mv (.tmp 9)),
    .op (some 42) (some (39, true)) (.call f_subcorpus_Intersect [(.tmp 40), (.tmp 41)]),
    .op (some 43) (some (39, true)) (.len (.tmp 42)),
    .op (some 44) (some (39, true)) (.eql false false [.int] (.tmp 43) (.const (.int .i64 0))),
    .op (some 45) none (.pick (.tmp 39) (.tmp 44) (.const (.bool false))),
    .op (some 46) none (.mv (.tmp 45)),
    .op (some 47) (some (46, true)) (.mv (.tmp 10)),
    .op (some 48) (some (46, true)) (.mv (.tmp 6)),
    .op (some 49) (some (46, true)) (.mv (.tmp 5)),
    .op (some 50) (some (46, true)) (.call f_subcorpus_Unite [(.tmp 48), (.tmp 49)]),
    .op (some 51) (some (46, true)) (.call f_r27_Same [(.tmp 47), (.tmp 50)]),
    .op (some 52) none (.pick (.tmp 46) (.tmp 51) (.const (.bool false))),
    .op (some 53) none (.mv (.tmp 52)),
    .op (some 54) (some (53, true)) (.mv (.tmp 10)),
    .op (some 55) (some (53, true)) (.mv (.tmp 7)),
    .op (some 56) (some (53, true)) (.call f_subcorpus_Unite [(.tmp 54), (.tmp 55)]),
    .op (some 57) (some (53, true)) (.mv (.tmp 5)),
    .op (some 58) (some (53, true)) (.mv (.tmp 6)),
    .op (some 59) (some (53, true)) (.mv (.tmp 7)),
    .op (some 60) (some (53, true)) (.call f_subcorpus_Unite [(.tmp 58), (.tmp 59)]),
    .op (some 61) (some (53, true)) (.call f_subcorpus_Unite [(.tmp 57), (.tmp 60)]),
    .op (some 62) (some (53, true)) (.call f_r27_Same [(.tmp 56), (.tmp 61)]),
    .op (some 63) none (.pick (.tmp 53) (.tmp 62) (.const (.bool false))),
    .op (some 64) none (.mv (.tmp 63)),
    .op (some 65) (some (64, true)) (.mv (.tmp 5)),
    .op (some 66) (some (64, true)) (.mv (.tmp 5)),
    .op (some 67) (some (64, true)) (.call f_subcorpus_Inside [(.tmp 65), (.tmp 66)]),
    .op (some 68) (some (64, true)) (.mv (.tmp 5)),
    .op (some 69) (some (64, true)) (.call f_subcorpus_Unite [(.tmp 68), (.const (.slice none 0 0))]),
    .op (some 70) (some (64, true)) (.call f_r27_Same [(.tmp 67), (.tmp 69)]),
    .op (some 71) none (.pick (.tmp 64) (.tmp 70) (.const (.bool false))),
    .op (some 72) none (.mv (.tmp 71)),
    .op (some 73) (some (72, true)) (.load true 7 (.tmp 4)),
    .op (some 74) (some (72, true)) (.mv (.tmp 10)),
    .op (some 75) (some (72, true)) (.call f_subcorpus_IsList [(.tmp 73), (.tmp 74)]),
    .op (some 76) none (.pick (.tmp 72) (.tmp 75) (.const (.bool false))),
    .op (some 77) none (.mv (.tmp 76)),
    .op (some 78) (some (77, true)) (.call f_law30_known []),
    .op (some 79) none (.pick (.tmp 77) (.tmp 78) (.const (.bool false))),
    .op (some 2) none (.mv (.tmp 79))])
  (.keep [2] [17, 20, 23] (.ret))))))))))))))
def rs_law30_SubcorpusLaws : List CRes := [.tmp 2]
def im_law30_SubcorpusLaws : List Nat := []
theorem ok_law30_SubcorpusLaws : FnOk Try.prog f_law30_SubcorpusLaws im_law30_SubcorpusLaws cc_law30_SubcorpusLaws rs_law30_SubcorpusLaws 80 := fnOk1 mixed (by kernel_rfl)
/-- corpora/corporalaw30.known [] -> [bool] -/
def cc_law30_known : CC :=
  .seq (.reg [
    .op (some 0) none (.mv (.const (.bool false)))])
  (.keep [] [] (.seq (.reg [
    .op (some 2) none (.build [(.int .i64 0), (.int .i64 0)] [(0, 1, (.const (.int .i64 2))), (1, 1, (.const (.int .i64 3)))]),
    .op (some 3) none (.build [(.int .i64 0), (.int .i64 0)] [(0, 1, (.const (.int .i64 0))), (1, 1, (.const (.int .i64 1)))]),
    .op (some 4) none (.bslice ty_Span 2 [(.tmp 2), (.tmp 3)]),
    .op (some 5) none (.build [(.int .i64 0), (.int .i64 0)] [(0, 1, (.const (.int .i64 0))), (1, 1, (.const (.int .i64 1)))]),
    .op (some 6) none (.bslice ty_Span 2 [(.tmp 5)]),
    .op (some 7) none (.call f_subcorpus_Unite [(.tmp 4), (.tmp 6)]),
    .op (some 1) none (.mv (.tmp 7))])
  (.keep [1] [] (.seq (.reg [
    .op (some 8) none (.mv (.tmp 1)),
    .op (some 9) none (.build [(.int .i64 0), (.int .i64 0)] [(0, 1, (.const (.int .i64 0))), (1, 1, (.const (.int .i64 1)))]),
    .op (some 10) none (.build [(.int .i64 0), (.int .i64 0)] [(0, 1, (.const (.int .i64 2))), (1, 1, (.const (.int .i64 3)))]),
    .op (some 11) none (.bslice ty_Span 2 [(.tmp 9), (.tmp 10)]),
    .op (some 12) none (.call f_r27_Same [(.tmp 8), (.tmp 11)]),
    .op (some 13) none (.mv (.tmp 12)),
    .op (some 14) (some (13, true)) (.mv (.tmp 1)),
    .op (some 15) (some (13, true)) (.mv (.tmp 1)),
    .op (some 16) (some (13, true)) (.call f_subcorpus_Subtract [(.tmp 14), (.tmp 15)]),
    .op (some 17) (some (13, true)) (.len (.tmp 16)),
    .op (some 18) (some (13, true)) (.eql false false [.int] (.tmp 17) (.const (.int .i64 0))),
    .op (some 19) none (.pick (.tmp 13) (.tmp 18) (.const (.bool false))),
    .op (some 0) none (.mv (.tmp 19))])
  (.keep [0] [] (.ret))))))
def rs_law30_known : List CRes := [.tmp 0]
def im_law30_known : List Nat := []
theorem ok_law30_known : FnOk Try.prog f_law30_known im_law30_known cc_law30_known rs_law30_known 20 := fnOk1 mixed (by kernel_rfl)

end Go.Gv

namespace Go.Gv
set_option linter.unusedSimpArgs false
set_option linter.unusedVariables false
set_option maxRecDepth 100000
open Cod (enc dec)
variable {S S0 : Nat → Spc}
instance (a b : Span) : Decidable (ltS a b) := by unfold ltS; infer_instance
theorem norm_ex : ∀ l : List Span, ∃ r, IsNorm l r := by
  refine list_snoc ⟨[], IsNorm.nil⟩ fun l x ⟨r, h⟩ => ?_
  by_cases hx : x ∈ r
  · exact ⟨r, h.1, fun y => by simp [h.2 y]; intro e; subst e; exact (h.2 _).1 hx⟩
  · refine ⟨r.filter (fun y => decide (ltS y x)) ++ x :: r.filter (fun y => decide (ltS x y)), ?_, fun y => ?_⟩
    · refine List.pairwise_append.2 ⟨h.1.filter _, List.pairwise_cons.2 ⟨fun y hy => by simpa using (List.mem_filter.1 hy).2, h.1.filter _⟩, fun a ha b hb => ?_⟩
      have h1 : ltS a x := by simpa using (List.mem_filter.1 ha).2
      rcases List.mem_cons.1 hb with rfl | hb
      · exact h1
      · exact ltS_trans h1 (by simpa using (List.mem_filter.1 hb).2)
    · simp only [List.mem_append, List.mem_cons, List.mem_filter, decide_eq_true_eq, List.not_mem_nil, or_false, ← h.2 y]
      constructor
      · rintro (⟨a, _⟩ | rfl | ⟨a, _⟩)
        · exact .inl a
        · exact .inr rfl
        · exact .inl a
      · rintro (a | rfl)
        · rcases ltS_tot y x with e | e | e
          · exact .inl ⟨a, e⟩
          · exact .inr (.inl e)
          · exact .inr (.inr ⟨a, e⟩)
        · exact .inr (.inl rfl)
noncomputable def normL (l : List Span) : List Span := Classical.choose (norm_ex l)
theorem normL_ok (l : List Span) : IsNorm l (normL l) := Classical.choose_spec (norm_ex l)
theorem all_norm (l : List Span) (P : List Span → Prop) : (∀ y, IsNorm l y → P y) = P (normL l) :=
  propext ⟨fun h => h _ (normL_ok l), fun h y hy => (hy.eq (normL_ok l) fun _ => Iff.rfl) ▸ h⟩
theorem norm_uniq {l r r' : List Span} (h : IsNorm l r) (k : IsNorm l r') : r = r' := h.eq k fun _ => Iff.rfl
def isTrue : Unit → Bool → Prop := fun _ y => y = true
abbrev s_law30_known : Spc := spc a0 (fun _ => True) enc isTrue
theorem known_norm {y : List Span} (h : IsNorm [⟨2, 3⟩, ⟨0, 1⟩, ⟨0, 1⟩] y) : y = [⟨0, 1⟩, ⟨2, 3⟩] := by
  refine h.eq (IsNorm.self (l := [⟨0, 1⟩, ⟨2, 3⟩]) (by simp [SS, ltS])) fun x => ?_
  simp
  constructor
  · rintro (h | h) <;> simp [h]
  · rintro (h | h) <;> simp [h]
theorem w_law30_known (h1 : S f_subcorpus_Unite = s_subcorpus_Unite) (h2 : S f_r27_Same = s_r27_Same) (h3 : S f_subcorpus_Subtract = s_subcorpus_Subtract) :
    Walk cc_law30_known rs_law30_known S a0 (fun _ => True) enc isTrue := by
  rintro x -
  simp [cc_law30_known, rs_law30_known, h1, h2, h3]
  intro y hy
  have e := known_norm hy
  refine ⟨fun _ => ⟨?_, fun z hz _ => ?_⟩, fun h => absurd e h⟩
  · have := hy.len
    simp only [P_op]
    simp at this
    omega
  · have : ∀ s ∈ y, hasS y s = true := fun s hs => by simp [hasS, hs]
    have hn : y.filter (fun s => !hasS y s) = [] := by
      rw [List.filter_eq_nil_iff]
      intro s hs
      simp [this s hs]
    rw [hn] at hz
    have : z = [] := by
      apply List.eq_nil_iff_forall_not_mem.2
      intro s hs
      exact absurd ((hz.2 s).1 hs) (by simp)
    subst this
    simp [isTrue]

end Go.Gv

namespace Go.Gv
set_option linter.unusedSimpArgs false
set_option linter.unusedVariables false
set_option maxRecDepth 100000
open Cod (enc dec)
variable {S S0 : Nat → Spc}
theorem normL_mem (l : List Span) (s : Span) : s ∈ normL l ↔ s ∈ l := (normL_ok l).2 s
theorem normL_eq {l l' : List Span} (h : ∀ s, s ∈ l ↔ s ∈ l') : normL l = normL l' := (normL_ok l).eq (normL_ok l') h
theorem chain_find : ∀ {l : List Text} {s e p : Int} {t : Text}, Chain s l e → t ∈ l → inT p t = true → l.find? (inT p) = some t
  | [], _, _, _, _, _, h, _ => by simp at h
  | a :: r, s, e, p, t, hc, ht, hp => by
    obtain ⟨h1, h2, h3⟩ := hc
    rcases List.mem_cons.1 ht with rfl | ht
    · rw [List.find?_cons_of_pos hp]
    · have hb := (chain_mem h3 t ht).1
      have hp' : t.b ≤ p ∧ p < t.e := by simpa [inT] using hp
      rw [List.find?_cons_of_neg (by simp [inT]; omega)]
      exact chain_find h3 ht hp
theorem list_ok {c : Corpus} {l : List Span} (hc : WFc c) (h : ∀ s ∈ l, ∃ t ∈ c.texts, t.b ≤ s.b ∧ s.b < s.e ∧ s.e ≤ t.e) (k : Nat) : OkAt c (normL l) k := by
  intro s hs
  have hm := (normL_mem l s).1 (mem_at hs)
  obtain ⟨t, ht, h1, h2, h3⟩ := h s hm
  refine ⟨h2, ⟨t, chain_find hc.1 ht (by simp [inT]; omega), h3⟩, fun hk r hr => ?_⟩
  have hp := (normL_ok l).1
  obtain ⟨i1, e1⟩ := List.getElem?_eq_some_iff.1 hs
  obtain ⟨i2, e2⟩ := List.getElem?_eq_some_iff.1 hr
  have := List.pairwise_iff_getElem.1 hp (k - 1) k i2 i1 (by omega)
  rw [e1, e2] at this
  exact this
theorem e_split (x y : List Span) : normL (normL (x.filter fun s => !hasS y s) ++ normL (x.filter (hasS y))) = normL x := normL_eq fun s => by
  simp only [List.mem_append, normL_mem, List.mem_filter]
  constructor
  · rintro (h | h) <;> exact h.1
  · intro h
    cases hb : hasS y s
    · exact .inl ⟨h, by simp⟩
    · exact .inr ⟨h, rfl⟩
theorem e_comm (x y : List Span) : normL (y ++ x) = normL (x ++ y) := normL_eq fun s => by simp [or_comm]
theorem e_assoc (x y z : List Span) : normL (x ++ normL (y ++ z)) = normL (normL (x ++ y) ++ z) := normL_eq fun s => by simp [normL_mem, or_assoc]
theorem e_empty (x y : List Span) : normL ((normL (x.filter fun s => !hasS y s)).filter (hasS (normL (x.filter (hasS y))))) = [] := by
  refine List.eq_nil_iff_forall_not_mem.2 fun s hs => ?_
  rw [normL_mem, List.mem_filter, normL_mem, List.mem_filter] at hs
  obtain ⟨⟨_, h1⟩, h2⟩ := hs
  have h3 : s ∈ normL (x.filter (hasS y)) := by simpa [hasS] using h2
  rw [normL_mem, List.mem_filter] at h3
  rw [h3.2] at h1
  simp at h1
theorem e_self (x : List Span) : normL (x.filter fun s => liesS s x) = normL x := normL_eq fun s => by
  rw [List.mem_filter]
  refine ⟨fun h => h.1, fun h => ⟨h, ?_⟩⟩
  simp only [liesS, List.any_eq_true]
  exact ⟨s, h, by simp [containsS]⟩
abbrev s_law30_Laws : Spc := spc (a1 (List Int)) (fun _ => True) enc fun _ (y : Bool) => y = true
theorem w_law30_SubcorpusLaws (k1 : S f_m_New = s_m_New) (k2 : S f_m_Tape_Corpus = s_m_Corpus) (k3 : S f_m_Tape_Spans = s_m_Spans)
    (h1 : S f_subcorpus_Unite = s_subcorpus_Unite) (h2 : S f_r27_Same = s_r27_Same) (h3 : S f_subcorpus_Subtract = s_subcorpus_Subtract) (h4 : S f_subcorpus_Intersect = s_subcorpus_Intersect) (h5 : S f_subcorpus_Inside = s_subcorpus_Inside)
    (h6 : S f_subcorpus_IsList = s_subcorpus_IsList) (h7 : S f_law30_known = s_law30_known) :
    Walk cc_law30_SubcorpusLaws rs_law30_SubcorpusLaws S (a1 (List Int)) (fun _ => True) enc fun _ (y : Bool) => y = true := by
  rintro l -
  simp [cc_law30_SubcorpusLaws, rs_law30_SubcorpusLaws, k1, k2]
  intro L c hc b
  refine vc_mid (X := List Span × List Span × List Span) [4] [4] (fun x => x.1.length ≤ 100 ∧ x.2.1.length ≤ 100 ∧ x.2.2.length ≤ 100 ∧ ∀ s, s ∈ x.1 ++ x.2.1 → ∃ t ∈ c.texts, t.b ≤ s.b ∧ s.b < s.e ∧ s.e ≤ t.e) (fun x => [(5, enc x.1), (6, enc x.2.1), (7, enc x.2.2)]) (fun _ => []) ?_ ?_
  · simp [k3]
    refine ⟨⟨hc, by simp, by simp⟩, fun x hx => ⟨⟨hc, by simp, by simp⟩, fun y hy => ⟨⟨hc, by simp, by simp⟩, fun z hz => ⟨x, y, z, ⟨?_, ?_, ?_, ?_⟩, rfl, rfl, rfl⟩⟩⟩⟩
    · have := hx.1; simp at this; omega
    · have := hy.1; simp at this; omega
    · have := hz.1; simp at this; omega
    · intro s hs
      rcases hs with hs | hs
      · exact hx.2 s hs
      · exact hy.2 s hs
  · rintro ⟨x, y, z⟩ ⟨q1, q2, q3, q4⟩
    simp only at q1 q2 q3 q4
    have hl : ∀ l : List Span, (normL l).length ≤ l.length := fun l => (normL_ok l).len
    have hf : ∀ (l : List Span) (p : Span → Bool), (l.filter p).length ≤ l.length := fun l p => List.length_filter_le p l
    simp [h1, h2, h3, h4, h5, h6, h7, ↓all_norm, ↓forall_eq, e_split, e_comm x y, e_assoc, e_empty, e_self]
    have hq : ∀ k, OkAt c (normL (x ++ y)) k := list_ok hc q4
    have a1 := hl (x.filter fun s => !hasS y s)
    have a2 := hf x fun s => !hasS y s
    have a3 := hl (x.filter (hasS y))
    have a4 := hf x (hasS y)
    have a5 := hl (x ++ y)
    have a6 := hl (y ++ z)
    rw [List.length_append] at a5 a6
    refine ⟨by simp only [P_op]; omega, by omega, by omega, by omega, by simp only [P_op]; omega, by omega, by omega, by omega, by omega, by simp only [P_op]; omega, by omega, fun h => ?_, fun _ => by simp [isTrue]⟩
    exact absurd (h.2 hq) (by simp)
end Go.Gv

namespace Go.Gv
set_option linter.unusedSimpArgs false
set_option linter.unusedVariables false
section
variable {X Y : Type}
def FinXW (cf : Y → List D) (b : Nat) (post : Y → Prop) (r : D) (H : HMap) : Prop := ∃ y cs, r = .tup [] ∧ H 1 = some (.box b cs) ∧ FzL (froz 1 [] H) cs (cf y) ∧ post y
def WalkBXW (cc : CC) (rs : List CRes) (S : Nat → Spc) (ce : X → List D) (cf : Y → List D) (pre : X → Prop) (post : X → Y → Prop) : Prop :=
  ∀ L b x, pre x → vc S cc (retK rs fun r H' => FinXW cf b (post x) r H') (initS [.tape L, .bptr 1 b 0]) (updH noH 1 (some (.box b (ce x))))
variable {P : Program} {S : Nat → Spc} {f : Nat} {im : List Nat} {cc : CC} {rs : List CRes} {N : Nat}
theorem tri_walkBXW {ce : X → List D} {cf : Y → List D} {pre : X → Prop} {post : X → Y → Prop} (hS : ∀ f, Tri P f (S f).pt) (h : FnOk P f im cc rs N) (hN : 2 ≤ N) (hw : WalkBXW cc rs S ce cf pre post) : Tri P f (bxC ce cf pre post).pt := by
  obtain ⟨mix, enter, fn, code, h1, h2, h3, h4, h5⟩ := h
  refine tri_of_vcW hS mix h1 h2 enter h3 h4 h5 ?_
  rintro ds H d K ⟨L, id, b, x, rfl, hid, hp, hK⟩
  refine ⟨hN, [.tape L, .bptr 1 b 0], updH noH 1 (some (.box b (ce x))), fun _ => id, .cons (.same _) (.cons (.bptr _ _ _ _) .nil), fun i r h => ?_, fun i j r s h h' _ => ?_, _, hw L b x hp, ?_⟩
  · by_cases e : i = 1
    · subst e
      simp only [updH, if_true] at h
      cases h
      exact hid
    · simp [updH, e, noH] at h
  · have a : i = 1 := by
      by_cases e : i = 1
      · exact e
      · simp [updH, e, noH] at h
    have b : j = 1 := by
      by_cases e : j = 1
      · exact e
      · simp [updH, e, noH] at h'
    exact a.trans b.symm
  · rintro r H' ⟨y, cs, rfl, hj, hz, hpost⟩
    have hW := hwk_frz (H := H') 1 b cs (cf y) [] hj hz.get.1 hz.get.2
    have hj : left 1 b (cf y) [] H' 1 = some (.box b (cf y)) := rfl
    refine ⟨.tup [], left 1 b (cf y) [] H', noH, updH H id (some (.box b (cf y))), fun i => if i = id then some 1 else none, hW, .same _, fun j q h => by simp [noH] at h, hK y hpost, fun i s hi => ?_, fun i j' k s q hi hj' e1 e2 => ?_⟩
    · by_cases e : i = id
      · subst e
        simp only [updH, if_true] at hi
        cases hi
        simpa using hj
      · simp only [updH, e, if_false] at hi ⊢
        exact ⟨hi, fun k q h he => e he.symm⟩
    · have a : i = id := by
        by_cases e : i = id
        · exact e
        · simp [e] at e1
      have b : j' = id := by
        by_cases e : j' = id
        · exact e
        · simp [e] at e2
      exact a.trans b.symm
end
end Go.Gv

namespace Go.Gv
set_option linter.unusedSimpArgs false
set_option linter.unusedVariables false
set_option maxRecDepth 100000
open Cod (enc dec)
variable {S S0 : Nat → Spc}
theorem w_m_New : WalkFB cc_m_New rs_m_New S := by
  intro l
  simp [cc_m_New, rs_m_New, -List.map_take, take_enc, tpBox]
  omega
def ndE (c : Corpus) : List D := [enc c.attrs, enc c.toks, enc c.texts, enc c.regs, .v (.slice none 0 0), .v (.slice none 0 0), .v (.slice none 0 0)]
def ndF (c : Corpus) : List D := [enc c.attrs, enc c.toks, enc c.texts, enc c.regs, enc c.nodes, .v (.slice none 0 0), .v (.slice none 0 0)]
def hdF (c : Corpus) : List D := [enc c.attrs, enc c.toks, enc c.texts, enc c.regs, enc c.nodes, enc c.heads, enc c.rels]
end Go.Gv

namespace Go.Gv
set_option linter.unusedSimpArgs false
set_option linter.unusedVariables false
section
variable {S : Nat → Spc} {σ : Sg} {H : HMap} {K : Ex → Sg → HMap → Prop}
theorem vc_whileG {X : Type} (ks hk gv0 gv : List Nat) (rn0 rn : List (Nat × Nat)) (P : X → Prop) (sl : X → List (Nat × D)) (hp : X → List (Nat × Res)) (m : X → Nat) (x0 : X) (ids : List Nat) (hids : ∀ x, (hp x).map (·.1) = ids)
    (hi0 : Inj rn0 (ids ++ hk) gv0 ∧ ∀ i ∈ hk, i ∉ ids → rnm rn0 i = i) (hi : Inj rn (ids ++ hk) gv ∧ ∀ i ∈ hk, i ∉ ids → rnm rn i = i) {k : Nat} {b : CC} (h0 : P x0)
    (hs : MatchF (gvH gv0 H) (sl x0) σ) (hh : MatchR (gvH gv0 H) rn0 (hp x0) H)
    (hr : ∀ x, P x → vc S b (whlK P (fun y => BackG σ H ks hk gv rn (sl y) (hp y)) m x K) (addS (sl x) (keepS ks σ)) (addH (hp x) (keepH hk H))) : vc S (.loop k b) K σ H := by
  rw [e_loop]
  refine ⟨⟨X, P, fun x => addS (sl x) (keepS ks σ), fun x => addH (hp x) (keepH hk H), m⟩, ⟨x0, h0, wk_matchG (by rw [hids x0]; exact hi0.1) (by rw [hids x0]; exact hi0.2) hs (fun _ _ => rfl) hh (fun _ _ => rfl)⟩, fun x hx => vc_mono b _ _ (fun e σ' H' h => ?_) (hr x hx)⟩
  cases e with
  | norm =>
    obtain ⟨y, h1, h2, h3⟩ := h
    exact ⟨y, h1, wk_matchG (by rw [hids y]; exact hi.1) (by rw [hids y]; exact hi.2) h2.1 h2.2.1 h2.2.2.1 h2.2.2.2, h3⟩
  | ex i => exact h
  | ret => exact h
end
end Go.Gv

namespace Go.Gv
set_option linter.unusedSimpArgs false
set_option linter.unusedVariables false
set_option maxRecDepth 100000
open Cod (enc dec)
variable {S S0 : Nat → Spc}
def strs (l : List B) : List D := l.map enc
theorem strs2 (a b : B) : D.list 1 [.v (.string a), .v (.string b)] = .list 1 (strs [a, b]) := id rfl
theorem strs3 (a b c : B) : D.list 1 [.v (.string a), .v (.string b), .v (.string c)] = .list 1 (strs [a, b, c]) := id rfl
theorem strs_len (l : List B) : (strs l).length = l.length := by simp [strs]
theorem strs_at (l : List B) (i : Nat) (d : D) : ((strs l)[i]? = some d) = ∃ s, l[i]? = some s ∧ .v (.string s) = d := by
  simp [strs]
def NdOk (n : Nat) (ns : List Node) : Prop := (∀ x ∈ ns, 0 ≤ x.b ∧ x.b ≤ n ∧ 0 ≤ x.e ∧ x.e ≤ n) ∧ ∀ (j : Nat) (y : Node), ns[j]? = some y → y.par < j
def Q_nodes (c c' : Corpus) : Prop := ∃ ns, c' = { c with nodes := ns } ∧ ns.length ≤ 6 ∧ NdOk c.toks.length ns
def P_nodes (c : Corpus) : Prop := c.toks.length ≤ 4096
theorem w_m_nodes (h1 : S f_m_Tape_Next = s_m_Next) : WalkBXW cc_m_Tape_nodes rs_m_Tape_nodes S ndE ndF P_nodes Q_nodes := by
  intro L b c hc
  have hc : c.toks.length ≤ 4096 := hc
  simp [cc_m_Tape_nodes, rs_m_Tape_nodes, h1, ndE]
  intro _ k hk0 hk1
  refine vc_whileG (X := Int × Int × Value × List Node) [0, 1, 4] [] [] [] [] [] (fun x => 0 ≤ x.1 ∧ x.1 ≤ c.toks.length ∧ 0 ≤ x.2.1 ∧ 2 * x.2.1 + x.2.2.2.length ≤ 6 ∧ NdOk c.toks.length x.2.2.2) (fun x => [(5, enc x.1), (6, enc x.2.1)]) (fun x => [(1, .box b [enc c.attrs, enc c.toks, enc c.texts, enc c.regs, .own 61 x.2.2.1, .v (.slice none 0 0), .v (.slice none 0 0)]), (61, .row x.2.2.1 ty_Node 4 (x.2.2.2.map enc))]) (fun x => x.2.1.toNat) (0, k, .slice none 0 0, []) [1, 61] (fun _ => rfl) (by decide) (by decide) ?_ ?_ ?_ ?_
  · simp [NdOk]; omega
  · simp
  · simp [isNilRow]
    exact .nilown 61
  · rintro ⟨at_, k, v, l⟩ ⟨q1, q2, q3, q4, q5⟩
    simp only at q1 q2 q3 q4 q5
    simp [h1, strs2, strs_len, strs_at]
    have fin : FinXW ndF b (Q_nodes c) (D.tup []) (updH (updH (updH (fun x => none) 96 none) 61 (some (Res.row v ty_Node 4 (List.map enc l)))) 1 (some (Res.box b [D.list 2 (List.map enc c.attrs), D.list 1 (List.map enc c.toks), D.list 4 (List.map enc c.texts), D.list 4 (List.map enc c.regs), D.own 61 v, D.v (Value.slice none 0 0), D.v (Value.slice none 0 0)]))) := by
      refine ⟨{ c with nodes := l }, _, rfl, rfl, ?_, ⟨l, rfl, by omega, q5⟩⟩
      simp [ndF]
      exact fz_o ty_Node rfl
    refine ⟨fun hk => ⟨fun hat y hy0 hy1 => ⟨by simp only [InR]; omega, fun _ => fin, fun hb => ⟨by simp only [InR]; omega, by simp only [InR]; omega, by omega, fun y1 hy1' => ⟨by simp only [InR]; omega, fun _ z hz0 hz1 => ⟨hz0, hz1, fun lb hlb => ⟨by omega, by omega, fun v1 => ?_⟩⟩⟩⟩⟩, fun _ => fin⟩, fun _ => fin⟩
    have hb0 : 0 ≤ at_ + y := by omega
    generalize at_ + y = b' at *
    have he : b' + 1 + y1 ≤ c.toks.length ∧ 0 ≤ y1 := by omega
    generalize hee : b' + 1 + y1 = e' at *
    have ok1 : NdOk c.toks.length (l ++ [⟨lb, b', e', -1⟩]) := by
      refine ⟨fun x hx => ?_, fun j x hx => ?_⟩
      · rcases List.mem_append.1 hx with hx | hx
        · exact q5.1 x hx
        · simp at hx; subst hx; simp only; omega
      · by_cases e : j < l.length
        · rw [List.getElem?_append_left e] at hx; exact q5.2 j x hx
        · rw [List.getElem?_append_right (by omega)] at hx
          have hx := List.mem_of_getElem? hx
          simp at hx; subst hx; simp only; omega
    refine vc_mid (X := Value × List Node) [0, 1, 4, 6, 8] [] (fun x => x.2.length ≤ l.length + 2 ∧ NdOk c.toks.length x.2) (fun _ => []) (fun x => [(1, .box b [enc c.attrs, enc c.toks, enc c.texts, enc c.regs, .own 61 x.1, .v (.slice none 0 0), .v (.slice none 0 0)]), (61, .row x.1 ty_Node 4 (x.2.map enc))]) ?_ ?_
    · simp [h1, strs2, strs_len, strs_at]
      refine fun u hu0 hu1 => ⟨fun _ => ⟨by simp only [InR]; omega, by omega, fun y2 hy2 => ⟨by simp only [InR]; omega, fun z2 hz20 hz21 => ⟨hz20, hz21, fun lb2 _ => ⟨by simp only [InR]; omega, by simp only [InR]; omega, by omega, fun y3 hy3 => ⟨by simp only [InR]; omega, by omega, by omega, fun v2 => ⟨v2, l ++ [⟨lb, b', e', -1⟩] ++ [⟨lb2, b' + y2, b' + y2 + 1 + y3, l.length⟩], ⟨by simp, ?_⟩, .inl rfl, .inl ⟨rfl, by simp⟩⟩⟩⟩⟩⟩⟩, fun _ => ⟨v1, l ++ [⟨lb, b', e', -1⟩], ⟨by simp, ok1⟩, .inl rfl, .inl ⟨rfl, by simp⟩⟩⟩
      refine ⟨fun x hx => ?_, fun j x hx => ?_⟩
      · rcases List.mem_append.1 hx with hx | hx
        · exact ok1.1 x hx
        · simp at hx; subst hx; simp only; omega
      · by_cases e : j < (l ++ [(⟨lb, b', e', -1⟩ : Node)]).length
        · rw [List.getElem?_append_left e] at hx; exact ok1.2 j x hx
        · rw [List.getElem?_append_right (by omega)] at hx
          have hx := List.mem_of_getElem? hx
          simp at hx; subst hx; simp at e; simp only; omega
    · rintro ⟨v2, l2⟩ ⟨r1, r2⟩
      simp only at r1 r2
      simp
      exact ⟨by simp only [InR]; omega, e', k - 1, v2, l2, ⟨by omega, by omega, by omega, by omega, r2⟩, ⟨⟨rfl, rfl⟩, .inl (.inl rfl), .inl (.inl rfl)⟩, by omega⟩
end Go.Gv

namespace Go.Gv
set_option linter.unusedSimpArgs false
set_option linter.unusedVariables false
theorem wk_sub {σ : Sg} {H : HMap} (t id : Nat) (x : Value) (el n : Nat) (es : List D) (h1 : σ t = .own id x) (h2 : H id = some (.row x el n es)) : Wk σ H (upd σ t (.sub id x n 0 es.length)) H := by
  intro E a w ⟨hd, hN, tp, hw, hr⟩
  refine ⟨hd, hN, tp, hw, fun s => ?_⟩
  unfold upd
  split
  · rename_i e
    subst e
    have h3 := hr s
    rw [h1] at h3
    have e1 : a.tmps.getD s undef = x := by
      generalize a.tmps.getD s undef = y at h3
      cases h3; rfl
    obtain ⟨xs, ⟨_, h4⟩, _⟩ := hw.sat.ok id _ h2
    rw [e1]
    rcases h4 with ⟨rfl, h5⟩ | ⟨g, cap, cur, rfl, _, _, h6, h7, _⟩
    · rw [h5]
      exact .subnil id n
    · exact .sub id g es.length cap n 0 es.length _ (Nat.zero_le _) (Nat.le_refl _) h6 h7 (fun _ => by simp)
  · exact hr s
open Cod (enc dec) in
theorem fz_s {X : Type} [Cod X] {H : HMap} {id n hi : Nat} {v : Value} {l : List X} (el : Nat) (h : H id = some (.row v el n (l.map enc))) (hh : hi = l.length) (hn : n = Cod.wd X := by rfl) : FrzTo H (.sub id v n 0 hi) (.list n (l.map enc)) := by
  subst hh
  have e : ((l.map (enc (X := X))).take l.length).drop 0 = l.map enc := by
    rw [List.drop_zero, List.take_of_length_le (by simp)]
  refine .sub h (by rw [e]) (fun d hd => ?_) (fun k c c' h1 h2 => ?_)
  · obtain ⟨x, _, rfl⟩ := List.mem_map.1 hd
    exact ⟨Cod.kn x, (Cod.wid x).trans hn.symm⟩
  · rw [e, h2] at h1
    cases h1
    exact .same _
end Go.Gv

namespace Go.Gv
set_option linter.unusedSimpArgs false
set_option linter.unusedVariables false
set_option maxRecDepth 100000
open Cod (enc dec)
variable {S S0 : Nat → Spc}
def HdOk (n : Nat) (hs : List Int) (rs : List B) : Prop := hs.length = n ∧ rs.length = n ∧ ∀ h ∈ hs, h ≤ n
def Q_heads (c c' : Corpus) : Prop := ∃ hs rs, c' = { c with heads := hs, rels := rs } ∧ hs.length ≤ c.toks.length ∧ rs.length ≤ c.toks.length ∧ ∀ h ∈ hs, h ≤ c.toks.length
theorem w_m_heads (h1 : S f_m_Tape_Next = s_m_Next) : WalkBXW cc_m_Tape_heads rs_m_Tape_heads S ndF hdF P_nodes Q_heads := by
  intro L b c hc
  have hc : c.toks.length ≤ 4096 := hc
  simp [cc_m_Tape_heads, rs_m_Tape_heads, h1, ndF]
  intro _
  refine vc_whileG (X := Int × List Int) [0, 1, 4] [1] [] [27] [] [] (fun x => 0 ≤ x.1 ∧ x.1 ≤ c.toks.length ∧ (x.2.length : Int) = x.1 ∧ ∀ y ∈ x.2, 0 ≤ y ∧ y < c.toks.length) (fun x => [(5, enc x.2), (6, enc x.1)]) (fun x => []) (fun x => c.toks.length - x.1.toNat) (0, []) [] (fun _ => rfl) (by decide) (by decide) ?_ ?_ ?_ ?_
  · simp
  · simp
  · simp
  · rintro ⟨i, l⟩ ⟨q1, q2, q3, q4⟩
    simp only at q1 q2 q3 q4
    simp [h1]
    refine ⟨fun hi => ⟨by simp only [InR]; omega, by omega, fun y hy => ?_⟩, fun hi => ?_⟩
    · have e : List.take y.toNat (List.map enc l) ++ D.v (.int .i64 i) :: List.drop y.toNat (List.map enc l) = (l.take y.toNat ++ i :: l.drop y.toNat).map enc := by simp
      refine ⟨by omega, by omega, by omega, by omega, by omega, by omega, by omega, by omega, by omega, by omega, fun v => ⟨by simp only [InR]; omega, i + 1, l.take y.toNat ++ i :: l.drop y.toNat, ⟨by omega, by omega, ?_, fun z hz => ?_⟩, ⟨?_, rfl⟩, by omega⟩⟩
      · simp; omega
      · rcases List.mem_append.1 hz with hz | hz
        · exact q4 z (List.mem_of_mem_take hz)
        · rcases List.mem_cons.1 hz with hz | hz
          · omega
          · exact q4 z (List.mem_of_mem_drop hz)
      · rw [e]
        exact fz_o ty_int (by simp [gvH])
    · have hil : l.length = c.toks.length := by omega
      refine ⟨by omega, by omega, fun v8 => ⟨by omega, by omega, fun v9 => ?_⟩⟩
      refine vc_mid (X := Bool × List Int × List B) [1] [1] (fun x => HdOk c.toks.length x.2.1 x.2.2) (fun x => [(8, .sub 40 v8 1 0 c.toks.length), (9, .sub 42 v9 1 0 c.toks.length), (10, enc x.1)]) (fun x => [(40, .row v8 ty_int 1 (x.2.1.map enc)), (42, .row v9 ty_string 1 (x.2.2.map enc))]) ?_ ?_
      · simp [-Bool.exists_bool]
        intro _
        refine vc_rangeW ((wk_sub 8 40 v8 ty_int 1 _ rfl rfl).trans (wk_sub 9 42 v9 ty_string 1 _ rfl rfl)) ?_
        simp only [upd_T]
        refine vc_range (X := Bool × List Int × List B) [0, 1, 5, 8, 9, 43] [1] l.length (fun _ x => HdOk c.toks.length x.2.1 x.2.2) (fun x => [(10, enc x.1)]) (fun x => [(40, .row v8 ty_int 1 (x.2.1.map enc)), (42, .row v9 ty_string 1 (x.2.2.map enc))]) (false, List.replicate c.toks.length 0, List.replicate c.toks.length ⟨#[]⟩) (by simp) (by simp) (by omega) (by simp) (by simp) (by simp [HdOk]) (by simp) (by simp) ?_ ?_
        · rintro k ⟨sm, hs, rs⟩ hk ⟨p1, p2, p3⟩
          simp only at p1 p2 p3
          obtain ⟨x, hx⟩ := at_lt hk
          obtain ⟨_, hgx⟩ := List.getElem?_eq_some_iff.1 hx
          have hxr := q4 x (mem_at hx)
          simp [hk, hx, hgx, -Bool.exists_bool]
          refine ⟨by omega, by omega, by omega, fun a ha => ?_⟩
          have e1 : (List.map enc hs).set x.toNat (D.v (Value.int .i64 (-1))) = (hs.set x.toNat (-1)).map enc := set_enc hs _ _
          rw [e1]
          have p1' : (hs.set x.toNat (-1)).length = c.toks.length := by simp [p1]
          have p3' : ∀ h ∈ hs.set x.toNat (-1), h ≤ c.toks.length := fun h hh => by
            rcases List.mem_or_eq_of_mem_set hh with hh | hh
            · exact p3 h hh
            · omega
          generalize hs.set x.toNat (-1) = hs1 at p1' p3' ⊢
          clear p1 p3 ha e1
          refine vc_mid (X := List Int × List B) [0, 1, 5, 8, 9, 10, 12, 43, 44, 45] [1] (fun x => HdOk c.toks.length x.1 x.2) (fun _ => []) (fun x => [(40, .row v8 ty_int 1 (x.1.map enc)), (42, .row v9 ty_string 1 (x.2.map enc))]) ?_ ?_
          · simp [h1, strs3, strs_len, strs_at, -Bool.exists_bool]
            have hlx : ∀ (y : Int), hs1.length = c.toks.length → ∃ z, hs1[x.toNat]? = some z := fun _ _ => at_lt (by omega)
            refine ⟨fun hk0 y _ _ => ⟨fun _ => ⟨by omega, fun y2 hy2 => ⟨by omega, by omega, fun a ha y3 hy30 hy31 => ⟨hy30, hy31, fun s _ => ⟨by omega, by omega, by omega, fun z _ => ⟨by omega, by omega, by omega, fun z2 _ => ⟨hs1.set x.toNat a, rs.set x.toNat s, ⟨by simp [p1'], by simp [p2], fun h hh => ?_⟩, .inl (set_enc hs1 _ _), .inl (set_enc rs _ _)⟩⟩⟩⟩⟩⟩, fun _ => ⟨hs1, rs, ⟨p1', p2, p3'⟩, .inl rfl, .inl rfl⟩⟩, fun _ => ⟨hs1, rs, ⟨p1', p2, p3'⟩, .inl rfl, .inl rfl⟩⟩
            rcases List.mem_or_eq_of_mem_set hh with hh | hh
            · exact p3' h hh
            · have := q4 a (mem_at ha)
              omega
          · rintro ⟨hs2, rs2⟩ ⟨r1, r2, r3⟩
            simp only at r1 r2 r3
            simp [-Bool.exists_bool]
            refine ⟨fun _ => ⟨by omega, by omega, by omega, fun a _ => ⟨fun _ => ⟨by omega, by omega, by omega, fun a2 _ => ⟨!decide (a2 = ⟨#[]⟩), hs2, rs2, ⟨r1, r2, r3⟩, by simp, .inl rfl, .inl rfl⟩⟩, fun _ => ⟨true, hs2, rs2, ⟨r1, r2, r3⟩, by simp, .inl rfl, .inl rfl⟩⟩⟩, fun _ => ⟨true, hs2, rs2, ⟨r1, r2, r3⟩, by simp, .inl rfl, .inl rfl⟩⟩
        · rintro ⟨sm, hs, rs⟩ ⟨p1, p2, p3⟩
          simp only at p1 p2 p3
          simp [-Bool.exists_bool]
          exact ⟨sm, hs, rs, ⟨p1, p2, p3⟩, rfl, .inl rfl, .inl rfl⟩
      · rintro ⟨sm, hs, rs⟩ ⟨p1, p2, p3⟩
        simp only at p1 p2 p3
        simp
        refine ⟨fun _ => ⟨{ c with heads := hs, rels := rs }, _, rfl, rfl, ?_, ⟨hs, rs, rfl, by omega, by omega, p3⟩⟩, fun _ => ⟨{ c with heads := [], rels := [] }, _, rfl, rfl, ?_, ⟨[], [], rfl, by simp, by simp, by simp⟩⟩⟩
        · simp [hdF]
          exact ⟨fz_s ty_int rfl p1.symm, fz_s ty_string rfl p2.symm⟩
        · simp [hdF]
end Go.Gv

namespace Go.Gv
set_option linter.unusedSimpArgs false
set_option linter.unusedVariables false
set_option maxRecDepth 100000
open Cod (enc dec)
variable {S S0 : Nat → Spc}
abbrev s_m_word : Spc := spc (a1 Int) (fun n => 0 ≤ n ∧ n < 6) (enc (X := B)) tot
theorem w_m_word : Walk cc_m_word rs_m_word S (a1 Int) (fun n => 0 ≤ n ∧ n < 6) (enc (X := B)) tot := by
  rintro n hn
  have hn : 0 ≤ n ∧ n < 6 := hn
  simp [cc_m_word, rs_m_word]
  refine ⟨hn.1, hn.2, ?_⟩
  have : n = 0 ∨ n = 1 ∨ n = 2 ∨ n = 3 ∨ n = 4 ∨ n = 5 := by omega
  rcases this with rfl | rfl | rfl | rfl | rfl | rfl <;> simp
abbrev s_m_tag : Spc := spc (a1 Int) (fun n => 0 ≤ n ∧ n < 2) (enc (X := B)) tot
theorem w_m_tag : Walk cc_m_tag rs_m_tag S (a1 Int) (fun n => 0 ≤ n ∧ n < 2) (enc (X := B)) tot := by
  rintro n hn
  have hn : 0 ≤ n ∧ n < 2 := hn
  simp [cc_m_tag, rs_m_tag]
  refine ⟨hn.1, hn.2, ?_⟩
  have : n = 0 ∨ n = 1 := by omega
  rcases this with rfl | rfl <;> simp
abbrev s_m_features : Spc := spc (a1 Int) (fun n => 0 ≤ n ∧ n < 4) (enc (X := B)) tot
theorem w_m_features : Walk cc_m_features rs_m_features S (a1 Int) (fun n => 0 ≤ n ∧ n < 4) (enc (X := B)) tot := by
  rintro n hn
  have hn : 0 ≤ n ∧ n < 4 := hn
  simp [cc_m_features, rs_m_features]
  refine ⟨hn.1, hn.2, ?_⟩
  have : n = 0 ∨ n = 1 ∨ n = 2 ∨ n = 3 := by omega
  rcases this with rfl | rfl | rfl | rfl <;> simp
abbrev s_m_Type : Spc := spc (a1 Int) anyX (enc (X := B)) tot
theorem w_m_Type (h1 : S f_m_Mod = s_m_Mod) : Walk cc_m_Type rs_m_Type S (a1 Int) anyX (enc (X := B)) tot := by
  rintro n -
  simp [cc_m_Type, rs_m_Type, h1]
  have h3 := modI_rng n 3 (by omega)
  refine ⟨h3.1, h3.2, ?_⟩
  have : modI n 3 = 0 ∨ modI n 3 = 1 ∨ modI n 3 = 2 := by omega
  rcases this with h | h | h <;> simp [h]
abbrev s_m_Attributes : Spc := spc a0 anyX (enc (X := List Attr)) (fun _ l => l.length = 3)
theorem w_m_Attributes : Walk cc_m_Attributes rs_m_Attributes S a0 anyX (enc (X := List Attr)) (fun _ l => l.length = 3) := by
  rintro x -
  simp [cc_m_Attributes, rs_m_Attributes]
  exact fin_of (Y := List Attr) [⟨⟨#[119, 111, 114, 100]⟩, false⟩, ⟨⟨#[116, 97, 103]⟩, false⟩, ⟨⟨#[102, 101, 97, 116]⟩, true⟩] (by simp) rfl
end Go.Gv

namespace Go.Gv
set_option linter.unusedSimpArgs false
set_option linter.unusedVariables false
set_option maxRecDepth 100000
open Cod (enc dec)
variable {S S0 : Nat → Spc}
abbrev s_m_nodes : Spc := bxC ndE ndF P_nodes Q_nodes
abbrev s_m_heads : Spc := bxC ndF hdF P_nodes Q_heads
theorem fz_one {H : HMap} {id el n : Nat} {v : Value} {d d' : D} (h : H id = some (.row v el n [d])) (hd : FrzTo H d d') (hk : d'.kn = true ∧ d'.cells.length = n) : FrzTo H (.own id v) (.list n [d']) := by
  refine .row h rfl (fun e he => ?_) (fun k c c' h1 h2 => ?_)
  · simp at he; subst he; exact hk
  · cases k with
    | zero => simp at h1 h2; subst h1; subst h2; exact hd
    | succ k => simp at h1
def ints (l : List Int) : List D := l.map enc
theorem ints8 (a b c d e f g h : Int) : D.list 1 [.v (.int .i64 a), .v (.int .i64 b), .v (.int .i64 c), .v (.int .i64 d), .v (.int .i64 e), .v (.int .i64 f), .v (.int .i64 g), .v (.int .i64 h)] = .list 1 (ints [a, b, c, d, e, f, g, h]) := id rfl
theorem ints_len (l : List Int) : (ints l).length = l.length := by simp [ints]
theorem ints_at (l : List Int) (i : Nat) (d : D) : ((ints l)[i]? = some d) = ∃ s, l[i]? = some s ∧ .v (.int .i64 s) = d := by
  simp [ints]
def nilD : D := .v (.slice none 0 0)
theorem w_m_Document (h1 : S f_m_Tape_Next = s_m_Next) (h2 : S f_m_Attributes = s_m_Attributes) (h3 : S f_m_word = s_m_word) (h4 : S f_m_tag = s_m_tag) (h5 : S f_m_features = s_m_features)
    (h6 : S f_m_Type = s_m_Type) (h7 : S f_r06_SortRegions = s_r06_SortRegions) (h8 : S f_m_Tape_nodes = s_m_nodes) (h9 : S f_m_Tape_heads = s_m_heads) :
    Walk cc_m_Tape_Document rs_m_Tape_Document S (aT (a2 B Int)) (fun x => 1 ≤ x.2.2 ∧ x.2.2 ≤ 1000) (enc (X := Corpus)) (fun _ c => WFc c) := by
  rintro ⟨L, name, most⟩ hm
  have hm : 1 ≤ most ∧ most ≤ 1000 := hm
  simp [cc_m_Tape_Document, rs_m_Tape_Document, h1, h2]
  refine fun b6 => ⟨by omega, fun y hy => ⟨by simp only [InR]; omega, trivial, fun at_ hat v26 b8 => ?_⟩⟩
  obtain ⟨n, hn0, hn⟩ : ∃ n : Nat, 1 + y = (n : Int) ∧ 1 ≤ n ∧ n ≤ 1000 := ⟨(1 + y).toNat, by omega, by omega⟩
  rw [hn0]
  refine vc_midG (X := Text) [0, 6, 7, 8] [6] [26] [] (fun t => t.b = 0 ∧ t.e = n) (fun _ => []) (fun t => [(8, .box b8 [enc at_, .v (.slice none 0 0), enc [t], .v (.slice none 0 0), .v (.slice none 0 0), .v (.slice none 0 0), .v (.slice none 0 0)])]) [8] (fun _ => rfl) (by decide) ?_ ?_
  · simp [h1, strs3, strs_len, strs_at]
    refine fun z _ _ => ⟨fun _ u hu0 hu1 => ⟨hu0, hu1, fun s _ => ⟨⟨name, 0, n, [⟨⟨#[121, 101, 97, 114]⟩, s⟩]⟩, ⟨rfl, rfl⟩, .inl (fz_one (el := ty_Text) (by simp [gvH]) (.same _) ⟨rfl, rfl⟩)⟩⟩, fun _ => ⟨⟨name, 0, n, []⟩, ⟨rfl, rfl⟩, .inl (fz_one (el := ty_Text) (by simp [gvH]; rfl) ?_ ⟨rfl, rfl⟩)⟩⟩
    rw [fz_agg_cons, fz_agg_cons, fz_agg_cons, fz_agg_cons]
    exact ⟨.same _, .same _, .same _, .nil _, .same _⟩
  · rintro t ⟨ht1, ht2⟩
    refine vc_midG (X := List (List B)) [0, 6, 7, 8] [6] [66] [] (fun l => l.length = n) (fun _ => []) (fun l => [(8, .box b8 [enc at_, enc l, enc [t], .v (.slice none 0 0), .v (.slice none 0 0), .v (.slice none 0 0), .v (.slice none 0 0)])]) [8] (fun _ => rfl) (by decide) ?_ ?_
    · simp [h1]
      refine vc_whileG (X := Int × Value × List (List B)) [0, 6, 7, 8] [6] [] [] [] [] (fun x => 0 ≤ x.1 ∧ x.1 ≤ n ∧ (x.2.2.length : Int) = x.1) (fun x => [(9, enc x.1)]) (fun x => [(8, .box b8 [enc at_, .own 66 x.2.1, enc [t], .v (.slice none 0 0), .v (.slice none 0 0), .v (.slice none 0 0), .v (.slice none 0 0)]), (66, .row x.2.1 ty_L_string 1 (x.2.2.map enc))]) (fun x => n - x.1.toNat) (0, .slice none 0 0, []) [8, 66] (fun _ => rfl) (by decide) (by decide) ?_ ?_ ?_ ?_
      · simp
      · simp
      · simp [isNilRow]
        exact .nilown 66
      · rintro ⟨i, v, l⟩ ⟨q1, q2, q3⟩
        simp only at q1 q2 q3
        simp [h1, h3, h4, h5, ints8, ints_len, ints_at]
        refine ⟨fun hi y hy0 hy1 => ?_, fun hi => ⟨l, by omega, .inl (fz_o ty_L_string (by simp [gvH]))⟩⟩
        have a1 : y.tmod 8 = y % 8 := Int.tmod_eq_emod_of_nonneg hy0
        have a2 : y.tdiv 8 = y / 8 := Int.tdiv_eq_ediv_of_nonneg hy0
        have a3 : (y / 8).tmod 2 = (y / 8) % 2 := Int.tmod_eq_emod_of_nonneg (by omega)
        have a4 : y.tdiv 12 = y / 12 := Int.tdiv_eq_ediv_of_nonneg hy0
        rw [a1, a2, a3, a4]
        refine ⟨by omega, by omega, fun s hs => ⟨?_, fun w1 => ⟨by simp only [InR]; omega, by omega, fun w2 => ⟨by simp only [InR]; omega, by omega, fun w3 => ⟨by omega, by omega, fun v2 => ⟨by simp only [InR]; omega, i + 1, v2, l ++ [[w1, w2, w3]], ⟨by omega, by omega, by simp; omega⟩, ⟨rfl, .inl (.inl rfl), .inl (.inl (by simp))⟩, by omega⟩⟩⟩⟩⟩⟩
        have := List.mem_of_getElem? hs
        simp at this
        omega
    · intro toks htk
      refine vc_midG (X := List Region) [0, 6, 7, 8] [6, 8] [165] [] (fun l => l.length ≤ 8 ∧ ∀ r ∈ l, 0 ≤ r.b ∧ r.b ≤ n ∧ 0 ≤ r.e ∧ r.e ≤ n) (fun l => [(11, enc l)]) (fun _ => []) [] (fun _ => rfl) (by decide) ?_ ?_
      · simp [h1]
        intro k hk0 hk1
        refine vc_whileG (X := Int × Value × List Region) [0, 6, 7, 8] [6, 8] [] [] [] [] (fun x => 0 ≤ x.1 ∧ x.1 + x.2.2.length ≤ 4 ∧ ∀ r ∈ x.2.2, 0 ≤ r.b ∧ r.b ≤ n ∧ 0 ≤ r.e ∧ r.e ≤ n) (fun x => [(11, .own 165 x.2.1), (12, enc x.1)]) (fun x => [(165, .row x.2.1 ty_Region 4 (x.2.2.map enc))]) (fun x => x.1.toNat) (k, .slice none 0 0, []) [165] (fun _ => rfl) (by decide) (by decide) ?_ ?_ ?_ ?_
        · simp; omega
        · simp
          exact .nilown 165
        · simp [isNilRow]
        · rintro ⟨k, v, l⟩ ⟨q1, q2, q3⟩
          simp only at q1 q2 q3
          simp [h1, h6]
          refine ⟨fun hk => ⟨by omega, fun u hu z _ _ => ⟨trivial, fun ty => ⟨by simp only [InR]; omega, by simp only [InR]; omega, by omega, fun w hw => ⟨by simp only [InR]; omega, fun b14 => ?_⟩⟩⟩⟩, fun hk => ⟨l, ⟨by omega, q3⟩, fz_o ty_Region (by simp [gvH])⟩⟩
          have hr : 0 ≤ u ∧ u ≤ n ∧ 0 ≤ u + 1 + w ∧ u + 1 + w ≤ n := by omega
          generalize u + 1 + w = e' at *
          refine vc_midG (X := List Pair) [0, 6, 7, 8, 11, 12, 14] [6, 8, 165] [] [] (fun _ => True) (fun _ => []) (fun kv => [(14, .box b14 [.v (.string ty), .v (.int .i64 u), .v (.int .i64 e'), enc kv])]) [14] (fun _ => rfl) (by decide) ?_ ?_
          · simp [h1, strs2, strs_len, strs_at]
            exact fun _ _ _ _ q hq0 hq1 => ⟨hq0, hq1, fun s _ => ⟨[⟨⟨#[110]⟩, s⟩], .inl (.inl rfl)⟩⟩
          · rintro kv -
            simp only [kT_nil, kT_cons]
            simp
            refine vc_mid (X := Bool) [0, 6, 7, 8, 11, 12, 14] [6, 8, 14, 165] (fun _ => True) (fun x => [(15, enc x)]) (fun _ => []) ?_ ?_
            · simp [-Bool.exists_bool]
              intro _
              refine vc_range (X := Bool) [0, 6, 7, 8, 11, 12, 14, 101] [6, 8, 14, 165] l.length (fun _ _ => True) (fun x => [(15, enc x)]) (fun _ => []) false (by simp) (by simp) (by omega) (by simp) (by simp) trivial (by simp) (by simp) ?_ ?_
              · rintro j cr hj -
                obtain ⟨x, hx⟩ := at_lt hj
                obtain ⟨_, hgx⟩ := List.getElem?_eq_some_iff.1 hx
                simp [hj, hx, hgx, -Bool.exists_bool]
                exact fun _ _ _ _ => ⟨fun _ _ _ => ⟨_, (Bool.not_not _).symm⟩, fun _ _ => ⟨_, (Bool.not_not _).symm⟩⟩
              · rintro cr -
                simp [-Bool.exists_bool]
            · rintro cr -
              simp [-Bool.exists_bool]
              refine ⟨fun _ => ⟨by omega, by omega, fun v2 => ⟨by simp only [InR]; omega, k - 1, v2, l ++ [⟨ty, u, e', kv⟩], ⟨by omega, by simp; omega, fun r hrr => ?_⟩, ⟨⟨.same _, rfl⟩, .inl (.inl (by simp))⟩, by omega⟩⟩, fun _ => ⟨by simp only [InR]; omega, k - 1, v, l, ⟨by omega, by omega, q3⟩, ⟨⟨.same _, rfl⟩, .inl (.inl rfl)⟩, by omega⟩⟩
              rcases List.mem_append.1 hrr with hrr | hrr
              · exact q3 r hrr
              · simp at hrr; subst hrr; exact hr
      · rintro rg ⟨hr1, hr2⟩
        simp [h7, h8]
        refine ⟨by simp only [P_Sort]; omega, fun rs ⟨hs1, hs2⟩ => ⟨⟨at_, toks, [t], rs, [], [], []⟩, by simp [ndE], by simp only [P_nodes]; omega, fun c hc => ?_⟩⟩
        obtain ⟨ns, rfl, hns, hnd⟩ := hc
        simp only at hnd
        simp [ndF]
        refine vc_midG (X := List Int × List B) [6, 8] [6] [] [] (fun x => x.1.length ≤ n ∧ x.2.length ≤ n ∧ ∀ h ∈ x.1, h ≤ n) (fun _ => []) (fun x => [(8, .box b8 [enc at_, enc toks, enc [t], enc rs, enc ns, enc x.1, enc x.2])]) [8] (fun _ => rfl) (by decide) ?_ ?_
        · simp [h1, h9]
          refine fun z _ _ => ⟨fun _ => ⟨⟨at_, toks, [t], rs, ns, [], []⟩, by simp [ndF], by simp only [P_nodes]; omega, fun c hc => ?_⟩, fun _ => ⟨[], [], ⟨by simp, by simp, by simp⟩, .inl ⟨rfl, rfl⟩⟩⟩
          obtain ⟨hs, rl, rfl, g1, g2, g3⟩ := hc
          simp only at g1 g2 g3
          simp [hdF]
          exact ⟨hs, rl, ⟨by omega, by omega, fun h hh => by have := g3 h hh; omega⟩, .inl (.inl ⟨rfl, rfl⟩)⟩
        · rintro ⟨hs, rl⟩ ⟨p1, p2, p3⟩
          simp only at p1 p2 p3
          simp
          refine fin_of ⟨at_, toks, [t], rs, ns, hs, rl⟩ (.same _) ?_
          refine ⟨⟨ht1, by omega, by show t.e = (toks.length : Int); omega⟩, by simp, by simp only; omega, by simp, by simp only; omega, by simp only; omega, by simp only; omega, by simp only; omega, by simp only; omega, fun r hr => ?_, fun m hm => ?_, hnd.2, fun h hh => ?_⟩
          · have := hr2 r (hs2 r hr)
            simp only
            omega
          · have := hnd.1 m hm
            simp only
            omega
          · have := p3 h hh
            simp only
            omega
end Go.Gv

namespace Go.Gv
open Go.Proofs
set_option maxRecDepth 100000
theorem t_m_Mod : Tri Try.prog f_m_Mod s_m_Mod.pt :=
  tri_walk (S := tab []) (tab_ok tab_nil) ok_m_Mod (fun _ => Nat.le_of_ble_eq_true rfl) (w_m_Mod)
theorem t_m_Tape_Next : Tri Try.prog f_m_Tape_Next s_m_Next.pt := tri_next (S := tab [(f_m_Mod, s_m_Mod)]) (tab_ok (tab_cons t_m_Mod tab_nil)) rfl ok_m_Tape_Next (by decide)
theorem t_m_New : Tri Try.prog f_m_New s_m_New.pt := tri_new (tri_walkFB (S := tab []) (tab_ok tab_nil) ok_m_New (by decide) w_m_New)
theorem t_r27_Contains : Tri Try.prog f_r27_Contains s_r27_Contains.pt :=
  tri_walk (S := tab []) (tab_ok tab_nil) ok_r27_Contains (fun _ => Nat.le_of_ble_eq_true rfl) (w_r27_Contains)
theorem t_r27_Same : Tri Try.prog f_r27_Same s_r27_Same.pt :=
  tri_walk (S := tab []) (tab_ok tab_nil) ok_r27_Same (fun _ => Nat.le_of_ble_eq_true rfl) (w_r27_Same)
theorem t_r27_Insert : Tri Try.prog f_r27_Insert s_r27_Insert.pt :=
  tri_walk (S := tab []) (tab_ok tab_nil) ok_r27_Insert (fun _ => Nat.le_of_ble_eq_true rfl) (w_r27_Insert)
theorem t_cmp_isNaN_int : Tri Try.prog f_cmp_isNaN_int s_cmp_isNaN_int.pt :=
  tri_walk (S := tab []) (tab_ok tab_nil) ok_cmp_isNaN_int (fun _ => Nat.le_of_ble_eq_true rfl) (w_cmp_isNaN_int)
theorem t_cmp_Compare_int : Tri Try.prog f_cmp_Compare_int s_cmp_Compare_int.pt :=
  tri_walk (S := tab [(f_cmp_isNaN_int, s_cmp_isNaN_int)]) (tab_ok (tab_cons t_cmp_isNaN_int tab_nil)) ok_cmp_Compare_int (fun _ => Nat.le_of_ble_eq_true rfl) (w_cmp_Compare_int rfl)
theorem t_cmp_Or_int : Tri Try.prog f_cmp_Or_int s_cmp_Or_int.pt :=
  tri_walk (S := tab []) (tab_ok tab_nil) ok_cmp_Or_int (fun _ => Nat.le_of_ble_eq_true rfl) (w_cmp_Or_int)
theorem t_r04_First : Tri Try.prog f_r04_First s_r04_First.pt :=
  tri_walk (S := tab []) (tab_ok tab_nil) ok_r04_First (fun _ => Nat.le_of_ble_eq_true rfl) (w_r04_First)
theorem t_r04_Next : Tri Try.prog f_r04_Next s_r04_Next.pt :=
  tri_walk (S := tab [(f_r04_First, s_r04_First)]) (tab_ok (tab_cons t_r04_First tab_nil)) ok_r04_Next (fun _ => Nat.le_of_ble_eq_true rfl) (w_r04_Next rfl)
theorem t_r04_ValidName : Tri Try.prog f_r04_ValidName s_r04_ValidName.pt :=
  tri_walk (S := tab [(f_r04_First, s_r04_First), (f_r04_Next, s_r04_Next)]) (tab_ok (tab_cons t_r04_First (tab_cons t_r04_Next tab_nil))) ok_r04_ValidName (fun _ => Nat.le_of_ble_eq_true rfl) (w_r04_ValidName rfl rfl)
theorem t_r01_Units : Tri Try.prog f_r01_Units s_r01_Units.pt :=
  tri_walk (S := tab []) (tab_ok tab_nil) ok_r01_Units (fun _ => Nat.le_of_ble_eq_true rfl) (w_r01_Units)
theorem t_r01_Valid : Tri Try.prog f_r01_Valid s_r01_Valid.pt :=
  tri_walk (S := tab [(f_r01_Units, s_r01_Units)]) (tab_ok (tab_cons t_r01_Units tab_nil)) ok_r01_Valid (fun _ => Nat.le_of_ble_eq_true rfl) (w_r01_Valid rfl)
theorem t_r04_ValidValue : Tri Try.prog f_r04_ValidValue s_r04_ValidValue.pt :=
  tri_walk (S := tab [(f_r01_Valid, s_r01_Valid)]) (tab_ok (tab_cons t_r01_Valid tab_nil)) ok_r04_ValidValue (fun _ => Nat.le_of_ble_eq_true rfl) (w_r04_ValidValue rfl)
theorem t_r05_Parse : Tri Try.prog f_r05_Parse s_r05_Parse.pt :=
  tri_walk (S := tab [(f_r04_ValidValue, s_r04_ValidValue)]) (tab_ok (tab_cons t_r04_ValidValue tab_nil)) ok_r05_Parse (fun _ => Nat.le_of_ble_eq_true rfl) (w_r05_Parse rfl)
theorem t_r06_sign : Tri Try.prog f_r06_sign s_r06_sign.pt :=
  tri_walk (S := tab []) (tab_ok tab_nil) ok_r06_sign (fun _ => Nat.le_of_ble_eq_true rfl) (w_r06_sign)
theorem t_r06_compare : Tri Try.prog f_r06_compare s_r06_compare.pt :=
  tri_walk (S := tab []) (tab_ok tab_nil) ok_r06_compare (fun _ => Nat.le_of_ble_eq_true rfl) (w_r06_compare)
theorem t_r06_CompareRegions : Tri Try.prog f_r06_CompareRegions s_r06_CompareRegions.pt :=
  tri_walk (S := tab [(f_r06_sign, s_r06_sign), (f_r06_compare, s_r06_compare)]) (tab_ok (tab_cons t_r06_sign (tab_cons t_r06_compare tab_nil))) ok_r06_CompareRegions (fun _ => Nat.le_of_ble_eq_true rfl) (w_r06_CompareRegions rfl rfl)
theorem t_r06_Attributes : Tri Try.prog f_r06_Attributes s_r06_Attributes.pt :=
  tri_walk (S := tab [(f_r04_ValidName, s_r04_ValidName)]) (tab_ok (tab_cons t_r04_ValidName tab_nil)) ok_r06_Attributes (fun _ => Nat.le_of_ble_eq_true rfl) (w_r06_Attributes rfl)
theorem t_r06_Value : Tri Try.prog f_r06_Value s_r06_Value.pt :=
  tri_walk (S := tab [(f_r05_Parse, s_r05_Parse), (f_r04_ValidValue, s_r04_ValidValue)]) (tab_ok (tab_cons t_r05_Parse (tab_cons t_r04_ValidValue tab_nil))) ok_r06_Value (fun _ => Nat.le_of_ble_eq_true rfl) (w_r06_Value rfl rfl)
theorem t_r06_pairs : Tri Try.prog f_r06_pairs s_r06_pairs.pt :=
  tri_walk (S := tab [(f_r04_ValidName, s_r04_ValidName), (f_r04_ValidValue, s_r04_ValidValue)]) (tab_ok (tab_cons t_r04_ValidName (tab_cons t_r04_ValidValue tab_nil))) ok_r06_pairs (fun _ => Nat.le_of_ble_eq_true rfl) (w_r06_pairs rfl rfl)
theorem t_r06_within : Tri Try.prog f_r06_within s_r06_within.pt :=
  tri_walk (S := tab []) (tab_ok tab_nil) ok_r06_within (fun _ => Nat.le_of_ble_eq_true rfl) (w_r06_within)
theorem t_r06_bare : Tri Try.prog f_r06_bare s_r06_bare.pt :=
  tri_walk (S := tab []) (tab_ok tab_nil) ok_r06_bare (fun _ => Nat.le_of_ble_eq_true rfl) (w_r06_bare)
theorem t_r06_TextAt : Tri Try.prog f_r06_TextAt s_r06_TextAt.pt :=
  tri_walk (S := tab []) (tab_ok tab_nil) ok_r06_TextAt (fun _ => Nat.le_of_ble_eq_true rfl) (w_r06_TextAt)
theorem t_r06_FindText : Tri Try.prog f_r06_FindText s_r06_FindText.pt :=
  tri_walk (S := tab []) (tab_ok tab_nil) ok_r06_FindText (fun _ => Nat.le_of_ble_eq_true rfl) (w_r06_FindText)
theorem t_r06_sameAttributes : Tri Try.prog f_r06_sameAttributes s_r06_sameAttributes.pt :=
  tri_walk (S := tab []) (tab_ok tab_nil) ok_r06_sameAttributes (fun _ => Nat.le_of_ble_eq_true rfl) (w_r06_sameAttributes)
theorem t_r06_cyclic : Tri Try.prog f_r06_cyclic s_r06_cyclic.pt :=
  tri_walk (S := tab []) (tab_ok tab_nil) ok_r06_cyclic (fun _ => Nat.le_of_ble_eq_true rfl) (w_r06_cyclic)
theorem t_r06_tokens : Tri Try.prog f_r06_tokens s_r06_tokens.pt :=
  tri_walk (S := tab [(f_r06_Value, s_r06_Value)]) (tab_ok (tab_cons t_r06_Value tab_nil)) ok_r06_tokens (fun _ => Nat.le_of_ble_eq_true rfl) (w_r06_tokens rfl)
theorem t_r06_texts : Tri Try.prog f_r06_texts s_r06_texts.pt :=
  tri_walk (S := tab [(f_r04_ValidName, s_r04_ValidName), (f_r06_pairs, s_r06_pairs)]) (tab_ok (tab_cons t_r04_ValidName (tab_cons t_r06_pairs tab_nil))) ok_r06_texts (fun _ => Nat.le_of_ble_eq_true rfl) (w_r06_texts rfl rfl)
theorem t_r06_regions : Tri Try.prog f_r06_regions s_r06_regions.pt :=
  tri_walk (S := tab [(f_r04_ValidName, s_r04_ValidName), (f_r06_pairs, s_r06_pairs), (f_r06_within, s_r06_within), (f_r06_CompareRegions, s_r06_CompareRegions)]) (tab_ok (tab_cons t_r04_ValidName (tab_cons t_r06_pairs (tab_cons t_r06_within (tab_cons t_r06_CompareRegions tab_nil))))) ok_r06_regions (fun _ => Nat.le_of_ble_eq_true rfl) (w_r06_regions rfl rfl rfl rfl)
theorem t_r06_Nodes : Tri Try.prog f_r06_Nodes s_r06_Nodes.pt :=
  tri_walk (S := tab [(f_r04_ValidName, s_r04_ValidName), (f_r06_within, s_r06_within)]) (tab_ok (tab_cons t_r04_ValidName (tab_cons t_r06_within tab_nil))) ok_r06_Nodes (fun _ => Nat.le_of_ble_eq_true rfl) (w_r06_Nodes rfl rfl)
theorem t_r06_heads : Tri Try.prog f_r06_heads s_r06_heads.pt :=
  tri_walk (S := tab [(f_r04_ValidName, s_r04_ValidName), (f_r06_bare, s_r06_bare), (f_r06_TextAt, s_r06_TextAt), (f_r06_cyclic, s_r06_cyclic)]) (tab_ok (tab_cons t_r04_ValidName (tab_cons t_r06_bare (tab_cons t_r06_TextAt (tab_cons t_r06_cyclic tab_nil))))) ok_r06_heads (fun _ => Nat.le_of_ble_eq_true rfl) (w_r06_heads rfl rfl rfl rfl)
theorem t_r06_Validate : Tri Try.prog f_r06_Validate s_r06_Validate.pt :=
  tri_walk (S := tab [(f_r06_Attributes, s_r06_Attributes), (f_r06_tokens, s_r06_tokens), (f_r06_texts, s_r06_texts), (f_r06_regions, s_r06_regions), (f_r06_Nodes, s_r06_Nodes), (f_r06_heads, s_r06_heads)]) (tab_ok (tab_cons t_r06_Attributes (tab_cons t_r06_tokens (tab_cons t_r06_texts (tab_cons t_r06_regions (tab_cons t_r06_Nodes (tab_cons t_r06_heads tab_nil))))))) ok_r06_Validate (fun _ => Nat.le_of_ble_eq_true rfl) (w_r06_Validate rfl rfl rfl rfl rfl rfl)
theorem t_r06_Valid : Tri Try.prog f_r06_Valid s_r06_Valid.pt :=
  tri_walk (S := tab [(f_r06_Validate, s_r06_Validate)]) (tab_ok (tab_cons t_r06_Validate tab_nil)) ok_r06_Valid (fun _ => Nat.le_of_ble_eq_true rfl) (w_r06_Valid rfl)
theorem t_r06_SortRegions : Tri Try.prog f_r06_SortRegions s_r06_SortRegions.pt :=
  tri_walk (S := tab [(f_r06_CompareRegions, s_r06_CompareRegions)]) (tab_ok (tab_cons t_r06_CompareRegions tab_nil)) ok_r06_SortRegions (fun _ => Nat.le_of_ble_eq_true rfl) (w_r06_SortRegions rfl)
theorem t_r06_allHeads : Tri Try.prog f_r06_allHeads s_r06_allHeads.pt :=
  tri_walk (S := tab []) (tab_ok tab_nil) ok_r06_allHeads (fun _ => Nat.le_of_ble_eq_true rfl) (w_r06_allHeads)
theorem t_r06_Concat : Tri Try.prog f_r06_Concat s_r06_Concat.pt :=
  tri_walk (S := tab [(f_r06_Valid, s_r06_Valid), (f_r06_sameAttributes, s_r06_sameAttributes), (f_r06_FindText, s_r06_FindText), (f_r06_allHeads, s_r06_allHeads)]) (tab_ok (tab_cons t_r06_Valid (tab_cons t_r06_sameAttributes (tab_cons t_r06_FindText (tab_cons t_r06_allHeads tab_nil))))) ok_r06_Concat (fun _ => Nat.le_of_ble_eq_true rfl) (w_r06_Concat rfl rfl rfl rfl)
theorem t_m_word : Tri Try.prog f_m_word s_m_word.pt :=
  tri_walk (S := tab []) (tab_ok tab_nil) ok_m_word (fun _ => Nat.le_of_ble_eq_true rfl) (w_m_word)
theorem t_m_tag : Tri Try.prog f_m_tag s_m_tag.pt :=
  tri_walk (S := tab []) (tab_ok tab_nil) ok_m_tag (fun _ => Nat.le_of_ble_eq_true rfl) (w_m_tag)
theorem t_m_features : Tri Try.prog f_m_features s_m_features.pt :=
  tri_walk (S := tab []) (tab_ok tab_nil) ok_m_features (fun _ => Nat.le_of_ble_eq_true rfl) (w_m_features)
theorem t_m_Type : Tri Try.prog f_m_Type s_m_Type.pt :=
  tri_walk (S := tab [(f_m_Mod, s_m_Mod)]) (tab_ok (tab_cons t_m_Mod tab_nil)) ok_m_Type (fun _ => Nat.le_of_ble_eq_true rfl) (w_m_Type rfl)
theorem t_m_Attributes : Tri Try.prog f_m_Attributes s_m_Attributes.pt :=
  tri_walk (S := tab []) (tab_ok tab_nil) ok_m_Attributes (fun _ => Nat.le_of_ble_eq_true rfl) (w_m_Attributes)
theorem t_m_Tape_nodes : Tri Try.prog f_m_Tape_nodes s_m_nodes.pt :=
  tri_walkBXW (S := tab [(f_m_Tape_Next, s_m_Next)]) (tab_ok (tab_cons t_m_Tape_Next tab_nil)) ok_m_Tape_nodes (by decide) (w_m_nodes rfl)
theorem t_m_Tape_heads : Tri Try.prog f_m_Tape_heads s_m_heads.pt :=
  tri_walkBXW (S := tab [(f_m_Tape_Next, s_m_Next)]) (tab_ok (tab_cons t_m_Tape_Next tab_nil)) ok_m_Tape_heads (by decide) (w_m_heads rfl)
theorem t_m_Tape_Document : Tri Try.prog f_m_Tape_Document s_m_Document.pt :=
  tri_walk (S := tab [(f_m_Tape_Next, s_m_Next), (f_m_Attributes, s_m_Attributes), (f_m_word, s_m_word), (f_m_tag, s_m_tag), (f_m_features, s_m_features), (f_m_Type, s_m_Type), (f_r06_SortRegions, s_r06_SortRegions), (f_m_Tape_nodes, s_m_nodes), (f_m_Tape_heads, s_m_heads)]) (tab_ok (tab_cons t_m_Tape_Next (tab_cons t_m_Attributes (tab_cons t_m_word (tab_cons t_m_tag (tab_cons t_m_features (tab_cons t_m_Type (tab_cons t_r06_SortRegions (tab_cons t_m_Tape_nodes (tab_cons t_m_Tape_heads tab_nil)))))))))) ok_m_Tape_Document (fun _ => Nat.le_of_ble_eq_true rfl) (w_m_Document rfl rfl rfl rfl rfl rfl rfl rfl rfl)
theorem t_m_Tape_Corpus : Tri Try.prog f_m_Tape_Corpus s_m_Corpus.pt :=
  tri_walk (S := tab [(f_m_Tape_Next, s_m_Next), (f_m_Tape_Document, s_m_Document), (f_r06_Concat, s_r06_Concat)]) (tab_ok (tab_cons t_m_Tape_Next (tab_cons t_m_Tape_Document (tab_cons t_r06_Concat tab_nil)))) ok_m_Tape_Corpus (fun _ => Nat.le_of_ble_eq_true rfl) (w_m_Corpus rfl rfl rfl)
theorem t_m_Tape_Matches : Tri Try.prog f_m_Tape_Matches s_m_Matches.pt :=
  tri_walk (S := tab [(f_m_Tape_Next, s_m_Next)]) (tab_ok (tab_cons t_m_Tape_Next tab_nil)) ok_m_Tape_Matches (fun _ => Nat.le_of_ble_eq_true rfl) (w_m_Matches rfl)
theorem t_m_Tape_Spans : Tri Try.prog f_m_Tape_Spans s_m_Spans.pt :=
  tri_walkF (S := tab [(f_m_Tape_Matches, s_m_Matches)]) (tab_ok (tab_cons t_m_Tape_Matches tab_nil)) ok_m_Tape_Spans (fun _ => Nat.le_of_ble_eq_true rfl) (w_m_Spans rfl)
theorem t_corpus_TextAt : Tri Try.prog f_corpus_TextAt s_corpus_TextAt.pt :=
  tri_walk (S := tab []) (tab_ok tab_nil) ok_corpus_TextAt (fun _ => Nat.le_of_ble_eq_true rfl) (w_corpus_TextAt)
theorem t_subcorpus_compare : Tri Try.prog f_subcorpus_compare s_subcorpus_compare.pt :=
  tri_walk (S := tab [(f_cmp_Compare_int, s_cmp_Compare_int), (f_cmp_Or_int, s_cmp_Or_int)]) (tab_ok (tab_cons t_cmp_Compare_int (tab_cons t_cmp_Or_int tab_nil))) ok_subcorpus_compare (fun _ => Nat.le_of_ble_eq_true rfl) (w_subcorpus_compare rfl rfl)
theorem t_subcorpus_IsList : Tri Try.prog f_subcorpus_IsList s_subcorpus_IsList.pt :=
  tri_walk (S := tab [(f_corpus_TextAt, s_corpus_TextAt), (f_subcorpus_compare, s_subcorpus_compare)]) (tab_ok (tab_cons t_corpus_TextAt (tab_cons t_subcorpus_compare tab_nil))) ok_subcorpus_IsList (fun _ => Nat.le_of_ble_eq_true rfl) (w_subcorpus_IsList rfl rfl)
end Go.Gv
