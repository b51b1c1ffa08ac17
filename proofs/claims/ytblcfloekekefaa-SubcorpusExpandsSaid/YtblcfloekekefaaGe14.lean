/- A part of the framework and of the walks: W1 T14 T15 T16. -/
import Derived.Test.YtblcfloekekefaaGe12
import Derived.Test.YtblcfloekekefaaGe13
import Derived.Test.YtblcfloekekefaaGe11

namespace Go.Gv
set_option linter.unusedSimpArgs false
set_option linter.unusedVariables false
set_option maxRecDepth 100000
open Cod (enc dec)
variable {S : Nat → Spc}

abbrev s_r27_Contains : Spc := spc (a2 Span Span) (fun _ => True) enc fun x y => y = containsS x.1 x.2
theorem w_r27_Contains : Walk cc_r27_Contains rs_r27_Contains S (a2 Span Span) (fun _ => True) enc fun x y => y = containsS x.1 x.2 := by
  rintro ⟨t, s⟩ -
  simp [cc_r27_Contains, rs_r27_Contains, containsS]
  constructor <;> intros <;> omega

abbrev s_r30_has : Spc := spc (a2 (List Span) Span) (fun _ => True) enc fun x y => y = hasS x.1 x.2
theorem w_r30_has : Walk cc_r30_has rs_r30_has S (a2 (List Span) Span) (fun _ => True) enc fun x y => y = hasS x.1 x.2 := by
  rintro ⟨l, s⟩ -
  simp [cc_r30_has, rs_r30_has]
  intro hlen
  refine vc_range (X := Unit) [3, 7] [] l.length (fun k _ => s ∉ l.take k) (fun _ => []) (fun _ => []) () (by simp) (by simp) (by omega) (by simp) (by simp) (by simp) (by simp) (by simp) ?_ ?_
  · intro k _ hk hP
    simp
    refine ⟨hk, fun a ha => ⟨fun h1 h2 => ?_, fun h => ?_⟩⟩
    · have : s = a := Span.ext' h1 h2
      subst this
      simp [hasS, mem_at ha]
    · rw [take_snoc ha]
      simp [hP]
      intro e; subst e; exact h rfl rfl
  · intro _ hP
    simpa [hasS] using hP

abbrev s_r30_within : Spc := spc (a2 Span (List Span)) (fun _ => True) enc fun x y => y = liesS x.1 x.2
theorem w_r30_within (h1 : S f_r27_Contains = s_r27_Contains) : Walk cc_r30_within rs_r30_within S (a2 Span (List Span)) (fun _ => True) enc fun x y => y = liesS x.1 x.2 := by
  rintro ⟨s, l⟩ -
  simp [cc_r30_within, rs_r30_within]
  intro hlen
  refine vc_range (X := Unit) [2, 7] [] l.length (fun k _ => liesS s (l.take k) = false) (fun _ => []) (fun _ => []) () (by simp) (by simp) (by omega) (by simp) (by simp) (by simp [liesS]) (by simp) (by simp) ?_ ?_
  · intro k _ hk hP
    simp [h1]
    refine ⟨hk, fun a ha => ⟨fun h => ?_, fun h => ?_⟩⟩
    · simp only [liesS, List.any_eq_true]
      exact ⟨a, mem_at ha, h⟩
    · rw [take_snoc ha]
      simp only [liesS, List.any_append] at hP ⊢
      simp [hP, h]
  · intro _ hP
    simpa using hP

abbrev s_r27_Same : Spc := spc (a2 (List Span) (List Span)) (fun _ => True) enc fun x y => y = decide (x.1 = x.2)
theorem w_r27_Same : Walk cc_r27_Same rs_r27_Same S (a2 (List Span) (List Span)) (fun _ => True) enc fun x y => y = decide (x.1 = x.2) := by
  rintro ⟨a, b⟩ -
  simp [cc_r27_Same, rs_r27_Same]
  intro h1 h2
  refine ⟨fun h3 => ?_, fun h3 _ => ?_⟩
  · intro e; subst e; omega
  · have h3' : a.length = b.length := by omega
    refine vc_range (X := Unit) [0, 1] [] a.length (fun k _ => a.take k = b.take k) (fun _ => []) (fun _ => []) () (by simp) (by simp) (by omega) (by simp) (by simp) (by simp) (by simp) (by simp) ?_ ?_
    · intro k _ hk hP
      simp
      refine ⟨hk, fun x hx => ⟨by omega, fun y hy => ⟨fun h => ?_, fun h4 h5 => ?_⟩⟩⟩
      · intro e
        subst e
        rw [hx] at hy
        cases hy
        simp at h
      · rw [take_snoc hx, take_snoc hy, hP, Span.ext' h4 h5]
    · intro _ hP
      simp
      rw [List.take_of_length_le (by omega), List.take_of_length_le (by omega)] at hP
      exact hP

abbrev s_r27_Insert : Spc := spc (a2 (List Span) Span) (fun x => SS x.1 ∧ x.1.length ≤ 1000000) enc fun x y => IsNorm (x.1 ++ [x.2]) y
theorem w_r27_Insert : Walk cc_r27_Insert rs_r27_Insert S (a2 (List Span) Span) (fun x => SS x.1 ∧ x.1.length ≤ 1000000) enc fun x y => IsNorm (x.1 ++ [x.2]) y := by
  rintro ⟨l, s⟩ ⟨hl, hlen⟩
  simp at hl hlen
  simp [cc_r27_Insert, rs_r27_Insert]
  intro _
  refine vc_mid (X := Nat) [0, 3] [] (fun k => k ≤ l.length ∧ (∀ x ∈ l.drop k, ltS s x) ∧ (k = 0 ∨ ∃ y, l[k - 1]? = some y ∧ ¬ ltS s y)) (fun k => [(5, enc (k : Int))]) (fun _ => []) ?_ ?_
  · simp
    refine vc_while (X := Nat) [0, 3] [] (fun k => k ≤ l.length ∧ ∀ x ∈ l.drop k, ltS s x) (fun k => [(5, enc (k : Int))]) (fun _ => []) (fun k => k) l.length (by simp) (by simp) (by simp) ?_
    rintro k ⟨hk, hP⟩
    rcases Nat.eq_zero_or_pos k with rfl | hk0
    · simp
      exact ⟨0, by simpa using hP, by simp⟩
    · obtain ⟨y, hy⟩ := at_lt (l := l) (k := k - 1) (by omega)
      have e1 : (k : Int) - 1 = ((k - 1 : Nat) : Int) := by omega
      have e2 : l.drop (k - 1) = y :: l.drop k := by
        have := drop_cons_of hy
        rwa [Nat.sub_add_cancel hk0] at this
      have hst : ¬ ltS s y → ∃ x, (x ≤ l.length ∧ (∀ x_1 ∈ List.drop x l, ltS s x_1) ∧ (x = 0 ∨ ∃ y, l[x - 1]? = some y ∧ ¬ltS s y)) ∧ (k : Int) = x := fun h => ⟨k, ⟨hk, hP, .inr ⟨y, hy, h⟩⟩, rfl⟩
      have hgo : ltS s y → ∃ y, (y ≤ l.length ∧ ∀ x ∈ List.drop y l, ltS s x) ∧ (k : Int) - 1 = y ∧ y < k := fun h => ⟨k - 1, ⟨by omega, by rw [e2]; simpa using ⟨h, hP⟩⟩, e1, by omega⟩
      simp [hk0, hy, InR]
      unfold ltS at hst hgo
      repeat' first | apply And.intro | intro _
      all_goals first | omega | exact hst (by omega) | exact hgo (by omega)
  · rintro k ⟨hk, h1, h2⟩
    simp
    have hN := norm_insert hl hk h1 h2
    refine vc_mid (X := Unit) [0, 3, 5] [] (fun _ => ∀ y, 0 < k → l[k - 1]? = some y → y ≠ s) (fun _ => []) (fun _ => []) ?_ ?_
    · simp
      rcases Nat.eq_zero_or_pos k with rfl | hk0
      · simp
      · obtain ⟨y, hy⟩ := at_lt (l := l) (k := k - 1) (by omega)
        simp [hk0, hy, InR]
        refine ⟨⟨⟨by omega, by omega⟩, by omega, by omega, fun e1 e2 => fin_of l (.same _) (hN.1 y hk0 hy (Span.ext' e1 e2)), ?_⟩, by omega⟩
        rintro h rfl
        exact h rfl rfl
    · intro _ hne
      have hN2 := hN.2 hne
      simp
      refine ⟨hk, by omega, by omega, by omega, by omega, hk, by omega, by omega, fun v => fin_of (l.take k ++ s :: l.drop k) (fz_o ty_Span (by simp)) hN2⟩

abbrev s_r30_Unite : Spc := spc (a2 (List Span) (List Span)) (fun x => x.1.length + x.2.length ≤ 100000) enc fun x y => IsNorm (x.1 ++ x.2) y
theorem w_r30_Unite (h1 : S f_r27_Insert = s_r27_Insert) : Walk cc_r30_Unite rs_r30_Unite S (a2 (List Span) (List Span)) (fun x => x.1.length + x.2.length ≤ 100000) enc fun x y => IsNorm (x.1 ++ x.2) y := by
  rintro ⟨a, b⟩ hl
  simp at hl
  simp [cc_r30_Unite, rs_r30_Unite]
  refine ⟨by omega, by omega, by omega, by omega, fun v _ => ?_⟩
  refine vc_range (X := List Span) [12] [8] (a ++ b).length (fun k r => IsNorm ((a ++ b).take k) r) (fun r => [(5, enc r)]) (fun _ => []) [] (by simp) (by simp) (by simp; omega) (by simp) (by simp) (by simp [IsNorm.nil]) (by simp) (by simp) ?_ ?_
  · rintro k r hk hP
    have hr := hP.len
    simp at hr hk
    simp [h1]
    refine ⟨by omega, hk, fun d hd => ?_⟩
    obtain ⟨x, hx, rfl⟩ := app_at hd
    simp
    refine ⟨⟨hP.1, by omega⟩, fun y hy => ?_⟩
    rw [take_snoc hx]
    exact hP.snoc hy (by simp)
  · rintro r hP
    rw [List.take_length] at hP
    simp
    exact fin_of r (.same _) hP

abbrev s_r30_Intersect : Spc := spc (a2 (List Span) (List Span)) (fun x => x.1.length ≤ 100000) enc fun x y => IsNorm (x.1.filter (hasS x.2)) y
theorem w_r30_Intersect (h1 : S f_r27_Insert = s_r27_Insert) (h2 : S f_r30_has = s_r30_has) : Walk cc_r30_Intersect rs_r30_Intersect S (a2 (List Span) (List Span)) (fun x => x.1.length ≤ 100000) enc fun x y => IsNorm (x.1.filter (hasS x.2)) y := by
  rintro ⟨a, b⟩ hl
  simp at hl
  simp [cc_r30_Intersect, rs_r30_Intersect]
  intro _
  refine vc_range (X := List Span) [1, 8] [] a.length (fun k r => IsNorm ((a.take k).filter (hasS b)) r) (fun r => [(5, enc r)]) (fun _ => []) [] (by simp) (by simp) (by omega) (by simp) (by simp) (by simp [IsNorm.nil]) (by simp) (by simp) ?_ ?_
  · rintro k r hk hP
    have hr := hP.len
    have := List.length_filter_le (hasS b) (a.take k)
    simp at this
    simp [h1, h2]
    refine ⟨hk, fun x hx => ⟨fun h => ⟨⟨hP.1, by omega⟩, fun y hy => ?_⟩, fun h => ?_⟩⟩
    · rw [take_snoc hx]
      exact hP.snoc hy (by simp [h])
    · rw [take_snoc hx]
      simpa [h] using hP
  · rintro r hP
    simp at hP
    simp
    exact fin_of r (.same _) hP

abbrev s_r30_Subtract : Spc := spc (a2 (List Span) (List Span)) (fun x => x.1.length ≤ 100000) enc fun x y => IsNorm (x.1.filter fun s => !hasS x.2 s) y
theorem w_r30_Subtract (h1 : S f_r27_Insert = s_r27_Insert) (h2 : S f_r30_has = s_r30_has) : Walk cc_r30_Subtract rs_r30_Subtract S (a2 (List Span) (List Span)) (fun x => x.1.length ≤ 100000) enc fun x y => IsNorm (x.1.filter fun s => !hasS x.2 s) y := by
  rintro ⟨a, b⟩ hl
  simp at hl
  simp [cc_r30_Subtract, rs_r30_Subtract]
  intro _
  refine vc_range (X := List Span) [1, 8] [] a.length (fun k r => IsNorm ((a.take k).filter fun s => !hasS b s) r) (fun r => [(5, enc r)]) (fun _ => []) [] (by simp) (by simp) (by omega) (by simp) (by simp) (by simp [IsNorm.nil]) (by simp) (by simp) ?_ ?_
  · rintro k r hk hP
    have hr := hP.len
    have := List.length_filter_le (fun s => !hasS b s) (a.take k)
    simp at this
    simp [h1, h2]
    refine ⟨hk, fun x hx => ⟨fun h => ⟨⟨hP.1, by omega⟩, fun y hy => ?_⟩, fun h => ?_⟩⟩
    · rw [take_snoc hx]
      exact hP.snoc hy (by simp [h])
    · rw [take_snoc hx]
      simpa [h] using hP
  · rintro r hP
    rw [List.take_length] at hP
    simp
    exact fin_of r (.same _) hP

abbrev s_r30_Inside : Spc := spc (a2 (List Span) (List Span)) (fun x => x.1.length ≤ 100000) enc fun x y => IsNorm (x.1.filter fun s => liesS s x.2) y
theorem w_r30_Inside (h1 : S f_r27_Insert = s_r27_Insert) (h2 : S f_r30_within = s_r30_within) : Walk cc_r30_Inside rs_r30_Inside S (a2 (List Span) (List Span)) (fun x => x.1.length ≤ 100000) enc fun x y => IsNorm (x.1.filter fun s => liesS s x.2) y := by
  rintro ⟨a, b⟩ hl
  simp at hl
  simp [cc_r30_Inside, rs_r30_Inside]
  intro _
  refine vc_range (X := List Span) [1, 8] [] a.length (fun k r => IsNorm ((a.take k).filter fun s => liesS s b) r) (fun r => [(5, enc r)]) (fun _ => []) [] (by simp) (by simp) (by omega) (by simp) (by simp) (by simp [IsNorm.nil]) (by simp) (by simp) ?_ ?_
  · rintro k r hk hP
    have hr := hP.len
    have := List.length_filter_le (fun s => liesS s b) (a.take k)
    simp at this
    simp [h1, h2]
    refine ⟨hk, fun x hx => ⟨fun h => ⟨⟨hP.1, by omega⟩, fun y hy => ?_⟩, fun h => ?_⟩⟩
    · rw [take_snoc hx]
      exact hP.snoc hy (by simp [h])
    · rw [take_snoc hx]
      simpa [h] using hP
  · rintro r hP
    rw [List.take_length] at hP
    simp
    exact fin_of r (.same _) hP

abbrev s_cmp_isNaN_int : Spc := spc (a1 Int) (fun _ => True) enc fun _ y => y = false
theorem w_cmp_isNaN_int : Walk cc_cmp_isNaN_int rs_cmp_isNaN_int S (a1 Int) (fun _ => True) enc fun _ y => y = false := by
  rintro x -
  simp [cc_cmp_isNaN_int, rs_cmp_isNaN_int]

def cmpI (a b : Int) : Int := if a < b then -1 else if b < a then 1 else 0
abbrev s_cmp_Compare_int : Spc := spc (a2 Int Int) (fun _ => True) enc fun x y => y = cmpI x.1 x.2
theorem w_cmp_Compare_int (h1 : S f_cmp_isNaN_int = s_cmp_isNaN_int) : Walk cc_cmp_Compare_int rs_cmp_Compare_int S (a2 Int Int) (fun _ => True) enc fun x y => y = cmpI x.1 x.2 := by
  rintro ⟨a, b⟩ -
  simp [cc_cmp_Compare_int, rs_cmp_Compare_int, h1, cmpI]
  refine ⟨fun h1 h2 => by omega, fun h1 => ⟨fun h2 => ?_, fun h2 => ?_⟩⟩
  · rw [if_neg (by omega), if_pos h2]
  · rw [if_neg (by omega), if_neg (by omega)]

abbrev s_cmp_Or_int : Spc := spc (a1 (List Int)) (fun _ => True) enc fun x y => y = (x.find? (· ≠ 0)).getD 0
theorem w_cmp_Or_int : Walk cc_cmp_Or_int rs_cmp_Or_int S (a1 (List Int)) (fun _ => True) enc fun x y => y = (x.find? (· ≠ 0)).getD 0 := by
  rintro l -
  simp [cc_cmp_Or_int, rs_cmp_Or_int]
  intro _
  refine vc_range (X := Unit) [3, 6] [] l.length (fun k _ => (l.find? fun x => !decide (x = 0)) = (l.drop k).find? fun x => !decide (x = 0)) (fun _ => []) (fun _ => []) () (by simp) (by simp) (by omega) (by simp) (by simp) (by simp) (by simp) (by simp) ?_ ?_
  · intro k _ hk hP
    simp
    refine ⟨hk, fun x hx => ?_⟩
    rw [drop_cons_of hx] at hP
    refine ⟨fun h => ?_, fun h => ?_⟩
    · rw [hP]; simp [h]
    · rw [hP]; simp [h]
  · intro _ hP
    rw [List.drop_length] at hP
    simp [hP]

def modI (x n : Int) : Int := if n < 1 then 0 else if x.tmod n < 0 then x.tmod n + n else x.tmod n
abbrev s_m_Mod : Spc := spc (a2 Int Int) (fun x => x.2 ≤ 1000000000) enc fun x y => y = modI x.1 x.2
theorem w_m_Mod : Walk cc_m_Mod rs_m_Mod S (a2 Int Int) (fun x => x.2 ≤ 1000000000) enc fun x y => y = modI x.1 x.2 := by
  rintro ⟨a, b⟩ hl
  simp at hl
  simp [cc_m_Mod, rs_m_Mod, modI]
  refine ⟨fun h1 h2 => by omega, fun h1 => ⟨by omega, fun h2 => ⟨?_, ?_⟩, fun h2 => ?_⟩⟩
  · have := Int.lt_tmod_of_pos a (b := b) (by omega)
    simp [InR]; omega
  · rw [if_neg (by omega), if_pos h2]
  · rw [if_neg (by omega), if_neg (by omega)]
end Go.Gv

namespace Go.Gv
set_option linter.unusedSimpArgs false
set_option linter.unusedVariables false
open Cod (enc dec)

/-- One of two contracts. -/
def orC (s t : Spc) : Spc := .gen (fun d ds H K => s.pt d ds H K ∨ t.pt d ds H K) fun d ds H K K' hk h => h.elim (fun h => .inl (s.mono d ds H K K' hk h)) (fun h => .inr (t.mono d ds H K K' hk h))
@[simp] theorem orC_pt (s t : Spc) (d : Nat) (ds : List D) (H : HMap) (K : D → HMap → Prop) : (orC s t).pt d ds H K = (s.pt d ds H K ∨ t.pt d ds H K) := id rfl
theorem tri_or {P : Program} {f : Nat} {s t : Spc} (h1 : Tri P f s.pt) (h2 : Tri P f t.pt) : Tri P f (orC s t).pt := fun O tp w vs ds H d K a b c e g h => h.elim (fun h => h1 O tp w vs ds H d K a b c e g h) (fun h => h2 O tp w vs ds H d K a b c e g h)

section
variable {X Y : Type} [Cod Y]
def frPT (A : Arg X) (pre : X → Prop) (post : X → List Y → Prop) (el n : Nat) : PT := fun d ds H K => optX (A.dec ds) fun x => pre x ∧ ∀ v l, post x l → K (.own d v) (updH H d (some (.row v el n (l.map enc))))
def ioPT (A : Arg X) (pre : X → List Y → Prop) (post : X → List Y → List Y → Prop) (el n : Nat) : PT := fun d ds H K => ∃ id v l ds' x, ds = .own id v :: ds' ∧ A.dec ds' = some x ∧ H id = some (.row v el n (l.map enc)) ∧ pre x l ∧
  ∀ v' l', post x l l' → K (.own id v') (updH H id (some (.row v' el n (l'.map enc))))
def iuPT (A : Arg X) (pre : X → List Y → Prop) (post : X → List Y → List Y → Prop) (el n : Nat) : PT := fun d ds H K => ∃ id v l ds' x, ds = .own id v :: ds' ∧ A.dec ds' = some x ∧ H id = some (.row v el n (l.map enc)) ∧ pre x l ∧
  ∀ l', post x l l' → K (.tup []) (updH H id (some (.row v el n (l'.map enc))))

theorem optX_mono {o : Option X} {k k' : X → Prop} (h : ∀ x, k x → k' x) (ho : optX o k) : optX o k' := by
  cases o with
  | none => exact ho
  | some x => exact h x ho
theorem fr_mono (A : Arg X) (pre : X → Prop) (post : X → List Y → Prop) (el n : Nat) : MonoPT (frPT A pre post el n) := fun d ds H K K' hk h => optX_mono (fun x h => ⟨h.1, fun v l hp => hk _ _ (h.2 v l hp)⟩) h
theorem io_mono (A : Arg X) (pre : X → List Y → Prop) (post : X → List Y → List Y → Prop) (el n : Nat) : MonoPT (ioPT A pre post el n) := fun d ds H K K' hk ⟨id, v, l, ds', x, h1, h2, h3, h4, h5⟩ => ⟨id, v, l, ds', x, h1, h2, h3, h4, fun v' l' hp => hk _ _ (h5 v' l' hp)⟩
theorem iu_mono (A : Arg X) (pre : X → List Y → Prop) (post : X → List Y → List Y → Prop) (el n : Nat) : MonoPT (iuPT A pre post el n) := fun d ds H K K' hk ⟨id, v, l, ds', x, h1, h2, h3, h4, h5⟩ => ⟨id, v, l, ds', x, h1, h2, h3, h4, fun l' hp => hk _ _ (h5 l' hp)⟩
def frC (A : Arg X) (pre : X → Prop) (post : X → List Y → Prop) (el n : Nat) : Spc := .gen _ (fr_mono A pre post el n)
def ioC (A : Arg X) (pre : X → List Y → Prop) (post : X → List Y → List Y → Prop) (el n : Nat) : Spc := .gen _ (io_mono A pre post el n)
def iuC (A : Arg X) (pre : X → List Y → Prop) (post : X → List Y → List Y → Prop) (el n : Nat) : Spc := .gen _ (iu_mono A pre post el n)
@[simp] theorem frC_pt (A : Arg X) (pre : X → Prop) (post : X → List Y → Prop) (el n : Nat) (d : Nat) (ds : List D) (H : HMap) (K : D → HMap → Prop) : (frC A pre post el n).pt d ds H K = optX (A.dec ds) fun x => pre x ∧ ∀ v l, post x l → K (.own d v) (updH H d (some (.row v el n (l.map enc)))) := id rfl
theorem fr_isFr (A : Arg X) (pre : X → Prop) (post : X → List Y → Prop) (el n : Nat) : IsFr (frPT A pre post el n) := by
  refine ⟨fun ds => optX (A.dec ds) pre, fun t ds d u => optX (A.dec ds) fun x => ∃ v l, post x l ∧ d = .own t v ∧ u = .row v el n (l.map enc), fun t ds H K => ?_⟩
  simp only [frPT]
  cases A.dec ds with
  | none => exact ⟨fun h => h.elim, fun h => h.1.elim⟩
  | some x =>
    simp only [optX_s]
    constructor
    · rintro ⟨a, b⟩
      exact ⟨a, fun d u ⟨v, l, h1, h2, h3⟩ => by subst h2; subst h3; exact b v l h1⟩
    · rintro ⟨a, b⟩
      exact ⟨a, fun v l h => b _ _ ⟨v, l, h, rfl, rfl⟩⟩
@[simp] theorem frC_pre (A : Arg X) (pre : X → Prop) (post : X → List Y → Prop) (el n : Nat) (d : Nat) (ds : List D) (H : HMap) (K : D → HMap → Prop) : preX (some d) (frC A pre post el n) ds H K = optX (A.dec ds) fun x => pre x ∧ ∀ v l, post x l → K (.own d v) (updH H d (some (.row v el n (l.map enc)))) :=
  propext ⟨fun h => h.2, fun h => ⟨fr_isFr A pre post el n, h⟩⟩
def ioX (A : Arg X) (pre : X → List Y → Prop) (post : X → List Y → List Y → Prop) (el n id : Nat) (v : Value) (ds : List D) (r : Option Res) (H : HMap) (K : D → HMap → Prop) : Prop := ∃ l, r = some (.row v el n (l.map enc)) ∧ optX (A.dec ds) fun x => pre x l ∧ ∀ v' l', post x l l' → K (.own id v') (updH H id (some (.row v' el n (l'.map enc))))
def iuX (A : Arg X) (pre : X → List Y → Prop) (post : X → List Y → List Y → Prop) (el n id : Nat) (v : Value) (ds : List D) (r : Option Res) (H : HMap) (K : D → HMap → Prop) : Prop := ∃ l, r = some (.row v el n (l.map enc)) ∧ optX (A.dec ds) fun x => pre x l ∧ ∀ l', post x l l' → K (.tup []) (updH H id (some (.row v el n (l'.map enc))))
@[congr] theorem ioX_cg {A : Arg X} {pre : X → List Y → Prop} {post : X → List Y → List Y → Prop} {el n id : Nat} {v : Value} {ds ds' : List D} {r r' : Option Res} {H : HMap} {K : D → HMap → Prop} (h1 : ds = ds') (h2 : r = r') : ioX A pre post el n id v ds r H K = ioX A pre post el n id v ds' r' H K := by subst h1; subst h2; rfl
@[congr] theorem iuX_cg {A : Arg X} {pre : X → List Y → Prop} {post : X → List Y → List Y → Prop} {el n id : Nat} {v : Value} {ds ds' : List D} {r r' : Option Res} {H : HMap} {K : D → HMap → Prop} (h1 : ds = ds') (h2 : r = r') : iuX A pre post el n id v ds r H K = iuX A pre post el n id v ds' r' H K := by subst h1; subst h2; rfl
@[simp] theorem ioC_pt (A : Arg X) (pre : X → List Y → Prop) (post : X → List Y → List Y → Prop) (el n : Nat) (d i : Nat) (v : Value) (ds : List D) (H : HMap) (K : D → HMap → Prop) : (ioC A pre post el n).pt d (.own i v :: ds) H K = ioX A pre post el n i v ds (H i) H K := by
  refine propext ⟨fun h => ?_, fun h => ?_⟩
  · obtain ⟨id, v, l, ds', x, h1, h2, h3, h4, h5⟩ := h
    cases h1
    refine ⟨l, h3, ?_⟩
    rw [h2]
    exact ⟨h4, h5⟩
  · obtain ⟨l, h1, h2⟩ := h
    cases hd : A.dec ds with
    | none => rw [hd] at h2; exact h2.elim
    | some x => rw [hd] at h2; exact ⟨i, v, l, ds, x, rfl, hd, h1, h2.1, h2.2⟩
@[simp] theorem iuC_pt (A : Arg X) (pre : X → List Y → Prop) (post : X → List Y → List Y → Prop) (el n : Nat) (d i : Nat) (v : Value) (ds : List D) (H : HMap) (K : D → HMap → Prop) : (iuC A pre post el n).pt d (.own i v :: ds) H K = iuX A pre post el n i v ds (H i) H K := by
  refine propext ⟨fun h => ?_, fun h => ?_⟩
  · obtain ⟨id, v, l, ds', x, h1, h2, h3, h4, h5⟩ := h
    cases h1
    refine ⟨l, h3, ?_⟩
    rw [h2]
    exact ⟨h4, h5⟩
  · obtain ⟨l, h1, h2⟩ := h
    cases hd : A.dec ds with
    | none => rw [hd] at h2; exact h2.elim
    | some x => rw [hd] at h2; exact ⟨i, v, l, ds, x, rfl, hd, h1, h2.1, h2.2⟩
/-- The resource read: its elements, one by one. -/
@[simp] theorem ioX_r (A : Arg X) (pre : X → List Y → Prop) (post : X → List Y → List Y → Prop) (el n id : Nat) (v : Value) (ds : List D) (l : List Y) (H : HMap) (K : D → HMap → Prop) : ioX A pre post el n id v ds (some (.row v el n (l.map enc))) H K = optX (A.dec ds) fun x => pre x l ∧ ∀ v' l', post x l l' → K (.own id v') (updH H id (some (.row v' el n (l'.map enc)))) := by
  refine propext ⟨fun ⟨l', h1, h2⟩ => ?_, fun h => ⟨l, rfl, h⟩⟩
  simp at h1
  subst h1
  exact h2
@[simp] theorem iuX_r (A : Arg X) (pre : X → List Y → Prop) (post : X → List Y → List Y → Prop) (el n id : Nat) (v : Value) (ds : List D) (l : List Y) (H : HMap) (K : D → HMap → Prop) : iuX A pre post el n id v ds (some (.row v el n (l.map enc))) H K = optX (A.dec ds) fun x => pre x l ∧ ∀ l', post x l l' → K (.tup []) (updH H id (some (.row v el n (l'.map enc)))) := by
  refine propext ⟨fun ⟨l', h1, h2⟩ => ?_, fun h => ⟨l, rfl, h⟩⟩
  simp at h1
  subst h1
  exact h2

/-- A slice of the caller's own is given back, of whose elements q holds. -/
def FinF (el n : Nat) (q : List Y → Prop) (r : D) (H' : HMap) : Prop := ∃ j v l, r = .own j v ∧ H' j = some (.row v el n (l.map enc)) ∧ q l
theorem finF_of {el n : Nat} {q : List Y → Prop} {j : Nat} {v : Value} {H' : HMap} (l : List Y) (h : H' j = some (.row v el n (l.map enc))) (hq : q l) : FinF el n q (.own j v) H' := ⟨j, v, l, rfl, h, hq⟩
/-- The slice that was handed in is left with elements of which q holds. -/
def FinU (el n : Nat) (v : Value) (q : List Y → Prop) (r : D) (H' : HMap) : Prop := ∃ l, r = .tup [] ∧ H' 0 = some (.row v el n (l.map enc)) ∧ q l
theorem finU_of {el n : Nat} {v : Value} {q : List Y → Prop} {H' : HMap} (l : List Y) (h : H' 0 = some (.row v el n (l.map enc))) (hq : q l) : FinU el n v q (.tup []) H' := ⟨l, rfl, h, hq⟩
def WalkF (cc : CC) (rs : List CRes) (S : Nat → Spc) (A : Arg X) (pre : X → Prop) (post : X → List Y → Prop) (el n : Nat) : Prop :=
  ∀ x, pre x → vc S cc (retK rs fun r H' => FinF el n (post x) r H') (initS (A.view x)) noH
def WalkIO (cc : CC) (rs : List CRes) (S : Nat → Spc) (A : Arg X) (pre : X → List Y → Prop) (post : X → List Y → List Y → Prop) (el n : Nat) : Prop :=
  ∀ v l x, pre x l → vc S cc (retK rs fun r H' => FinF el n (post x l) r H') (initS (.own 0 v :: A.view x)) (updH noH 0 (some (.row v el n (l.map enc))))
def WalkIU (cc : CC) (rs : List CRes) (S : Nat → Spc) (A : Arg X) (pre : X → List Y → Prop) (post : X → List Y → List Y → Prop) (el n : Nat) : Prop :=
  ∀ v l x, pre x l → vc S cc (retK rs fun r H' => FinU el n v (post x l) r H') (initS (.own 0 v :: A.view x)) (updH noH 0 (some (.row v el n (l.map enc))))

variable {P : Program} {S : Nat → Spc} {f : Nat} {im : List Nat} {cc : CC} {rs : List CRes} {N : Nat} {A : Arg X} {el n : Nat}

theorem tri_walkF {pre : X → Prop} {post : X → List Y → Prop} (hS : ∀ f, Tri P f (S f).pt) (h : FnOk P f im cc rs N) (hN : ∀ x, (A.view x).length ≤ N) (hw : WalkF cc rs S A pre post el n) : Tri P f (frC A pre post el n).pt := by
  obtain ⟨mix, enter, fn, code, h1, h2, h3, h4, h5⟩ := h
  refine tri_of_vc hS mix h1 h2 enter h3 h4 h5 ?_
  intro ds H d K hA
  rw [frC_pt] at hA
  cases hd : A.dec ds with
  | none => rw [hd] at hA; exact hA.elim
  | some x =>
    rw [hd] at hA
    obtain ⟨hp, hK⟩ := hA
    have hl := A.le ds x hd
    refine ⟨by rw [hl.1]; exact hN x, A.view x, noH, id, hl, fun i r h => by simp at h, fun i j r s h => by simp at h, _, hw x hp, ?_⟩
    rintro r H' ⟨j, v, l, rfl, hj, hpost⟩
    refine ⟨.own d v, noH, updH H d (some (.row v el n (l.map enc))), fun i => if i = d then some j else none, .own _ _ _, fun j q h => by simp at h, hK v l hpost, fun i s hi => ?_, fun i j' k s q hi hj' e1 e2 => ?_⟩
    · by_cases e : i = d
      · subst e
        simp only [updH, if_true] at hi
        cases hi
        simpa using hj
      · simp only [updH, e, if_false] at hi ⊢
        exact ⟨hi, fun k q h => by simp at h⟩
    · have a : i = d := by
        by_cases e : i = d
        · exact e
        · simp [e] at e1
      have b : j' = d := by
        by_cases e : j' = d
        · exact e
        · simp [e] at e2
      exact a.trans b.symm

theorem tri_walkIO {pre : X → List Y → Prop} {post : X → List Y → List Y → Prop} (hS : ∀ f, Tri P f (S f).pt) (h : FnOk P f im cc rs N) (hN : ∀ x, (A.view x).length + 1 ≤ N) (hw : WalkIO cc rs S A pre post el n) : Tri P f (ioC A pre post el n).pt := by
  obtain ⟨mix, enter, fn, code, h1, h2, h3, h4, h5⟩ := h
  refine tri_of_vc hS mix h1 h2 enter h3 h4 h5 ?_
  rintro ds H d K ⟨id, v, l, ds', x, rfl, hd, hid, hp, hK⟩
  have hl := A.le ds' x hd
  refine ⟨by simp only [List.length_cons]; rw [hl.1]; exact hN x, .own 0 v :: A.view x, updH noH 0 (some (.row v el n (l.map enc))), fun _ => id, .cons (.own _ _ _) hl, fun i r h => ?_, fun i j r s h h' _ => ?_, _, hw v l x hp, ?_⟩
  · by_cases e : i = 0
    · subst e
      simp only [updH, if_true] at h
      cases h
      exact hid
    · simp [updH, e] at h
  · have a : i = 0 := by
      by_cases e : i = 0
      · exact e
      · simp [updH, e] at h
    have b : j = 0 := by
      by_cases e : j = 0
      · exact e
      · simp [updH, e] at h'
    exact a.trans b.symm
  · rintro r H' ⟨j, v', l', rfl, hj, hpost⟩
    refine ⟨.own id v', noH, updH H id (some (.row v' el n (l'.map enc))), fun i => if i = id then some j else none, .own _ _ _, fun j q h => by simp at h, hK v' l' hpost, fun i s hi => ?_, fun i j' k s q hi hj' e1 e2 => ?_⟩
    · by_cases e : i = id
      · subst e
        simp only [updH, if_true] at hi
        cases hi
        simpa using hj
      · simp only [updH, e, if_false] at hi ⊢
        exact ⟨hi, fun k q h he => e he.symm⟩
    · have a : i = id := by
        by_cases e : i = id
        · exact e
        · simp [e] at e1
      have b : j' = id := by
        by_cases e : j' = id
        · exact e
        · simp [e] at e2
      exact a.trans b.symm

theorem tri_walkIU {pre : X → List Y → Prop} {post : X → List Y → List Y → Prop} (hS : ∀ f, Tri P f (S f).pt) (h : FnOk P f im cc rs N) (hN : ∀ x, (A.view x).length + 1 ≤ N) (hw : WalkIU cc rs S A pre post el n) : Tri P f (iuC A pre post el n).pt := by
  obtain ⟨mix, enter, fn, code, h1, h2, h3, h4, h5⟩ := h
  refine tri_of_vc hS mix h1 h2 enter h3 h4 h5 ?_
  rintro ds H d K ⟨id, v, l, ds', x, rfl, hd, hid, hp, hK⟩
  have hl := A.le ds' x hd
  refine ⟨by simp only [List.length_cons]; rw [hl.1]; exact hN x, .own 0 v :: A.view x, updH noH 0 (some (.row v el n (l.map enc))), fun _ => id, .cons (.own _ _ _) hl, fun i r h => ?_, fun i j r s h h' _ => ?_, _, hw v l x hp, ?_⟩
  · by_cases e : i = 0
    · subst e
      simp only [updH, if_true] at h
      cases h
      exact hid
    · simp [updH, e] at h
  · have a : i = 0 := by
      by_cases e : i = 0
      · exact e
      · simp [updH, e] at h
    have b : j = 0 := by
      by_cases e : j = 0
      · exact e
      · simp [updH, e] at h'
    exact a.trans b.symm
  · rintro r H' ⟨l', rfl, hj, hpost⟩
    refine ⟨.tup [], noH, updH H id (some (.row v el n (l'.map enc))), fun i => if i = id then some 0 else none, .same _, fun j q h => by simp at h, hK l' hpost, fun i s hi => ?_, fun i j' k s q hi hj' e1 e2 => ?_⟩
    · by_cases e : i = id
      · subst e
        simp only [updH, if_true] at hi
        cases hi
        simpa using hj
      · simp only [updH, e, if_false] at hi ⊢
        exact ⟨hi, fun k q h he => e he.symm⟩
    · have a : i = id := by
        by_cases e : i = id
        · exact e
        · simp [e] at e1
      have b : j' = id := by
        by_cases e : j' = id
        · exact e
        · simp [e] at e2
      exact a.trans b.symm
end

/-! ### Function values -/
/-- An argument that is not read. -/
def aD {X : Type} (A : Arg X) : Arg (D × X) := ⟨fun ds => match ds with | d :: r => (A.dec r).map fun x => (d, x) | _ => none, fun x => x.1 :: A.view x.2, fun ds x h => by
  split at h
  · simp only [Option.map_eq_some_iff] at h
    obtain ⟨y, hy, rfl⟩ := h
    exact .cons (.same _) (A.le _ _ hy)
  · cases h⟩
def aE (X : Type) [Cod X] {Y : Type} (A : Arg Y) : Arg (X × Y) := ⟨fun ds => match ds with | d :: r => (dec d).bind fun x => (A.dec r).map fun y => (x, y) | _ => none, fun x => enc x.1 :: A.view x.2, fun ds x h => by
  split at h
  · simp only [Option.bind_eq_some_iff, Option.map_eq_some_iff] at h
    obtain ⟨x, hx, y, hy, rfl⟩ := h
    exact .cons (Cod.le _ _ hx) (A.le _ _ hy)
  · cases h⟩
@[simp] theorem aD_dec {X : Type} (A : Arg X) (d : D) (r : List D) : (aD A).dec (d :: r) = (A.dec r).map fun x => (d, x) := id rfl
@[simp] theorem aD_view {X : Type} (A : Arg X) (d : D) (x : X) : (aD A).view (d, x) = d :: A.view x := id rfl
@[simp] theorem aE_dec {X Y : Type} [Cod X] (A : Arg Y) (d : D) (r : List D) : (aE X A).dec (d :: r) = (dec d).bind fun x => (A.dec r).map fun y => (x, y) := id rfl
@[simp] theorem aE_view {X Y : Type} [Cod X] (A : Arg Y) (x : X) (y : Y) : (aE X A).view (x, y) = enc x :: A.view y := id rfl

/-- d is a function that gives p. -/
def FunIs {X Y : Type} [Cod X] [Cod Y] (S : Nat → Spc) (d : D) (p : X → Y) : Prop :=
  ∃ g caps pc, d = .clo g caps ∧ S g = .pure pc ∧ ∀ x : X, pc.pre (enc x :: caps) ∧ ∀ r, pc.post (enc x :: caps) r → r = enc (p x)

theorem FunIs.use {X Y : Type} [Cod X] [Cod Y] {S : Nat → Spc} {d : D} {p : X → Y} (h : FunIs S d p) (x : X) (d' : Nat) (H : HMap) (K : D → HMap → Prop) (hk : K (enc (p x)) H) : callX S d d' [enc x] H K := by
  obtain ⟨g, caps, pc, rfl, h1, h2⟩ := h
  simp only [callX, h1, Spc.pt]
  exact ⟨(h2 x).1, fun r hr => (h2 x).2 r hr ▸ hk⟩
theorem FunIs.use' {X Y : Type} [Cod X] [Cod Y] {S : Nat → Spc} {d : D} {p : X → Y} (h : FunIs S d p) (x : X) (d' : Nat) (H : HMap) (K : D → HMap → Prop) (hk : ∀ y : Y, (∀ q, FunIs S d q → y = q x) → K (enc y) H) : callX S d d' [enc x] H K := by
  obtain ⟨g, caps, pc, rfl, h1, h2⟩ := h
  simp only [callX, h1, Spc.pt]
  refine ⟨(h2 x).1, fun r hr => ?_⟩
  have e := (h2 x).2 r hr
  rw [e]
  refine hk (p x) fun q hq => ?_
  obtain ⟨g', caps', pc', e', k1, k2⟩ := hq
  cases e'
  rw [h1] at k1
  cases k1
  exact enc_inj (e.symm.trans ((k2 x).2 r hr))
theorem FunIs.useB {X : Type} [Cod X] {S : Nat → Spc} {d : D} {p : X → Bool} (h : FunIs S d p) (x : X) {d' : Nat} {H : HMap} {K : D → HMap → Prop} (hk : ∀ y : Bool, (∀ q, FunIs S d q → y = q x) → K (.v (.bool y)) H) : callX S d d' [enc x] H K := h.use' x d' H K hk
theorem funIs_cap {X Y : Type} [Cod X] [Cod Y] {S : Nat → Spc} {g : Nat} {c : D} {pre : X × D × Unit → Prop} {post : X × D × Unit → Y → Prop} {p : X → Y} (h : S g = spc (aE X (aD a0)) pre enc post) (hp : ∀ x, pre (x, c, ())) (hq : ∀ x y, post (x, c, ()) y → y = p x) : FunIs S (.clo g [c]) p := by
  refine ⟨g, [c], _, rfl, h, fun x => ⟨⟨(x, c, ()), by simp, hp x⟩, fun r hr => ?_⟩⟩
  obtain ⟨y, h1, h2⟩ := hr (x, c, ()) (by simp) (hp x)
  rw [h1, hq x y h2]
theorem FunIs.eq {X Y : Type} [Cod X] [Cod Y] {S : Nat → Spc} {d : D} {p q : X → Y} (hex : ∀ g pc ds, S g = .pure pc → pc.pre ds → ∃ r, pc.post ds r) (h : FunIs S d p) (k : FunIs S d q) : p = q := by
  obtain ⟨g, caps, pc, rfl, h1, h2⟩ := h
  obtain ⟨g', caps', pc', e, k1, k2⟩ := k
  cases e
  rw [h1] at k1
  cases k1
  funext x
  obtain ⟨r, hr⟩ := hex g pc _ h1 (h2 x).1
  exact enc_inj (((h2 x).2 r hr).symm.trans ((k2 x).2 r hr))

/-! ### A function that only reads is handed a slice of the caller's own -/
def Flat (d : D) : Prop := ∀ (tp I tp' I' : Nat → Prop) (w w' : World) (x : Value), R tp I w x d → R tp' I' w' x d
theorem flat_v (v : Value) : Flat (.v v) := fun tp I tp' I' w w' x h => by
  cases h with
  | v _ h1 h2 => exact .v _ h1 h2
theorem flat_tup {ds : List D} (h : ∀ d ∈ ds, Flat d) : Flat (.tup ds) := fun tp I tp' I' w w' x hr => by
  cases hr with
  | tup xs _ hl hx => exact .tup xs ds hl fun k x c h1 h2 => h c (List.mem_of_getElem? h2) _ _ _ _ _ _ _ (hx k x c h1 h2)

section
variable {X Y Z : Type} [Cod Y]
def bwPT (A : Arg X) (pre : List Y × X → Prop) (er : Z → D) (post : List Y × X → Z → Prop) (el n : Nat) : PT := fun d ds H K => ∃ id v l ds' x, ds = .own id v :: ds' ∧ A.dec ds' = some x ∧ H id = some (.row v el n (l.map enc)) ∧ pre (l, x) ∧ ∀ z, post (l, x) z → K (er z) H
theorem bw_mono (A : Arg X) (pre : List Y × X → Prop) (er : Z → D) (post : List Y × X → Z → Prop) (el n : Nat) : MonoPT (bwPT A pre er post el n) := fun d ds H K K' hk ⟨id, v, l, ds', x, h1, h2, h3, h4, h5⟩ => ⟨id, v, l, ds', x, h1, h2, h3, h4, fun z hz => hk _ _ (h5 z hz)⟩
def bwC (A : Arg X) (pre : List Y × X → Prop) (er : Z → D) (post : List Y × X → Z → Prop) (el n : Nat) : Spc := .gen _ (bw_mono A pre er post el n)
def bwX (A : Arg X) (pre : List Y × X → Prop) (er : Z → D) (post : List Y × X → Z → Prop) (el n : Nat) (v : Value) (ds : List D) (r : Option Res) (H : HMap) (K : D → HMap → Prop) : Prop := ∃ l, r = some (.row v el n (l.map enc)) ∧ optX (A.dec ds) fun x => pre (l, x) ∧ ∀ z, post (l, x) z → K (er z) H
@[congr] theorem bwX_cg {A : Arg X} {pre : List Y × X → Prop} {er : Z → D} {post : List Y × X → Z → Prop} {el n : Nat} {v : Value} {ds ds' : List D} {r r' : Option Res} {H : HMap} {K : D → HMap → Prop} (h1 : ds = ds') (h2 : r = r') : bwX A pre er post el n v ds r H K = bwX A pre er post el n v ds' r' H K := by subst h1; subst h2; rfl
@[simp] theorem bwC_pt (A : Arg X) (pre : List Y × X → Prop) (er : Z → D) (post : List Y × X → Z → Prop) (el n : Nat) (d i : Nat) (v : Value) (ds : List D) (H : HMap) (K : D → HMap → Prop) : (bwC A pre er post el n).pt d (.own i v :: ds) H K = bwX A pre er post el n v ds (H i) H K := by
  refine propext ⟨fun h => ?_, fun h => ?_⟩
  · obtain ⟨id, v, l, ds', x, h1, h2, h3, h4, h5⟩ := h
    cases h1
    refine ⟨l, h3, ?_⟩
    rw [h2]
    exact ⟨h4, h5⟩
  · obtain ⟨l, h1, h2⟩ := h
    cases hd : A.dec ds with
    | none => rw [hd] at h2; exact h2.elim
    | some x => rw [hd] at h2; exact ⟨i, v, l, ds, x, rfl, hd, h1, h2.1, h2.2⟩
@[simp] theorem bwX_r (A : Arg X) (pre : List Y × X → Prop) (er : Z → D) (post : List Y × X → Z → Prop) (el n : Nat) (v : Value) (ds : List D) (l : List Y) (H : HMap) (K : D → HMap → Prop) : bwX A pre er post el n v ds (some (.row v el n (l.map enc))) H K = optX (A.dec ds) fun x => pre (l, x) ∧ ∀ z, post (l, x) z → K (er z) H := by
  refine propext ⟨fun ⟨l', h1, h2⟩ => ?_, fun h => ⟨l, rfl, h⟩⟩
  simp at h1
  subst h1
  exact h2

theorem tri_borrow {P : Program} {f : Nat} {A : Arg X} {pre : List Y × X → Prop} {er : Z → D} {post : List Y × X → Z → Prop} {el n : Nat} (hf : Tri P f (spc (aE (List Y) A) pre er post).pt) (hn : n = Cod.wd Y) (hflat : ∀ z, Flat (er z)) : Tri P f (bwC A pre er post el n).pt := by
  intro O tp w vs ds H d K hO htl hsat hlen hargs hA
  obtain ⟨id, v, l, ds', x, rfl, hd, hid, hp, hK⟩ := hA
  subst hn
  cases vs with
  | nil => simp at hlen
  | cons v0 vs =>
    have hv0 : v0 = v := by
      have := hargs 0 v0 (.own id v) rfl rfl
      cases this; rfl
    subst hv0
    let O' : Nat → Prop := fun b => O b ∨ ∃ i r, i ≠ id ∧ H i = some r ∧ r.blk = some b
    have himm : ∀ b, Imm O tp H w b → Imm O' tp noH w b := fun b hb => ⟨hb.1, fun h => h.elim hb.2.1 fun ⟨i, r, _, h1, h2⟩ => hb.2.2.2 ⟨i, r, h1, h2⟩, hb.2.2.1, fun ⟨i, r, h1, _⟩ => by simp at h1⟩
    have hmv : ∀ y e, R tp (Imm O tp H w) w y e → R tp (Imm O' tp noH w) w y e := fun y e hr => hr.mono (fun _ h => h) (fun b hb => ⟨himm b hb, rfl⟩) (fun b _ => .refl _ _)
    have hl : R tp (Imm O' tp noH w) w v0 (.list (Cod.wd Y) (l.map enc)) := row_list (fun b hb => by
      have h1 := hsat.out id _ b hid hb
      refine ⟨(hsat.ok id _ hid).lt hb, fun h => h.elim h1.1 fun ⟨i, r, hne, h2, h3⟩ => hne (hsat.dis _ _ _ _ b h2 hid h3 hb), h1.2, fun ⟨i, r, h2, _⟩ => by simp at h2⟩) ((hsat.ok id _ hid).conv hmv (fun _ _ => rfl))
    have hdec : (aE (List Y) A).dec (.list (Cod.wd Y) (l.map enc) :: ds') = some (l, x) := by simp [hd]
    obtain ⟨hce, hc⟩ := hf O' tp w (v0 :: vs) (.list (Cod.wd Y) (l.map enc) :: ds') noH d (fun r H' => ∃ z, r = er z ∧ post (l, x) z ∧ H' = noH)
      (fun b hb => hb.elim (hO b) fun ⟨i, r, _, h1, h2⟩ => (hsat.ok i r h1).lt h2) htl ⟨fun i j r s b h => by simp at h, fun i r b h => by simp at h, fun i r h => by simp at h⟩ (by simpa using hlen)
      (fun k y e h1 h2 => by
        cases k with
        | zero => simp at h1 h2; subst h1; subst h2; exact hl
        | succ k => simp at h1 h2; exact hmv _ _ (hargs (k + 1) y e (by simpa using h1) (by simpa using h2)))
      (by rw [spc_pt, hdec]; exact ⟨hp, fun z hz => ⟨z, rfl, hz, rfl⟩⟩)
    refine ⟨hce, hc.mono ?_⟩
    rintro e w' ⟨q, r, H', tp', rfl, ⟨z, rfl, hz, rfl⟩, t1, t2, t3, hs, ho, hsat', hR⟩
    have hsame : ∀ b, b < w.heap.size → ¬ tp b → w'.heap[b]? = w.heap[b]? := fun b hb ht => hs.same b hb (fun ⟨i, r, h, _⟩ => by simp at h) ht
    have hmove : ∀ y e, R tp (Imm O tp H w) w y e → R tp' (Imm O tp' H w') w' y e := fun y e hr => hr.mono t1 (fun b hb => ⟨⟨Nat.lt_of_lt_of_le hb.1 hs.size, hb.2.1, fun h => by
      rcases t2 b h with h | h
      · exact hb.2.2.1 h
      · have := hb.1; omega, hb.2.2.2⟩, hsame b hb.1 hb.2.2.1⟩) hs.tapes
    refine ⟨q, er z, H, tp', rfl, hK z hz, t1, t2, t3, ⟨hs.os, hs.tape, hs.output, hs.size, fun b hb _ ht => hsame b hb ht, hs.tapes, hs.drawn⟩, fun b h => .inl h, ⟨hsat.dis, fun i r b h1 h2 => ?_, fun i r h1 => ?_⟩, hflat z _ _ _ _ _ _ _ hR⟩
    · have := hsat.out i r b h1 h2
      refine ⟨this.1, fun h => ?_⟩
      rcases t2 b h with h | h
      · exact this.2 h
      · have := (hsat.ok i r h1).lt h2; omega
    · exact (hsat.ok i r h1).conv hmove fun b hb => hsame b ((hsat.ok i r h1).lt hb) (hsat.out i r b h1 hb).2
end
end Go.Gv

namespace Go.Gv
set_option linter.unusedSimpArgs false
set_option linter.unusedVariables false

def RSub (r r' : Res) : Prop := r = r' ∨ ∃ b cs cs', r = .box b cs ∧ r' = .box b cs' ∧ cs.length = cs'.length ∧ ∀ (m : Nat) (c c' : D), cs[m]? = some c → cs'[m]? = some c' → Sub c c'
theorem RSub.blk {r r' : Res} (h : RSub r r') : r'.blk = r.blk := by
  rcases h with rfl | ⟨b, cs, cs', rfl, rfl, _⟩ <;> rfl
theorem RSub.ok {tp I : Nat → Prop} {w w' : World} {r r' : Res} (h : RSub r r') (hr : ResOk (R tp I w) w' r) : ResOk (R tp I w) w' r' := by
  rcases h with rfl | ⟨b, cs, cs', rfl, rfl, hl, hc⟩
  · exact hr
  · obtain ⟨xs, el, h1, h2, h3⟩ := hr
    refine ⟨xs, el, h1, h2.trans hl, fun k y c hy hc' => ?_⟩
    have hk : k < cs.length := by rw [hl]; exact (List.getElem?_eq_some_iff.1 hc').1
    have h4 := h3 k y cs[k] hy (List.getElem?_eq_getElem hk)
    exact ⟨h4.1, Sub_R (hc k _ _ (List.getElem?_eq_getElem hk) hc') h4.2⟩

theorem StW.ren {E : Env} {tp : Nat → Prop} {H H' : HMap} {w : World} (ρ : Nat → Nat) (h : StW E tp H w) (hρ : ∀ i j r s, H' i = some r → H' j = some s → ρ i = ρ j → i = j)
    (hs : ∀ i r, H' i = some r → ∃ r0, H (ρ i) = some r0 ∧ RSub r0 r) :
    StW E tp H' w ∧ ∀ x d, R tp (Imm E.O tp H w) w x d → R tp (Imm E.O tp H' w) w x d := by
  have hown : ∀ b, owns H' b → owns H b := fun b ⟨i, r, h1, h2⟩ => by
    obtain ⟨r0, h3, h4⟩ := hs i r h1
    exact ⟨ρ i, r0, h3, h4.blk ▸ h2⟩
  have move : ∀ x d, R tp (Imm E.O tp H w) w x d → R tp (Imm E.O tp H' w) w x d := fun x d hr =>
    hr.mono (fun _ h => h) (fun b hb => ⟨⟨hb.1, hb.2.1, hb.2.2.1, fun ho => hb.2.2.2 (hown b ho)⟩, rfl⟩) (fun b _ => .refl _ _)
  refine ⟨⟨h.hO, h.tpx, h.tpn, h.tpl, h.step, fun b hb => h.loc b (hown b hb), ⟨fun i j r s b h1 h2 h3 h4 => ?_, fun i r b h1 h2 => ?_, fun i r h1 => ?_⟩⟩, move⟩
  · obtain ⟨r0, a1, a2⟩ := hs i r h1
    obtain ⟨s0, b1, b2⟩ := hs j s h2
    exact hρ i j r s h1 h2 (h.sat.dis _ _ r0 s0 b a1 b1 (a2.blk ▸ h3) (b2.blk ▸ h4))
  · obtain ⟨r0, a1, a2⟩ := hs i r h1
    exact h.sat.out _ r0 b a1 (a2.blk ▸ h2)
  · obtain ⟨r0, a1, a2⟩ := hs i r h1
    exact a2.ok ((h.sat.ok _ r0 a1).conv move (fun _ _ => rfl))

theorem wk_ren {σ : Sg} {H : HMap} (i j k b : Nat) (cs cs' : List D) (hij : i ≠ j) (hk : k ≠ i ∧ k ≠ j) (h10 : H k = some (.box b cs)) (hl : cs.length = cs'.length) (hc : ∀ (m : Nat) (c c' : D), cs[m]? = some c → cs'[m]? = some c' → Sub c c') :
    Wk σ H σ (updH (updH (updH H i none) j (H i)) k (some (.box b cs'))) := by
  intro E a w hst
  obtain ⟨hd, hN, tp, hw, hr⟩ := hst
  have hm := hw.ren (H' := updH (updH (updH H i none) j (H i)) k (some (.box b cs'))) (fun t => if t = j then i else t) (fun a c r s h1 h2 h3 => ?_) (fun t r h1 => ?_)
  · exact ⟨hd, hN, tp, hm.1, fun t => hm.2 _ _ (hr t)⟩
  · simp only [updH] at h1 h2
    by_cases ea : a = j
    · by_cases ec : c = j
      · exact ea.trans ec.symm
      · simp only [ea, ec, if_true, if_false] at h3
        subst h3
        simp [hk.1.symm, hij] at h2
    · by_cases ec : c = j
      · simp only [ea, ec, if_true, if_false] at h3
        subst h3
        simp [hk.1.symm, hij] at h1
      · simpa [ea, ec] using h3
  · simp only [updH] at h1
    by_cases e1 : t = k
    · subst e1
      simp only [if_true] at h1
      cases h1
      simp only [hk.2, if_false]
      exact ⟨_, h10, .inr ⟨b, cs, cs', rfl, rfl, hl, hc⟩⟩
    · simp only [e1, if_false] at h1
      by_cases e2 : t = j
      · simp only [e2, if_true] at h1 ⊢
        exact ⟨r, h1, .inl rfl⟩
      · simp only [e2, if_false] at h1 ⊢
        by_cases e3 : t = i
        · simp [e3] at h1
        · simp only [e3, if_false] at h1
          exact ⟨r, h1, .inl rfl⟩

section
variable {S : Nat → Spc} {σ σ1 : Sg} {H H1 : HMap} {K : Ex → Sg → HMap → Prop}
theorem vc_loopW {k : Nat} {b : CC} (hw : Wk σ H σ1 H1) (h : vc S (.loop k b) K σ1 H1) : vc S (.loop k b) K σ H := by
  rw [e_loop] at h ⊢
  obtain ⟨I, ⟨x, h1, h2⟩, h3⟩ := h
  exact ⟨I, ⟨x, h1, fun E a w hs => h2 E a w (hw E a w hs)⟩, h3⟩
theorem vc_rangeW {id i n c id2 i2 : Nat} {body : CC} (hw : Wk σ H σ1 H1) (h : vc S (rangeCC id i n c id2 body i2) K σ1 H1) : vc S (rangeCC id i n c id2 body i2) K σ H := by
  unfold rangeCC at h ⊢
  rw [e_block] at h ⊢
  exact vc_loopW hw h
theorem vc_cutW {k : Nat} {b : CC} (hw : Wk σ H σ1 H1) (h : vc S (.cut k b) K σ1 H1) : vc S (.cut k b) K σ H := by
  rw [e_cut] at h ⊢
  obtain ⟨s, g, h1, h2⟩ := h
  exact ⟨s, g, fun E a w hs => h1 E a w (hw E a w hs), h2⟩
end
end Go.Gv

namespace Go.Gv
set_option linter.unusedSimpArgs false
set_option linter.unusedVariables false
section
variable {X Y : Type}
def bxPT (ce : X → List D) (cf : Y → List D) (pre : X → Prop) (post : X → Y → Prop) : PT := fun d ds H K => ∃ L id b x, ds = [.tape L, .bptr id b 0] ∧ H id = some (.box b (ce x)) ∧ pre x ∧ ∀ y, post x y → K (.tup []) (updH H id (some (.box b (cf y))))
theorem bx_mono (ce : X → List D) (cf : Y → List D) (pre : X → Prop) (post : X → Y → Prop) : MonoPT (bxPT ce cf pre post) := fun d ds H K K' hk ⟨L, id, b, x, h1, h2, h3, h4⟩ => ⟨L, id, b, x, h1, h2, h3, fun y hy => hk _ _ (h4 y hy)⟩
def bxC (ce : X → List D) (cf : Y → List D) (pre : X → Prop) (post : X → Y → Prop) : Spc := .gen _ (bx_mono ce cf pre post)
def bxX (ce : X → List D) (cf : Y → List D) (pre : X → Prop) (post : X → Y → Prop) (id b : Nat) (r : Option Res) (H : HMap) (K : D → HMap → Prop) : Prop := ∃ x, r = some (.box b (ce x)) ∧ pre x ∧ ∀ y, post x y → K (.tup []) (updH H id (some (.box b (cf y))))
@[congr] theorem bxX_cg {ce : X → List D} {cf : Y → List D} {pre : X → Prop} {post : X → Y → Prop} {id b : Nat} {r r' : Option Res} {H : HMap} {K : D → HMap → Prop} (h : r = r') : bxX ce cf pre post id b r H K = bxX ce cf pre post id b r' H K := by subst h; rfl
@[simp] theorem bxC_pt (ce : X → List D) (cf : Y → List D) (pre : X → Prop) (post : X → Y → Prop) (d i b : Nat) (L : List Int) (H : HMap) (K : D → HMap → Prop) : (bxC ce cf pre post).pt d [.tape L, .bptr i b 0] H K = bxX ce cf pre post i b (H i) H K := by
  refine propext ⟨fun h => ?_, fun h => ?_⟩
  · obtain ⟨L', id, b', x, h1, h2, h3, h4⟩ := h
    cases h1
    exact ⟨x, h2, h3, h4⟩
  · obtain ⟨x, h1, h2, h3⟩ := h
    exact ⟨L, i, b, x, rfl, h1, h2, h3⟩

def FinX (cf : Y → List D) (b : Nat) (post : Y → Prop) (r : D) (H : HMap) : Prop := ∃ y, r = .tup [] ∧ H 1 = some (.box b (cf y)) ∧ post y
def WalkBX (cc : CC) (rs : List CRes) (S : Nat → Spc) (ce : X → List D) (cf : Y → List D) (pre : X → Prop) (post : X → Y → Prop) : Prop :=
  ∀ L b x, pre x → vc S cc (retK rs fun r H' => FinX cf b (post x) r H') (initS [.tape L, .bptr 1 b 0]) (updH noH 1 (some (.box b (ce x))))

variable {P : Program} {S : Nat → Spc} {f : Nat} {im : List Nat} {cc : CC} {rs : List CRes} {N : Nat}
theorem tri_walkBX {ce : X → List D} {cf : Y → List D} {pre : X → Prop} {post : X → Y → Prop} (hS : ∀ f, Tri P f (S f).pt) (h : FnOk P f im cc rs N) (hN : 2 ≤ N) (hw : WalkBX cc rs S ce cf pre post) : Tri P f (bxC ce cf pre post).pt := by
  obtain ⟨mix, enter, fn, code, h1, h2, h3, h4, h5⟩ := h
  refine tri_of_vc hS mix h1 h2 enter h3 h4 h5 ?_
  rintro ds H d K ⟨L, id, b, x, rfl, hid, hp, hK⟩
  refine ⟨hN, [.tape L, .bptr 1 b 0], updH noH 1 (some (.box b (ce x))), fun _ => id, .cons (.same _) (.cons (.bptr _ _ _ _) .nil), fun i r h => ?_, fun i j r s h h' _ => ?_, _, hw L b x hp, ?_⟩
  · by_cases e : i = 1
    · subst e
      simp only [updH, if_true] at h
      cases h
      exact hid
    · simp [updH, e, noH] at h
  · have a : i = 1 := by
      by_cases e : i = 1
      · exact e
      · simp [updH, e, noH] at h
    have b : j = 1 := by
      by_cases e : j = 1
      · exact e
      · simp [updH, e, noH] at h'
    exact a.trans b.symm
  · rintro r H' ⟨y, rfl, hj, hpost⟩
    refine ⟨.tup [], noH, updH H id (some (.box b (cf y))), fun i => if i = id then some 1 else none, .same _, fun j q h => by simp [noH] at h, hK y hpost, fun i s hi => ?_, fun i j' k s q hi hj' e1 e2 => ?_⟩
    · by_cases e : i = id
      · subst e
        simp only [updH, if_true] at hi
        cases hi
        simpa using hj
      · simp only [updH, e, if_false] at hi ⊢
        exact ⟨hi, fun k q h he => e he.symm⟩
    · have a : i = id := by
        by_cases e : i = id
        · exact e
        · simp [e] at e1
      have b : j' = id := by
        by_cases e : j' = id
        · exact e
        · simp [e] at e2
      exact a.trans b.symm
end
end Go.Gv
