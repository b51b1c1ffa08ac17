/- A part of the framework and of the walks: W56 W37 W52 Sh4 W57. -/
import Derived.Shelf.SlSortCmp.WholeK
import Derived.Shelf.SlLaysF0
import Derived.Shelf.SlLaysNS
import Derived.Ground.SlsfProg
import Derived.Ground.SlgnProg
import Derived.Test.YtblcfloekekefaaGreatProg
import Derived.Shelf.SortG.Plain
import Derived.Shelf.SortG.SortNone
import Derived.Test.YtblcfloekekefaaGreatGx14
import Derived.Test.YtblcfloekekefaaGreatGx18
import Derived.Test.YtblcfloekekefaaGreatGx23
import Derived.Test.YtblcfloekekefaaGreatGx22

namespace Go.Gv
set_option linter.unusedSimpArgs false
set_option linter.unusedVariables false
set_option maxRecDepth 100000
open Cod (enc dec)
open Go.Proofs
variable {S S0 : Nat → Spc}
theorem w_law31_Fixed (h1 : S f_m_New = s_m_New) (h2 : S f_m_Tape_Query = s_m_Query) (h3 : S f_estimate_Fixed = s_estimate_Fixed) (h4 : S f_r31_Fixed = s_r31_Fixed) (h5 : S f_r31_Same = s_r31_Same) (h6 : S f_law31_known = s_law31_known) :
    Walk cc_law31_EstimateFixed rs_law31_EstimateFixed S (a1 (List Int)) (fun _ => True) enc (fun _ (y : Bool) => y = true) := by
  rintro L -
  simp [cc_law31_EstimateFixed, rs_law31_EstimateFixed, h1, h2]
  rintro T ⟨p, g, fs, s⟩ hq b3
  obtain ⟨lb, hlb, hw⟩ := hq
  have hw : WP lb 4 p := hw
  obtain ⟨f1, f2⟩ := wp_fixed hlb hw (by omega)
  simp [h3, h4, f1]
  intro y hy z hz
  have e : y = z := (f2 y hy).eq (f2 z hz)
  subst e
  simp [h5, h6]
end Go.Gv

namespace Go.Gv
set_option linter.unusedSimpArgs false
set_option linter.unusedVariables false
set_option maxRecDepth 100000
open Cod (enc dec)
variable {S S0 : Nat → Spc}

/-- d is a function that gives p on the members of a list. -/
def FunOn {X Y : Type} [Cod X] [Cod Y] (S : Nat → Spc) (d : D) (l : List X) (p : X → Y) : Prop :=
  ∃ g caps pc, d = .clo g caps ∧ S g = .pure pc ∧ ∀ x ∈ l, pc.pre (enc x :: caps) ∧ ∀ r, pc.post (enc x :: caps) r → r = enc (p x)
theorem FunOn.useB {X : Type} [Cod X] {S : Nat → Spc} {d : D} {l : List X} {p : X → Bool} (h : FunOn S d l p) (x : X) (hx : x ∈ l) {d' : Nat} {H : HMap} {K : D → HMap → Prop} (hk : ∀ y : Bool, (∀ q, FunOn S d l q → y = q x) → K (.v (.bool y)) H) : callX S d d' [enc x] H K := by
  obtain ⟨g, caps, pc, rfl, h1, h2⟩ := h
  simp only [callX, h1, Spc.pt]
  refine ⟨(h2 x hx).1, fun r hr => ?_⟩
  have e := (h2 x hx).2 r hr
  rw [e]
  refine hk (p x) fun q hq => ?_
  obtain ⟨g', caps', pc', e', k1, k2⟩ := hq
  cases e'
  rw [h1] at k1
  cases k1
  exact enc_inj (e.symm.trans ((k2 x hx).2 r hr))
theorem FunIs.on {X Y : Type} [Cod X] [Cod Y] {S : Nat → Spc} {d : D} {p : X → Y} (h : FunIs S d p) (l : List X) : FunOn S d l p := by
  obtain ⟨g, caps, pc, h1, h2, h3⟩ := h
  exact ⟨g, caps, pc, h1, h2, fun x _ => h3 x⟩
theorem funOn_cap {X Y : Type} [Cod X] [Cod Y] {S : Nat → Spc} {g : Nat} {c : D} {l : List X} {pre : X × D × Unit → Prop} {post : X × D × Unit → Y → Prop} {p : X → Y} (h : S g = spc (aE X (aD a0)) pre enc post) (hp : ∀ x ∈ l, pre (x, c, ())) (hq : ∀ x ∈ l, ∀ y, post (x, c, ()) y → y = p x) : FunOn S (.clo g [c]) l p := by
  refine ⟨g, [c], _, rfl, h, fun x hx => ⟨⟨(x, c, ()), by simp, hp x hx⟩, fun r hr => ?_⟩⟩
  obtain ⟨y, rfl, hy⟩ := hr (x, c, ()) (by simp) (hp x hx)
  rw [hq x hx y hy]

theorem pat_agg (x : Pat) : D.agg [D.v (Value.int IntKind.i64 x.op), D.v (Value.int IntKind.i64 x.cond.op), D.v (Value.string x.cond.name), D.v (Value.string x.cond.arg), D.v (Value.string x.cond.val), D.v (Value.string x.cond.lab), D.v (Value.bool x.cond.fold), D.list 7 (List.map enc x.cond.kids), D.v (Value.string x.lab), D.v (Value.string x.reg), D.v (Value.int IntKind.i64 x.mn), D.v (Value.int IntKind.i64 x.mx), D.list 13 (List.map enc x.kids)] = enc x := by simp
def P_IdxP (S0 : Nat → Spc) (x : List Pat × D × Unit) : Prop := ∃ p : Pat → Bool, FunOn S0 x.2.1 x.1 p
def Q_IdxP (S0 : Nat → Spc) (x : List Pat × D × Unit) (y : Int) : Prop := ∀ p : Pat → Bool, FunOn S0 x.2.1 x.1 p → y = idxI x.1 p
abbrev s_IdxP (S0 : Nat → Spc) : Spc := spc (aE (List Pat) (aD a0)) (P_IdxP S0) enc (Q_IdxP S0)
theorem w_slices_IndexFunc_Pattern : Walk cc_slices_IndexFunc_Pattern rs_slices_IndexFunc_Pattern S (aE (List Pat) (aD a0)) (P_IdxP S) enc (Q_IdxP S) := by
  rintro ⟨l, d, ⟨⟩⟩ ⟨p, hp⟩
  simp at hp
  simp [cc_slices_IndexFunc_Pattern, rs_slices_IndexFunc_Pattern]
  intro _
  refine vc_range (X := Unit) [0, 1] [] l.length (fun k _ => ∀ p : Pat → Bool, FunOn S d l p → ∀ x ∈ l.take k, p x = false) (fun _ => []) (fun _ => []) () (by simp) (by simp) (by omega) (by simp) (by simp) (by simp) (by simp) (by simp) ?_ ?_
  · intro k _ hk hP
    simp
    refine ⟨hk, fun x hx => ?_⟩
    rw [pat_agg x]
    refine hp.useB x (mem_at hx) fun y hy => ?_
    simp
    refine ⟨fun h => ?_, fun h p' hp' => ?_⟩
    · intro p' hp'
      exact (idxI_at hx (by rw [← hy p' hp', h]) (hP p' hp')).symm
    · rw [take_snoc hx]
      intro z hz
      rcases List.mem_append.1 hz with hz | hz
      · exact hP p' hp' z hz
      · simp at hz; subst hz; rw [← hy p' hp', h]
  · intro _ hP
    simp
    intro p' hp'
    exact (idxI_none (by simpa using hP p' hp')).symm
def Q_ConP (S0 : Nat → Spc) (x : List Pat × D × Unit) (y : Bool) : Prop := ∀ p : Pat → Bool, FunOn S0 x.2.1 x.1 p → y = x.1.any p
abbrev s_ConP (S0 : Nat → Spc) : Spc := spc (aE (List Pat) (aD a0)) (P_IdxP S0) enc (Q_ConP S0)
theorem w_slices_ContainsFunc_Pattern (h1 : S f_slices_IndexFunc_Pattern = s_IdxP S0) : Walk cc_slices_ContainsFunc_Pattern rs_slices_ContainsFunc_Pattern S (aE (List Pat) (aD a0)) (P_IdxP S0) enc (Q_ConP S0) := by
  rintro ⟨l, d, ⟨⟩⟩ hp
  simp [cc_slices_ContainsFunc_Pattern, rs_slices_ContainsFunc_Pattern, h1, -Bool.forall_bool]
  refine ⟨hp, fun y hy p' hp' => ?_⟩
  rw [hy p' hp']
  exact idxI_ge p' l

abbrev s_shallow (n : Nat) : Spc := spc (a2 Pat Int) (fun x => pDep x.1 ≤ n ∧ 0 ≤ x.2 ∧ x.2 ≤ 101) (enc (X := Bool)) fun x y => y = shallowB x.1 x.2
def P_sh1 (n : Nat) (x : Pat × D × Unit) : Prop := ∃ d : Int, x.2.1 = .cptr [enc d] 0 ∧ pDep x.1 ≤ n ∧ 0 ≤ d ∧ d ≤ 100
def Q_sh1 (x : Pat × D × Unit) (y : Bool) : Prop := ∀ d : Int, x.2.1 = .cptr [enc d] 0 → y = !shallowB x.1 (d + 1)
abbrev s_sh1 (n : Nat) : Spc := spc (aE Pat (aD a0)) (P_sh1 n) enc Q_sh1
theorem w_query_shallow_1 (n : Nat) (h1 : S f_query_shallow = s_shallow n) : Walk cc_query_shallow_1 rs_query_shallow_1 S (aE Pat (aD a0)) (P_sh1 n) enc Q_sh1 := by
  rintro ⟨p, d, ⟨⟩⟩ ⟨e, hd, h2, h3, h4⟩
  simp at hd h2
  subst hd
  simp [cc_query_shallow_1, rs_query_shallow_1, h1, Q_sh1, h2, -Bool.forall_bool]
  exact ⟨by simp only [InR]; omega, by omega⟩
theorem w_query_shallow (n : Nat) (h0 : S0 f_query_shallow_1 = s_sh1 n) (h1 : S f_slices_ContainsFunc_Pattern = s_ConP S0) : Walk cc_query_shallow rs_query_shallow S (a2 Pat Int) (fun x => pDep x.1 ≤ n + 1 ∧ 0 ≤ x.2 ∧ x.2 ≤ 101) (enc (X := Bool)) fun x y => y = shallowB x.1 x.2 := by
  rintro ⟨p, d⟩ ⟨hn, hd0, hd1⟩
  have hk : ∀ k ∈ p.kids, pDep k ≤ n := fun k hk => by have := pDep_kid hk; have : pDep p ≤ n + 1 := hn; omega
  simp only at hd0 hd1
  simp [cc_query_shallow, rs_query_shallow, h1, -Bool.forall_bool]
  rw [shallowB_eq]
  refine ⟨fun h => ?_, fun h => by rw [decide_eq_false (by omega)]; rfl⟩
  have hf : FunOn S0 (.clo f_query_shallow_1 [.cptr [.v (.int .i64 d)] 0]) p.kids fun x => !shallowB x (d + 1) :=
    funOn_cap h0 (fun x hx => ⟨d, rfl, hk x hx, hd0, h⟩) (fun x _ y hy => hy d rfl)
  refine ⟨⟨_, hf⟩, fun y hy => ?_⟩
  rw [hy _ hf, decide_eq_true h, Bool.true_and]
  simp [List.any_eq_not_all_not]
def P_ev1 (S0 : Nat → Spc) (n : Nat) (x : Pat × D × Unit) : Prop := ∃ (d : D) (f : Pat → Bool), x.2.1 = .cptr [d] 0 ∧ FunIs S0 d f ∧ pDep x.1 ≤ n
def Q_ev1 (S0 : Nat → Spc) (x : Pat × D × Unit) (y : Bool) : Prop := ∀ (d : D) (f : Pat → Bool), x.2.1 = .cptr [d] 0 → FunIs S0 d f → y = !everyB f x.1
abbrev s_every (S0 : Nat → Spc) (n : Nat) : Spc := spc (aE Pat (aD a0)) (fun x => ∃ f : Pat → Bool, FunIs S0 x.2.1 f ∧ pDep x.1 ≤ n) enc fun x y => ∀ f : Pat → Bool, FunIs S0 x.2.1 f → y = everyB f x.1
abbrev s_ev1 (S0 : Nat → Spc) (n : Nat) : Spc := spc (aE Pat (aD a0)) (P_ev1 S0 n) enc (Q_ev1 S0)
theorem w_query_every_1 (n : Nat) (h1 : S f_query_every = s_every S0 n) : Walk cc_query_every_1 rs_query_every_1 S (aE Pat (aD a0)) (P_ev1 S0 n) enc (Q_ev1 S0) := by
  rintro ⟨p, d, ⟨⟩⟩ ⟨e, f, hd, h2, h3⟩
  simp at hd h3
  subst hd
  simp [cc_query_every_1, rs_query_every_1, h1, Q_ev1, h3, -Bool.forall_bool]
  exact ⟨⟨f, h2⟩, fun y hy d g e hg => by subst e; exact hy g hg⟩
theorem w_query_every {N : Nat → Spc} (n : Nat) (hN : ∀ (d : D) (f : Pat → Bool), FunIs N d f → FunIs S d f) (h0 : S0 f_query_every_1 = s_ev1 N n) (h1 : S f_slices_ContainsFunc_Pattern = s_ConP S0) : Walk cc_query_every rs_query_every S (aE Pat (aD a0)) (fun x => ∃ f : Pat → Bool, FunIs N x.2.1 f ∧ pDep x.1 ≤ n + 1) enc fun x y => ∀ f : Pat → Bool, FunIs N x.2.1 f → y = everyB f x.1 := by
  rintro ⟨p, d, ⟨⟩⟩ ⟨f, hf, hn⟩
  have hk : ∀ k ∈ p.kids, pDep k ≤ n := fun k hk => by have := pDep_kid hk; have : pDep p ≤ n + 1 := hn; omega
  simp at hf
  have hd1 : d.kn = true ∧ d.cells = [d] := by obtain ⟨g, caps, pc, rfl, _⟩ := hf; exact ⟨rfl, rfl⟩
  simp [cc_query_every, rs_query_every, h1, hd1, -Bool.forall_bool]
  rw [pat_agg p]
  refine ((hN d f hf).on [p]).useB p (by simp) fun y hy => ?_
  have hy : ∀ f, FunIs N d f → y = f p := fun f hf => hy f ((hN d f hf).on [p])
  simp [h1, -Bool.forall_bool]
  refine ⟨fun ht => ?_, fun hff g hg => by rw [everyB_eq, ← hy g hg, hff]; rfl⟩
  have hO : ∀ g, FunIs N d g → FunOn S0 (.clo f_query_every_1 [.cptr [d] 0]) p.kids fun x => !everyB g x := fun g hg =>
    funOn_cap h0 (fun x hx => ⟨d, g, rfl, hg, hk x hx⟩) (fun x _ y hy => hy d g rfl hg)
  refine ⟨⟨_, hO f hf⟩, fun z hz g hg => ?_⟩
  rw [hz _ (hO g hg), everyB_eq, ← hy g hg, ht, Bool.true_and]
  simp [List.any_eq_not_all_not]
abbrev s_shallowA : Spc := spc (a2 Pat Int) (fun x => 0 ≤ x.2 ∧ x.2 ≤ 101) (enc (X := Bool)) fun x y => y = shallowB x.1 x.2
abbrev s_everyA (N : Nat → Spc) : Spc := spc (aE Pat (aD a0)) (fun x => ∃ f : Pat → Bool, FunIs N x.2.1 f) enc fun x y => ∀ f : Pat → Bool, FunIs N x.2.1 f → y = everyB f x.1
abbrev s_Shape : Spc := spc (a1 Pat) (fun _ => True) (enc (X := Bool)) fun x y => y = (shallowB x 1 && everyB nodeB x)
theorem funIs_nm {X : Type} [Cod X] {S : Nat → Spc} {g : Nat} {pre : X → Prop} {p : X → Bool} (h : S g = spc (a1 X) pre enc fun x y => y = p x) (hp : ∀ x, pre x) : FunIs S (.clo g []) p := by
  refine ⟨g, [], _, rfl, h, fun x => ⟨⟨x, by simp, hp x⟩, fun r hr => ?_⟩⟩
  obtain ⟨y, rfl, hy⟩ := hr x (by simp) (hp x)
  rw [hy]
theorem w_query_Shape {N : Nat → Spc} (h0 : N f_query_node = s_node) (h1 : S f_query_shallow = s_shallowA) (h2 : S f_query_every = s_everyA N) : Walk cc_query_Shape rs_query_Shape S (a1 Pat) (fun _ => True) (enc (X := Bool)) fun x y => y = (shallowB x 1 && everyB nodeB x) := by
  rintro p -
  have f1 : FunIs N (.clo f_query_node []) nodeB := funIs_nm h0 fun _ => trivial
  simp [cc_query_Shape, rs_query_Shape, h1, h2, -Bool.forall_bool]
  refine ⟨fun h => ⟨⟨_, f1⟩, fun y hy => by rw [hy _ f1, h]; rfl⟩, fun h h' => absurd (h.symm.trans h') (by simp)⟩
theorem w_query_right {N : Nat → Spc} (h0 : N f_query_named = s_named) (h0' : N f_query_ranged = s_ranged) (h1 : S f_query_Shape = s_Shape) (h2 : S f_query_every = s_everyA N) : Walk cc_query_right rs_query_right S (a1 Pat) (fun _ => True) (enc (X := Bool)) fun x y => y = patB validN x := by
  rintro p -
  have f1 : FunIs N (.clo f_query_named []) (nameB validN) := funIs_nm h0 fun _ => trivial
  have f2 : FunIs N (.clo f_query_ranged []) numB := funIs_nm h0' fun _ => trivial
  simp [cc_query_right, rs_query_right, h1, h2, -Bool.forall_bool]
  unfold patB
  refine ⟨fun h1 h2 => ⟨⟨_, f1⟩, fun y hy => ?_⟩, fun h => ?_⟩
  · have hy := hy _ f1
    refine ⟨fun ht => ⟨⟨_, f2⟩, fun z hz => ?_⟩, fun hf => ?_⟩
    · rw [hz _ f2, h1, h2, ← hy, ht]; rfl
    · rw [← hy, hf]; simp
  · rcases hs : shallowB p 1
    · rfl
    · rw [h hs]; rfl
end Go.Gv

namespace Go.Gv
set_option linter.unusedSimpArgs false
set_option linter.unusedVariables false
set_option maxRecDepth 100000
open Cod (enc dec)
variable {S S0 : Nat → Spc}
theorem w_rep (A : Pst → Option (Pst × Pat)) (h1 : S f_r23_parser_now = s_now) (h2 : S f_r23_parser_eat = s_eat) (h3 : S f_r23_parser_want = s_want) (h4 : S f_r23_parser_number = s_number) (h5 : S f_r23_parser_item = s_item A) :
    WalkPS cc_r23_parser_rep rs_r23_parser_rep S a0 (enc (X := Pat)) (fun s z => ∃ r, F_rep A s z = some r) (fun s z s' y => F_rep A s z = some (s', y)) := by
  rintro b s ⟨⟩ ⟨⟨s', y⟩, hr⟩
  have hr0 := hr
  simp only [F_rep, repF] at hr
  obtain ⟨⟨s1, x1⟩, hi, hr⟩ := Option.bind_eq_some_iff.1 hr
  simp only at hr
  simp [cc_r23_parser_rep, rs_r23_parser_rep, h5, hi]
  intro b2 b3
  refine vc_whileG (X := Nat × Pst × Pat) [0, 2, 3] [2] [] [] [] [] (fun z => repLoop z.1 z.2.1 z.2.2 = some (s', y)) (fun _ => []) (fun z => [(0, .box b (cePst z.2.1)), (3, .box b3 (enc z.2.2).cells)]) (fun z => z.1) (100, s1, x1) [0, 3] (fun _ => rfl) (by decide) (by decide) hr (by simp) (by simp) ?_
  clear hr hi
  rintro ⟨k, s, x⟩ hk
  simp only at hk
  obtain _ | k := k
  · rw [repLoop] at hk; cases hk
  rw [repLoop] at hk
  split at hk
  · cases hk
  rename_i he
  have he : s.e = 0 := by simpa using he
  obtain ⟨t, ht, hk⟩ := Option.bind_eq_some_iff.1 hk
  split at hk
  · cases hk
  rename_i hno
  have n1 : eatF s ⟨#[63]⟩ = some (s, false) := eat_no he ht fun h => hno ⟨h.1, .inl h.2⟩
  have n2 : eatF s ⟨#[42]⟩ = some (s, false) := eat_no he ht fun h => hno ⟨h.1, .inr (.inl h.2)⟩
  have n3 : eatF s ⟨#[43]⟩ = some (s, false) := eat_no he ht fun h => hno ⟨h.1, .inr (.inr h.2)⟩
  split at hk
  · rename_i hb
    have y4 := eat_yes he ht hb.1 hb.2
    obtain ⟨⟨s2, n⟩, hn, hk⟩ := Option.bind_eq_some_iff.1 hk
    simp only at hk
    obtain ⟨⟨s3, w⟩, hw, hk⟩ := Option.bind_eq_some_iff.1 hk
    cases w
    · simp only [Bool.false_eq_true, if_false] at hk
      obtain ⟨⟨s4, u⟩, hu, hk⟩ := Option.bind_eq_some_iff.1 hk
      simp only at hk
      simp [h1, h2, h3, h4, he, eta0 he, ht, n1, n2, n3, y4, hn, hw, hu, -Bool.forall_bool, -Bool.exists_bool]
      exact ⟨k, s4, ⟨6, Cond0, E0, E0, n, n, [x]⟩, hk, ⟨.inl (.inl ⟨rfl, rfl, rfl, rfl, rfl⟩), .inl (by simp [Cond0, E0])⟩, by omega⟩
    · simp only [if_true] at hk; cases hk
  · rename_i hb
    have n4 : eatF s ⟨#[123]⟩ = some (s, false) := eat_no he ht hb
    cases hk
    simp [h1, h2, he, eta0 he, ht, n1, n2, n3, n4, -Bool.forall_bool, -Bool.exists_bool]
    exact finPS s' y (by simp) (by simp [he]) hr0
end Go.Gv

namespace Go.Proofs
open Go.Shelf
def Tryz.sortSource_ren : Go.Shelf.Ren := ⟨fun | 6 => 53 | 15 => 91 | 14 => 90 | 28 => 131 | 29 => 132 | 20 => 123 | 21 => 124 | 22 => 125 | 23 => 126 | 24 => 127 | 25 => 128 | 26 => 129 | 27 => 130 | 46 => 166 | 47 => 167 | 48 => 168 | 49 => 169 | 50 => 170 | 57 => 200 | n => n, fun | 22 => 55 | 24 => 61 | 25 => 102 | 3 => 3 | 39 => 140 | 0 => 0 | 53 => 180 | 55 => 182 | 4 => 4 | 46 => 173 | 45 => 172 | 50 => 177 | 5 => 5 | 9 => 9 | 66 => 200 | 70 => 204 | 76 => 221 | 77 => 134 | n => n, fun | n => n⟩
theorem Tryz.sortSource : Go.Proofs.SlLaysF0.n6 Tryz.prog Tryz.sortSource_ren := {
  mixed := by kernel_rfl
  f6 := ⟨Tryz.f53.name, by decide, Tryz.func53.trans (congrArg some (by kernel_rfl))⟩
  f14 := ⟨Tryz.f90.name, by decide, Tryz.func90.trans (congrArg some (by kernel_rfl))⟩
  f15 := Tryz.func91.trans (congrArg some (by kernel_rfl))
  f20 := ⟨Tryz.f123.name, by decide, Tryz.func123.trans (congrArg some (by kernel_rfl))⟩
  f21 := ⟨Tryz.f124.name, by decide, Tryz.func124.trans (congrArg some (by kernel_rfl))⟩
  f22 := ⟨Tryz.f125.name, by decide, Tryz.func125.trans (congrArg some (by kernel_rfl))⟩
  f23 := ⟨Tryz.f126.name, by decide, Tryz.func126.trans (congrArg some (by kernel_rfl))⟩
  f24 := ⟨Tryz.f127.name, by decide, Tryz.func127.trans (congrArg some (by kernel_rfl))⟩
  f25 := ⟨Tryz.f128.name, by decide, Tryz.func128.trans (congrArg some (by kernel_rfl))⟩
  f26 := ⟨Tryz.f129.name, by decide, Tryz.func129.trans (congrArg some (by kernel_rfl))⟩
  f27 := ⟨Tryz.f130.name, by decide, Tryz.func130.trans (congrArg some (by kernel_rfl))⟩
  f28 := Tryz.func131.trans (congrArg some (by kernel_rfl))
  f29 := Tryz.func132.trans (congrArg some (by kernel_rfl))
  f46 := ⟨Tryz.f166.name, by decide, Tryz.func166.trans (congrArg some (by kernel_rfl))⟩
  f47 := Tryz.func167.trans (congrArg some (by kernel_rfl))
  f48 := Tryz.func168.trans (congrArg some (by kernel_rfl))
  f49 := ⟨Tryz.f169.name, by decide, Tryz.func169.trans (congrArg some (by kernel_rfl))⟩
  f50 := ⟨Tryz.f170.name, by decide, Tryz.func170.trans (congrArg some (by kernel_rfl))⟩
  f57 := ⟨Tryz.f200.name, by decide, Tryz.func200.trans (congrArg some (by kernel_rfl))⟩
  t0 := Tryz.underlying0
  a0 := Tryz.isAgg0
  z0 := Tryz.sizeOf0
  v0 := Tryz.zeroValue0
  t3 := Tryz.underlying3
  a3 := Tryz.isAgg3
  z3 := Tryz.sizeOf3
  v3 := Tryz.zeroValue3
  t4 := Tryz.underlying4
  a4 := Tryz.isAgg4
  z4 := Tryz.sizeOf4
  v4 := Tryz.zeroValue4
  t5 := Tryz.underlying5
  a5 := Tryz.isAgg5
  z5 := Tryz.sizeOf5
  v5 := Tryz.zeroValue5
  t9 := Tryz.underlying9
  a9 := Tryz.isAgg9
  z9 := Tryz.sizeOf9
  v9 := Tryz.zeroValue9
  t22 := Tryz.underlying55
  a22 := Tryz.isAgg55
  z22 := Tryz.sizeOf55
  v22 := Tryz.zeroValue55
  t25 := Tryz.underlying102
  a25 := Tryz.isAgg102
  z25 := Tryz.sizeOf102
  v25 := Tryz.zeroValue102
  t39 := Tryz.underlying140
  a39 := Tryz.isAgg140
  z39 := Tryz.sizeOf140
  v39 := Tryz.zeroValue140
  t45 := Tryz.underlying172
  a45 := Tryz.isAgg172
  z45 := Tryz.sizeOf172
  v45 := Tryz.zeroValue172
  t46 := Tryz.underlying173
  a46 := Tryz.isAgg173
  z46 := Tryz.sizeOf173
  v46 := Tryz.zeroValue173
  t50 := Tryz.underlying177
  a50 := Tryz.isAgg177
  z50 := Tryz.sizeOf177
  v50 := Tryz.zeroValue177
  t53 := Tryz.underlying180
  a53 := Tryz.isAgg180
  z53 := Tryz.sizeOf180
  v53 := Tryz.zeroValue180
  t55 := Tryz.underlying182
  a55 := Tryz.isAgg182
  z55 := Tryz.sizeOf182
  v55 := Tryz.zeroValue182
  t66 := Tryz.underlying200
  a66 := Tryz.isAgg200
  z66 := Tryz.sizeOf200
  v66 := Tryz.zeroValue200
  t70 := Tryz.underlying204
  a70 := Tryz.isAgg204
  z70 := Tryz.sizeOf204
  v70 := Tryz.zeroValue204
  t76 := Tryz.underlying221
  a76 := Tryz.isAgg221
  z76 := Tryz.sizeOf221
  v76 := Tryz.zeroValue221
  t77 := Tryz.underlying134
  a77 := Tryz.isAgg134
  z77 := Tryz.sizeOf134
  v77 := Tryz.zeroValue134 }
def Tryz.sortInt_ren : Go.Shelf.Ren := ⟨fun | 53 => 121 | 64 => 91 | 63 => 165 | 78 => 131 | 79 => 132 | 70 => 191 | 71 => 192 | 72 => 193 | 73 => 194 | 74 => 195 | 75 => 196 | 59 => 197 | 76 => 198 | 77 => 199 | 88 => 211 | 89 => 167 | 90 => 168 | 91 => 212 | 92 => 213 | 68 => 115 | 96 => 217 | n => n, fun | 22 => 22 | 23 => 3 | 3 => 3 | 51 => 140 | 0 => 0 | 67 => 180 | 69 => 182 | 4 => 4 | 61 => 173 | 60 => 172 | 44 => 177 | 5 => 5 | 9 => 9 | 75 => 200 | 79 => 204 | 83 => 221 | 84 => 134 | n => n, fun | n => n⟩
theorem Tryz.sortInt : Go.Proofs.SlLaysN.n53 Tryz.prog Tryz.sortInt_ren := {
  mixed := by kernel_rfl
  f53 := ⟨Tryz.f121.name, by decide, Tryz.func121.trans (congrArg some (by kernel_rfl))⟩
  f59 := ⟨Tryz.f197.name, by decide, Tryz.func197.trans (congrArg some (by kernel_rfl))⟩
  f63 := ⟨Tryz.f165.name, by decide, Tryz.func165.trans (congrArg some (by kernel_rfl))⟩
  f64 := Tryz.func91.trans (congrArg some (by kernel_rfl))
  f68 := ⟨Tryz.f115.name, by decide, Tryz.func115.trans (congrArg some (by kernel_rfl))⟩
  f70 := ⟨Tryz.f191.name, by decide, Tryz.func191.trans (congrArg some (by kernel_rfl))⟩
  f71 := ⟨Tryz.f192.name, by decide, Tryz.func192.trans (congrArg some (by kernel_rfl))⟩
  f72 := ⟨Tryz.f193.name, by decide, Tryz.func193.trans (congrArg some (by kernel_rfl))⟩
  f73 := ⟨Tryz.f194.name, by decide, Tryz.func194.trans (congrArg some (by kernel_rfl))⟩
  f74 := ⟨Tryz.f195.name, by decide, Tryz.func195.trans (congrArg some (by kernel_rfl))⟩
  f75 := ⟨Tryz.f196.name, by decide, Tryz.func196.trans (congrArg some (by kernel_rfl))⟩
  f76 := ⟨Tryz.f198.name, by decide, Tryz.func198.trans (congrArg some (by kernel_rfl))⟩
  f77 := ⟨Tryz.f199.name, by decide, Tryz.func199.trans (congrArg some (by kernel_rfl))⟩
  f78 := Tryz.func131.trans (congrArg some (by kernel_rfl))
  f79 := Tryz.func132.trans (congrArg some (by kernel_rfl))
  f88 := ⟨Tryz.f211.name, by decide, Tryz.func211.trans (congrArg some (by kernel_rfl))⟩
  f89 := Tryz.func167.trans (congrArg some (by kernel_rfl))
  f90 := Tryz.func168.trans (congrArg some (by kernel_rfl))
  f91 := ⟨Tryz.f212.name, by decide, Tryz.func212.trans (congrArg some (by kernel_rfl))⟩
  f92 := ⟨Tryz.f213.name, by decide, Tryz.func213.trans (congrArg some (by kernel_rfl))⟩
  f96 := ⟨Tryz.f217.name, by decide, Tryz.func217.trans (congrArg some (by kernel_rfl))⟩
  t0 := Tryz.underlying0
  a0 := Tryz.isAgg0
  z0 := Tryz.sizeOf0
  v0 := Tryz.zeroValue0
  t3 := Tryz.underlying3
  a3 := Tryz.isAgg3
  z3 := Tryz.sizeOf3
  v3 := Tryz.zeroValue3
  t4 := Tryz.underlying4
  a4 := Tryz.isAgg4
  z4 := Tryz.sizeOf4
  v4 := Tryz.zeroValue4
  t5 := Tryz.underlying5
  a5 := Tryz.isAgg5
  z5 := Tryz.sizeOf5
  v5 := Tryz.zeroValue5
  t9 := Tryz.underlying9
  a9 := Tryz.isAgg9
  z9 := Tryz.sizeOf9
  v9 := Tryz.zeroValue9
  t22 := Tryz.underlying22
  a22 := Tryz.isAgg22
  z22 := Tryz.sizeOf22
  v22 := Tryz.zeroValue22
  t23 := Tryz.underlying3
  a23 := Tryz.isAgg3
  z23 := Tryz.sizeOf3
  v23 := Tryz.zeroValue3
  t44 := Tryz.underlying177
  a44 := Tryz.isAgg177
  z44 := Tryz.sizeOf177
  v44 := Tryz.zeroValue177
  t51 := Tryz.underlying140
  a51 := Tryz.isAgg140
  z51 := Tryz.sizeOf140
  v51 := Tryz.zeroValue140
  t60 := Tryz.underlying172
  a60 := Tryz.isAgg172
  z60 := Tryz.sizeOf172
  v60 := Tryz.zeroValue172
  t61 := Tryz.underlying173
  a61 := Tryz.isAgg173
  z61 := Tryz.sizeOf173
  v61 := Tryz.zeroValue173
  t67 := Tryz.underlying180
  a67 := Tryz.isAgg180
  z67 := Tryz.sizeOf180
  v67 := Tryz.zeroValue180
  t69 := Tryz.underlying182
  a69 := Tryz.isAgg182
  z69 := Tryz.sizeOf182
  v69 := Tryz.zeroValue182
  t75 := Tryz.underlying200
  a75 := Tryz.isAgg200
  z75 := Tryz.sizeOf200
  v75 := Tryz.zeroValue200
  t79 := Tryz.underlying204
  a79 := Tryz.isAgg204
  z79 := Tryz.sizeOf204
  v79 := Tryz.zeroValue204
  t83 := Tryz.underlying221
  a83 := Tryz.isAgg221
  z83 := Tryz.sizeOf221
  v83 := Tryz.zeroValue221
  t84 := Tryz.underlying134
  a84 := Tryz.isAgg134
  z84 := Tryz.sizeOf134
  v84 := Tryz.zeroValue134 }
end Go.Proofs

namespace Go.Gv
set_option linter.unusedSimpArgs false
set_option linter.unusedVariables false
open Cod (enc dec)
open Go.Proofs Go.Sort Go.Shelf Go.Lib Go.RowKit
section
variable {P : Program} {ρ : Ren}
theorem tri_sortInt {fsort : Nat} (L : SlLaysN.n53 P ρ) (hf : ρ.f 53 = fsort) (ef : CallEnter P fsort) : Tri P fsort s_Sort_int.pt := by
  subst hf
  have hev : ∀ x : Int, enc x = D.v (.int .i64 x) := fun _ => rfl
  intro O tp w vs ds H d K hO' htl hsat hlen hargs hA
  obtain ⟨id, v, l, ds', x, rfl, hd, hid, hl5, hK⟩ := hA
  have hds : ds' = [] := by
    match ds', hd with
    | [], h => rfl
    | a :: r, h => cases h
  subst hds
  match vs, hlen, hargs with
  | [v0], _, hargs =>
  have e0 : v0 = v := by
    have := hargs 0 v0 _ rfl rfl
    cases this; rfl
  subst e0
  refine ⟨ef, ?_⟩
  obtain ⟨xs, ⟨hxl, hx⟩, hkn, hcells⟩ := hsat.ok id _ hid
  rcases hx with ⟨rfl, h0⟩ | ⟨gb, cap, cur, rfl, _, hgb, hcap, hcapm, hsz, htake⟩
  · have hl0 : l = [] := by simpa using h0
    subst hl0
    refine (AnyG.slices_Sort_int_none L none 0 w).mono ?_
    rintro e w' ⟨rfl, rfl⟩
    have hH : updH H id (some (.row (.slice none 0 0) ty_int 1 (([] : List Int).map enc))) = H := by
      funext i
      simp only [updH]
      by_cases hi : i = id
      · subst hi; simp [hid]
      · simp [hi]
    refine ⟨_, _, _, tp, rfl, hK [] (by simp), fun b h => h, fun b h => .inl h, htl, .refl _ _ _, fun b h => .inl (by rwa [hH] at h), by rw [hH]; exact hsat, .tup [] [] rfl (fun k x c h => by simp at h)⟩
  · have hll : (l.map (enc (X := Int))).length = l.length := by simp
    rw [hll] at hcap hxl htake ⊢
    have hval : ∀ (j : Nat) (y v' : Value), xs[j]? = some y → (flat (l.map enc))[j]? = some (.v v') → y = v' := fun j y v' h1 h2 => ((hcells j y _ h1 h2).2).inv_v
    have hflg : ∀ l : List Int, flat (l.map enc) = (l.map (Value.int .i64)).map D.v := fun l => by
      unfold flat
      rw [List.flatMap_map, List.map_map]
      induction l with
      | nil => rfl
      | cons a l ih => rw [List.flatMap_cons, List.map_cons, ih]; rfl
    have hxs : xs = l.map (Value.int .i64) := by
      apply List.ext_getElem?
      intro j
      by_cases hj : j < l.length
      · have e1 : xs[j]? = some xs[j] := List.getElem?_eq_getElem (by omega)
        have e2 : (l.map (Value.int .i64))[j]? = some (.int .i64 l[j]) := by simp [hj]
        rw [e1, e2]
        congr 1
        refine hval j _ _ e1 ?_
        rw [hflg, List.getElem?_map, e2]; rfl
      · rw [List.getElem?_eq_none (by omega), List.getElem?_eq_none (by simp; omega)]
    have hcur : ∀ j, j < l.length → cur[j]? = (l.map (Value.int .i64))[j]? := fun j hj => by
      rw [← hxs, ← htake, List.getElem?_take, if_pos (by omega), Array.getElem?_toList]
    have hgs : gb < w.heap.size := (Array.getElem?_eq_some_iff.1 hgb).1
    have hH : Holds (Value.int .i64) w gb 0 l.toArray := by
      intro j hj
      have hj' : j < l.length := by simpa using hj
      refine ⟨?_, frozen_plain hgb⟩
      rw [cell_plain hgb, Nat.zero_add, hcur j hj', getElem!_pos _ j hj]
      simp [hj']
    have hcall := AnyG.slices_Sort_int L gb 0 cap l w hH hgs (by omega)
    refine hcall.mono ?_
    rintro e w' ⟨rfl, n, os, hw'⟩
    have hmem : ∀ x, x ∈ l.mergeSort (fun x y => decide (x ≤ y)) ↔ x ∈ l := fun x => List.mem_mergeSort
    have hlen' : (l.mergeSort fun x y => decide (x ≤ y)).length = l.length := by simp
    generalize hl' : (l.mergeSort fun x y => decide (x ≤ y)) = l' at hw' hmem hlen'
    have hwo : ∀ b, b < w.heap.size → b ≠ gb → w'.heap[b]? = w.heap[b]? := fun b hb hne => by
      rw [hw']; exact put_other (w := Sort.ahead w n) hb hne
    have hthis : w'.heap[gb]? = some (.cells (putCells (Value.int .i64) 0 l'.toArray cur) ty_int (0, 0)) := by
      rw [hw']; exact put_this (w := Sort.ahead w n) hgb
    have hws : w.heap.size ≤ w'.heap.size := by
      rw [hw']; simp [grow, putRow, mapBlock, Sort.ahead]
    have hos : w'.os = w.os ∧ w'.tape = w.tape ∧ w'.output = w.output ∧ w.drawn ≤ w'.drawn := by
      rw [hw']; exact ⟨rfl, rfl, rfl, Nat.le_add_right _ _⟩
    clear hw' hcall
    have hbo : (Res.row (.slice (some ⟨gb, 0, none⟩) l.length cap) ty_int 1 (l.map (enc (X := Int)))).blk = some gb := rfl
    have hid' : H id = some (.row (.slice (some ⟨gb, 0, none⟩) l.length cap) ty_int 1 (l.map enc)) := by rw [hid, hll]
    have hown : owns H gb := ⟨id, _, hid', hbo⟩
    have htp : ∀ b, tp b → b ≠ gb := fun b hb e => (hsat.out id _ gb hid' hbo).2 (e ▸ hb)
    have htapes : ∀ b, tp b → TapeStep w w' b := fun b hb => .same (hwo b (htl b hb) (htp b hb))
    have hK' := hK l' ⟨hlen', hmem⟩
    rw [hll] at hK'
    generalize hH2 : updH H id (some (.row (.slice (some ⟨gb, 0, none⟩) l.length cap) ty_int 1 (l'.map enc))) = H2 at hK'
    have hown2 : ∀ b, owns H2 b → owns H b := fun b ⟨i, r, h1, h2⟩ => by
      rw [← hH2] at h1
      simp only [updH] at h1
      split at h1
      · cases h1; cases h2; exact hown
      · exact ⟨i, r, h1, h2⟩
    have hmove : ∀ y c, R tp (Imm O tp H w) w y c → R tp (Imm O tp H2 w') w' y c := fun y c hr => hr.mono (fun _ h => h) (fun b hb => ⟨⟨Nat.lt_of_lt_of_le hb.1 hws, hb.2.1, hb.2.2.1, fun h => hb.2.2.2 (hown2 b h)⟩, hwo b hb.1 (fun e => hb.2.2.2 (e ▸ hown))⟩) htapes
    have hget : ∀ i r, H2 i = some r → (i = id ∧ r = .row (.slice (some ⟨gb, 0, none⟩) l.length cap) ty_int 1 (l'.map enc)) ∨ (i ≠ id ∧ H i = some r) := fun i r h => by
      rw [← hH2] at h
      simp only [updH] at h
      split at h
      · rename_i e; cases h; exact .inl ⟨e, rfl⟩
      · rename_i e; exact .inr ⟨e, h⟩
    refine ⟨_, _, H2, tp, rfl, hK', fun b h => h, fun b h => .inl h, fun b hb => Nat.lt_of_lt_of_le (htl b hb) hws, ⟨hos.1, hos.2.1, hos.2.2.1, hws, fun b hb ho ht => hwo b hb (fun e => ho (e ▸ hown)), htapes, hos.2.2.2⟩, fun b h => .inl (hown2 b h), ⟨?_, ?_, ?_⟩, .tup [] [] rfl (fun k x c h => by simp at h)⟩
    · intro i j r s b h1 h2 h3 h4
      rcases hget i r h1 with ⟨rfl, rfl⟩ | ⟨n1, k1⟩
      · rcases hget j s h2 with ⟨rfl, rfl⟩ | ⟨n2, k2⟩
        · rfl
        · exact hsat.dis _ j _ s b hid' k2 h3 h4
      · rcases hget j s h2 with ⟨rfl, rfl⟩ | ⟨n2, k2⟩
        · exact hsat.dis i _ r _ b k1 hid' h3 h4
        · exact hsat.dis i j r s b k1 k2 h3 h4
    · intro i r b h1 h2
      rcases hget i r h1 with ⟨rfl, rfl⟩ | ⟨n1, k1⟩
      · exact hsat.out _ _ b hid' h2
      · exact hsat.out i r b k1 h2
    · intro i r h1
      rcases hget i r h1 with ⟨rfl, rfl⟩ | ⟨n1, k1⟩
      · have hps : (putCells (Value.int .i64) 0 l'.toArray cur).size = cur.size := by simp [putCells]
        refine ⟨l'.map (Value.int .i64), ⟨by simp, .inr ⟨gb, cap, _, by simp [hlen'], Nat.zero_le _, hthis, by simp; omega, hcapm, by rw [hps, hsz], ?_⟩⟩, fun d hd => ?_, fun j y c h1 h2 => ?_⟩
        · simp only [List.length_map, hlen']
          apply List.ext_getElem?
          intro j
          rw [List.getElem?_take]
          by_cases hj : j < l.length
          · have hjc : j < cur.size := by omega
            have hjf : j < l'.toArray.size := by simp [hlen']; exact hj
            have hjl : j < l'.length := by omega
            rw [if_pos (by omega), Array.getElem?_toList]
            simp only [putCells, Array.getElem?_mapIdx, Array.getElem?_eq_getElem hjc, Option.map_some, Nat.zero_le, Nat.zero_add, hjf, and_self, if_true, Nat.sub_zero]
            rw [getElem!_pos _ j hjf]
            simp [hjl]
          · rw [if_neg (by omega), List.getElem?_eq_none (by simp; omega)]
        · obtain ⟨z, _, rfl⟩ := List.mem_map.1 hd
          exact ⟨Cod.kn z, Cod.wid z⟩
        · rw [hflg, List.getElem?_map, h1] at h2
          cases h2
          obtain ⟨z, _, rfl⟩ := List.mem_map.1 (List.mem_of_getElem? h1)
          exact ⟨rfl, .v _ rfl (fun s h => by cases h)⟩
      · have hne : ∀ b, r.blk = some b → b ≠ gb := fun b hb e => n1 (hsat.dis i id r _ gb k1 hid' (e ▸ hb) hbo)
        exact (hsat.ok i r k1).conv hmove (fun b hb => hwo b ((hsat.ok i r k1).lt hb) (hne b hb))
end
end Go.Gv
