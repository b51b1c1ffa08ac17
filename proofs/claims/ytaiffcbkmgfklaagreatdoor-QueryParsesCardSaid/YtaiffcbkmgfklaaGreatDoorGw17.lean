/- A part of the framework and of the walks: W32 W36 W37 W60 W83 W77 T25 T26. -/
import Derived.Test.YtaiffcbkmgfklaaGreatDoorGw14
import Derived.Test.YtaiffcbkmgfklaaGreatDoorGw15
import Derived.Test.YtaiffcbkmgfklaaGreatDoorGw16
import Derived.Test.YtaiffcbkmgfklaaGreatDoorGw12
import Derived.Test.YtaiffcbkmgfklaaGreatDoorGw11
set_option linter.unusedSimpArgs false
set_option linter.unusedVariables false
set_option maxRecDepth 100000
set_option linter.unusedSectionVars false

namespace Go.Gv
open Cod (enc dec)
variable {S S0 : Nat → Spc}
abbrev s_zero : Spc := spc (a1 Cond) (fun _ => True) (enc (X := Bool)) fun x y => (y = true ↔ x = Cond0)
theorem w_query_zero : Walk cc_query_zero rs_query_zero S (a1 Cond) (fun _ => True) (enc (X := Bool)) fun x y => (y = true ↔ x = Cond0) := by
 rintro ⟨op, n, a, v, l, f, ks⟩ -
 simp [cc_query_zero, rs_query_zero, Cond0]
 repeat' first | apply And.intro | intro _
 all_goals simp_all
abbrev s_node : Spc := spc (a1 Pat) (fun _ => True) (enc (X := Bool)) fun x y => y = nodeB x
theorem w_query_node (h1 : S f_query_zero = s_zero) : Walk cc_query_node rs_query_node S (a1 Pat) (fun _ => True) (enc (X := Bool)) fun x y => y = nodeB x := by
 rintro p -
 simp [cc_query_node, rs_query_node, h1, -Bool.forall_bool]
 clear h1
 repeat' first | apply And.intro | intro _
 all_goals (rw [Bool.eq_iff_iff, nodeB_iff]; unfold NodeOk; simp_all; try omega)
abbrev s_named : Spc := spc (a1 Pat) (fun _ => True) (enc (X := Bool)) fun x y => y = nameB validN x
theorem w_query_named (h1 : S f_markup_ValidName = s_validN) : Walk cc_query_named rs_query_named S (a1 Pat) (fun _ => True) (enc (X := Bool)) fun x y => y = nameB validN x := by
 rintro p -
 simp [cc_query_named, rs_query_named, h1, nameB, -Bool.forall_bool]
 clear h1
 repeat' first | apply And.intro | intro _
 all_goals (first | omega | simp_all; try omega)
abbrev s_ranged : Spc := spc (a1 Pat) (fun _ => True) (enc (X := Bool)) fun x y => y = numB x
theorem w_query_ranged : Walk cc_query_ranged rs_query_ranged S (a1 Pat) (fun _ => True) (enc (X := Bool)) fun x y => y = numB x := by
 rintro p -
 simp [cc_query_ranged, rs_query_ranged, numB]
 repeat' first | apply And.intro | intro _
 all_goals (first | omega | (rw [Bool.eq_iff_iff]; simp; omega))
end Go.Gv

namespace Go.Gv
open Cod (enc dec)
variable {S S0 : Nat → Spc}
theorem w_query_size (n : Nat) (h1 : S f_query_size = s_size n) : Walk cc_query_size rs_query_size S (a1 Pat) (PPat (n + 1)) (enc (X := Int)) fun x y => y = sizeP x := by
 rintro p hp
 have hk : ∀ k ∈ p.kids, PPat n k := fun k => hp.kid
 have hs : ∀ k ∈ p.kids, 0 ≤ sizeP k ∧ sizeP k ≤ 1000 := fun k h => sizeP_rng (v := validN) k (hk k h).2
 simp [cc_query_size, rs_query_size]
 intro _
 refine vc_range (X := Int) [1, 7] [] p.kids.length (fun k n => n = sizePs (p.kids.take k) 0) (fun n => [(3, enc n)]) (fun _ => []) 0 (by simp) (by simp) (by omega) (by simp) (by simp) (by simp [sizePs]) (by simp) (by simp) ?_ ?_
 ·rintro k m hkl hP
  obtain ⟨x, hx⟩ := at_lt hkl
  have hx1 := mem_at hx
  obtain ⟨_, hgx⟩ := List.getElem?_eq_some_iff.1 hx
  have hm := sizePs_rng (p.kids.take k) 0 (by omega) (by omega) (fun y hy => (hs y (List.mem_of_mem_take hy)).1)
  have h2 := hs x hx1
  rw [← hP] at hm
  have q1 := hk x hx1
  simp [h1, hkl, hx, hgx, q1]
  refine ⟨by simp only [InR]; omega, ?_⟩
  rw [take_snoc hx, sizePs_app, ← hP, sizePs, sizePs]
 ·rintro m hP
  have hm := sizePs_rng (p.kids.take p.kids.length) 0 (by omega) (by omega) (fun y hy => (hs y (List.mem_of_mem_take hy)).1)
  rw [← hP] at hm
  rw [List.take_length] at hP
  have hn := (patB_node hp.2).2.2
  unfold numB at hn
  rw [decide_eq_true_eq] at hn
  rw [sizeP_eq, sizeN, ← hP]
  simp
  intro _
  refine ⟨fun h => fun h' => absurd h h', fun h0 => ⟨fun h6 => ?_, fun h6 => by rw [if_neg h0, if_neg h6]⟩⟩
  rw [if_neg h0, if_pos h6]
  have hn := hn h6
  refine ⟨fun e => by rw [if_neg (by omega), if_pos e], fun e => ⟨fun e2 => ?_, fun e2 => ?_⟩⟩
  ·have h2 := mul_rng hm.1 hm.2 (show 0 ≤ p.mn + 1 by omega) (show p.mn + 1 ≤ 17 by omega)
   rw [if_pos (by omega)]
   exact ⟨by simp only [InR]; omega, by simp only [InR]; omega, rfl⟩
  ·have h2 := mul_rng hm.1 hm.2 (show 0 ≤ p.mx by omega) (show p.mx ≤ 16 by omega)
   rw [if_neg (by omega), if_neg e]
   exact ⟨by simp only [InR]; omega, rfl⟩
theorem w_query_Size (h1 : S f_query_right = s_r23_IsPattern) (h2 : S f_query_size = s_sizeA) : Walk cc_query_Size rs_query_Size S (a1 Pat) (fun _ => True) (enc (X := Int)) fun x y => y = if patB validN x then sizeP x else 0 := by
 rintro p -
 simp [cc_query_Size, rs_query_Size, h1, h2, -Bool.forall_bool]
 exact ⟨fun h1 h2 => absurd (h1.symm.trans h2) (by simp), fun h1 => ⟨h1, fun h2 => absurd (h2.symm.trans h1) (by simp)⟩⟩
end Go.Gv

namespace Go.Gv
open Cod (enc dec)
variable {S S0 : Nat → Spc}

/-- d is a function that gives p on the members of a list. -/
def FunOn {X Y : Type} [Cod X] [Cod Y] (S : Nat → Spc) (d : D) (l : List X) (p : X → Y) : Prop :=
 ∃ g caps pc, d = .clo g caps ∧ S g = .pure pc ∧ ∀ x ∈ l, pc.pre (enc x :: caps) ∧ ∀ r, pc.post (enc x :: caps) r → r = enc (p x)
theorem FunOn.useB {X : Type} [Cod X] {S : Nat → Spc} {d : D} {l : List X} {p : X → Bool} (h : FunOn S d l p) (x : X) (hx : x ∈ l) {d' : Nat} {H : HMap} {K : D → HMap → Prop} (hk : ∀ y : Bool, (∀ q, FunOn S d l q → y = q x) → K (.v (.bool y)) H) : callX S d d' [enc x] H K := by
 obtain ⟨g, caps, pc, rfl, h1, h2⟩ := h
 simp only [callX, h1, Spc.pt]
 refine ⟨(h2 x hx).1, fun r hr => ?_⟩
 have e := (h2 x hx).2 r hr
 rw [e]
 refine hk (p x) fun q hq => ?_
 obtain ⟨g', caps', pc', e', k1, k2⟩ := hq
 cases e'
 rw [h1] at k1
 cases k1
 exact enc_inj (e.symm.trans ((k2 x hx).2 r hr))
theorem FunIs.on {X Y : Type} [Cod X] [Cod Y] {S : Nat → Spc} {d : D} {p : X → Y} (h : FunIs S d p) (l : List X) : FunOn S d l p := by
 obtain ⟨g, caps, pc, h1, h2, h3⟩ := h
 exact ⟨g, caps, pc, h1, h2, fun x _ => h3 x⟩
theorem funOn_cap {X Y : Type} [Cod X] [Cod Y] {S : Nat → Spc} {g : Nat} {c : D} {l : List X} {pre : X × D × Unit → Prop} {post : X × D × Unit → Y → Prop} {p : X → Y} (h : S g = spc (aE X (aD a0)) pre enc post) (hp : ∀ x ∈ l, pre (x, c, ())) (hq : ∀ x ∈ l, ∀ y, post (x, c, ()) y → y = p x) : FunOn S (.clo g [c]) l p := by
 refine ⟨g, [c], _, rfl, h, fun x hx => ⟨⟨(x, c, ()), by simp, hp x hx⟩, fun r hr => ?_⟩⟩
 obtain ⟨y, rfl, hy⟩ := hr (x, c, ()) (by simp) (hp x hx)
 rw [hq x hx y hy]

theorem pat_agg (x : Pat) : D.agg [D.v (Value.int IntKind.i64 x.op), D.v (Value.int IntKind.i64 x.cond.op), D.v (Value.string x.cond.name), D.v (Value.string x.cond.arg), D.v (Value.string x.cond.val), D.v (Value.string x.cond.lab), D.v (Value.bool x.cond.fold), D.list 7 (List.map enc x.cond.kids), D.v (Value.string x.lab), D.v (Value.string x.reg), D.v (Value.int IntKind.i64 x.mn), D.v (Value.int IntKind.i64 x.mx), D.list 13 (List.map enc x.kids)] = enc x := by simp
def P_IdxP (S0 : Nat → Spc) (x : List Pat × D × Unit) : Prop := ∃ p : Pat → Bool, FunOn S0 x.2.1 x.1 p
def Q_IdxP (S0 : Nat → Spc) (x : List Pat × D × Unit) (y : Int) : Prop := ∀ p : Pat → Bool, FunOn S0 x.2.1 x.1 p → y = idxI x.1 p
abbrev s_IdxP (S0 : Nat → Spc) : Spc := spc (aE (List Pat) (aD a0)) (P_IdxP S0) enc (Q_IdxP S0)
theorem w_slices_IndexFunc_Pattern : Walk cc_slices_IndexFunc_Pattern rs_slices_IndexFunc_Pattern S (aE (List Pat) (aD a0)) (P_IdxP S) enc (Q_IdxP S) := by
 rintro ⟨l, d, ⟨⟩⟩ ⟨p, hp⟩
 simp at hp
 simp [cc_slices_IndexFunc_Pattern, rs_slices_IndexFunc_Pattern]
 intro _
 refine vc_range (X := Unit) [0, 1] [] l.length (fun k _ => ∀ p : Pat → Bool, FunOn S d l p → ∀ x ∈ l.take k, p x = false) (fun _ => []) (fun _ => []) () (by simp) (by simp) (by omega) (by simp) (by simp) (by simp) (by simp) (by simp) ?_ ?_
 ·intro k _ hk hP
  simp
  refine ⟨hk, fun x hx => ?_⟩
  rw [pat_agg x]
  refine hp.useB x (mem_at hx) fun y hy => ?_
  simp
  refine ⟨fun h => ?_, fun h p' hp' => ?_⟩
  ·intro p' hp'
   exact (idxI_at hx (by rw [← hy p' hp', h]) (hP p' hp')).symm
  ·rw [take_snoc hx]
   intro z hz
   rcases List.mem_append.1 hz with hz | hz
   ·exact hP p' hp' z hz
   ·simp at hz; subst hz; rw [← hy p' hp', h]
 ·intro _ hP
  simp
  intro p' hp'
  exact (idxI_none (by simpa using hP p' hp')).symm
def Q_ConP (S0 : Nat → Spc) (x : List Pat × D × Unit) (y : Bool) : Prop := ∀ p : Pat → Bool, FunOn S0 x.2.1 x.1 p → y = x.1.any p
abbrev s_ConP (S0 : Nat → Spc) : Spc := spc (aE (List Pat) (aD a0)) (P_IdxP S0) enc (Q_ConP S0)
theorem w_slices_ContainsFunc_Pattern (h1 : S f_slices_IndexFunc_Pattern = s_IdxP S0) : Walk cc_slices_ContainsFunc_Pattern rs_slices_ContainsFunc_Pattern S (aE (List Pat) (aD a0)) (P_IdxP S0) enc (Q_ConP S0) := by
 rintro ⟨l, d, ⟨⟩⟩ hp
 simp [cc_slices_ContainsFunc_Pattern, rs_slices_ContainsFunc_Pattern, h1, -Bool.forall_bool]
 refine ⟨hp, fun y hy p' hp' => ?_⟩
 rw [hy p' hp']
 exact idxI_ge p' l

abbrev s_shallow (n : Nat) : Spc := spc (a2 Pat Int) (fun x => pDep x.1 ≤ n ∧ 0 ≤ x.2 ∧ x.2 ≤ 101) (enc (X := Bool)) fun x y => y = shallowB x.1 x.2
def P_sh1 (n : Nat) (x : Pat × D × Unit) : Prop := ∃ d : Int, x.2.1 = .cptr [enc d] 0 ∧ pDep x.1 ≤ n ∧ 0 ≤ d ∧ d ≤ 100
def Q_sh1 (x : Pat × D × Unit) (y : Bool) : Prop := ∀ d : Int, x.2.1 = .cptr [enc d] 0 → y = !shallowB x.1 (d + 1)
abbrev s_sh1 (n : Nat) : Spc := spc (aE Pat (aD a0)) (P_sh1 n) enc Q_sh1
theorem w_query_shallow_1 (n : Nat) (h1 : S f_query_shallow = s_shallow n) : Walk cc_query_shallow_1 rs_query_shallow_1 S (aE Pat (aD a0)) (P_sh1 n) enc Q_sh1 := by
 rintro ⟨p, d, ⟨⟩⟩ ⟨e, hd, h2, h3, h4⟩
 simp at hd h2
 subst hd
 simp [cc_query_shallow_1, rs_query_shallow_1, h1, Q_sh1, h2, -Bool.forall_bool]
 exact ⟨by simp only [InR]; omega, by omega⟩
theorem w_query_shallow (n : Nat) (h0 : S0 f_query_shallow_1 = s_sh1 n) (h1 : S f_slices_ContainsFunc_Pattern = s_ConP S0) : Walk cc_query_shallow rs_query_shallow S (a2 Pat Int) (fun x => pDep x.1 ≤ n + 1 ∧ 0 ≤ x.2 ∧ x.2 ≤ 101) (enc (X := Bool)) fun x y => y = shallowB x.1 x.2 := by
 rintro ⟨p, d⟩ ⟨hn, hd0, hd1⟩
 have hk : ∀ k ∈ p.kids, pDep k ≤ n := fun k hk => by have := pDep_kid hk; have : pDep p ≤ n + 1 := hn; omega
 simp only at hd0 hd1
 simp [cc_query_shallow, rs_query_shallow, h1, -Bool.forall_bool]
 rw [shallowB_eq]
 refine ⟨fun h => ?_, fun h => by rw [decide_eq_false (by omega)]; rfl⟩
 have hf : FunOn S0 (.clo f_query_shallow_1 [.cptr [.v (.int .i64 d)] 0]) p.kids fun x => !shallowB x (d + 1) :=
  funOn_cap h0 (fun x hx => ⟨d, rfl, hk x hx, hd0, h⟩) (fun x _ y hy => hy d rfl)
 refine ⟨⟨_, hf⟩, fun y hy => ?_⟩
 rw [hy _ hf, decide_eq_true h, Bool.true_and]
 simp [List.any_eq_not_all_not]
def P_ev1 (S0 : Nat → Spc) (n : Nat) (x : Pat × D × Unit) : Prop := ∃ (d : D) (f : Pat → Bool), x.2.1 = .cptr [d] 0 ∧ FunIs S0 d f ∧ pDep x.1 ≤ n
def Q_ev1 (S0 : Nat → Spc) (x : Pat × D × Unit) (y : Bool) : Prop := ∀ (d : D) (f : Pat → Bool), x.2.1 = .cptr [d] 0 → FunIs S0 d f → y = !everyB f x.1
abbrev s_every (S0 : Nat → Spc) (n : Nat) : Spc := spc (aE Pat (aD a0)) (fun x => ∃ f : Pat → Bool, FunIs S0 x.2.1 f ∧ pDep x.1 ≤ n) enc fun x y => ∀ f : Pat → Bool, FunIs S0 x.2.1 f → y = everyB f x.1
abbrev s_ev1 (S0 : Nat → Spc) (n : Nat) : Spc := spc (aE Pat (aD a0)) (P_ev1 S0 n) enc (Q_ev1 S0)
theorem w_query_every_1 (n : Nat) (h1 : S f_query_every = s_every S0 n) : Walk cc_query_every_1 rs_query_every_1 S (aE Pat (aD a0)) (P_ev1 S0 n) enc (Q_ev1 S0) := by
 rintro ⟨p, d, ⟨⟩⟩ ⟨e, f, hd, h2, h3⟩
 simp at hd h3
 subst hd
 simp [cc_query_every_1, rs_query_every_1, h1, Q_ev1, h3, -Bool.forall_bool]
 exact ⟨⟨f, h2⟩, fun y hy d g e hg => by subst e; exact hy g hg⟩
theorem w_query_every {N : Nat → Spc} (n : Nat) (hN : ∀ (d : D) (f : Pat → Bool), FunIs N d f → FunIs S d f) (h0 : S0 f_query_every_1 = s_ev1 N n) (h1 : S f_slices_ContainsFunc_Pattern = s_ConP S0) : Walk cc_query_every rs_query_every S (aE Pat (aD a0)) (fun x => ∃ f : Pat → Bool, FunIs N x.2.1 f ∧ pDep x.1 ≤ n + 1) enc fun x y => ∀ f : Pat → Bool, FunIs N x.2.1 f → y = everyB f x.1 := by
 rintro ⟨p, d, ⟨⟩⟩ ⟨f, hf, hn⟩
 have hk : ∀ k ∈ p.kids, pDep k ≤ n := fun k hk => by have := pDep_kid hk; have : pDep p ≤ n + 1 := hn; omega
 simp at hf
 have hd1 : d.kn = true ∧ d.cells = [d] := by obtain ⟨g, caps, pc, rfl, _⟩ := hf; exact ⟨rfl, rfl⟩
 simp [cc_query_every, rs_query_every, h1, hd1, -Bool.forall_bool]
 rw [pat_agg p]
 refine ((hN d f hf).on [p]).useB p (by simp) fun y hy => ?_
 have hy : ∀ f, FunIs N d f → y = f p := fun f hf => hy f ((hN d f hf).on [p])
 simp [h1, -Bool.forall_bool]
 refine ⟨fun ht => ?_, fun hff g hg => by rw [everyB_eq, ← hy g hg, hff]; rfl⟩
 have hO : ∀ g, FunIs N d g → FunOn S0 (.clo f_query_every_1 [.cptr [d] 0]) p.kids fun x => !everyB g x := fun g hg =>
  funOn_cap h0 (fun x hx => ⟨d, g, rfl, hg, hk x hx⟩) (fun x _ y hy => hy d g rfl hg)
 refine ⟨⟨_, hO f hf⟩, fun z hz g hg => ?_⟩
 rw [hz _ (hO g hg), everyB_eq, ← hy g hg, ht, Bool.true_and]
 simp [List.any_eq_not_all_not]
abbrev s_shallowA : Spc := spc (a2 Pat Int) (fun x => 0 ≤ x.2 ∧ x.2 ≤ 101) (enc (X := Bool)) fun x y => y = shallowB x.1 x.2
abbrev s_everyA (N : Nat → Spc) : Spc := spc (aE Pat (aD a0)) (fun x => ∃ f : Pat → Bool, FunIs N x.2.1 f) enc fun x y => ∀ f : Pat → Bool, FunIs N x.2.1 f → y = everyB f x.1
abbrev s_Shape : Spc := spc (a1 Pat) (fun _ => True) (enc (X := Bool)) fun x y => y = (shallowB x 1 && everyB nodeB x)
theorem funIs_nm {X : Type} [Cod X] {S : Nat → Spc} {g : Nat} {pre : X → Prop} {p : X → Bool} (h : S g = spc (a1 X) pre enc fun x y => y = p x) (hp : ∀ x, pre x) : FunIs S (.clo g []) p := by
 refine ⟨g, [], _, rfl, h, fun x => ⟨⟨x, by simp, hp x⟩, fun r hr => ?_⟩⟩
 obtain ⟨y, rfl, hy⟩ := hr x (by simp) (hp x)
 rw [hy]
theorem w_query_Shape {N : Nat → Spc} (h0 : N f_query_node = s_node) (h1 : S f_query_shallow = s_shallowA) (h2 : S f_query_every = s_everyA N) : Walk cc_query_Shape rs_query_Shape S (a1 Pat) (fun _ => True) (enc (X := Bool)) fun x y => y = (shallowB x 1 && everyB nodeB x) := by
 rintro p -
 have f1 : FunIs N (.clo f_query_node []) nodeB := funIs_nm h0 fun _ => trivial
 simp [cc_query_Shape, rs_query_Shape, h1, h2, -Bool.forall_bool]
 refine ⟨fun h => ⟨⟨_, f1⟩, fun y hy => by rw [hy _ f1, h]; rfl⟩, fun h h' => absurd (h.symm.trans h') (by simp)⟩
theorem w_query_right {N : Nat → Spc} (h0 : N f_query_named = s_named) (h0' : N f_query_ranged = s_ranged) (h1 : S f_query_Shape = s_Shape) (h2 : S f_query_every = s_everyA N) : Walk cc_query_right rs_query_right S (a1 Pat) (fun _ => True) (enc (X := Bool)) fun x y => y = patB validN x := by
 rintro p -
 have f1 : FunIs N (.clo f_query_named []) (nameB validN) := funIs_nm h0 fun _ => trivial
 have f2 : FunIs N (.clo f_query_ranged []) numB := funIs_nm h0' fun _ => trivial
 simp [cc_query_right, rs_query_right, h1, h2, -Bool.forall_bool]
 unfold patB
 refine ⟨fun h1 h2 => ⟨⟨_, f1⟩, fun y hy => ?_⟩, fun h => ?_⟩
 ·have hy := hy _ f1
  refine ⟨fun ht => ⟨⟨_, f2⟩, fun z hz => ?_⟩, fun hf => ?_⟩
  ·rw [hz _ f2, h1, h2, ← hy, ht]; rfl
  ·rw [← hy, hf]; simp
 ·rcases hs : shallowB p 1
  ·rfl
  ·rw [h hs]; rfl
end Go.Gv

namespace Go.Gv
open Cod (enc dec)
variable {S S0 : Nat → Spc}
abbrev s_q_letter : Spc := spc (a1 U8) (fun _ => True) (enc (X := Bool)) fun x y => y = letP x
theorem w_query_letter : Walk cc_query_letter rs_query_letter S (a1 U8) (fun _ => True) (enc (X := Bool)) fun x y => y = letP x := by
 rintro ⟨c⟩ -
 simp [cc_query_letter, rs_query_letter, letP, begB]
 repeat' first | apply And.intro | intro _
 all_goals first | omega | (rw [Bool.eq_iff_iff]; simp; omega)
abbrev s_q_digit : Spc := spc (a1 U8) (fun _ => True) (enc (X := Bool)) fun x y => y = digP x
theorem w_query_digit : Walk cc_query_digit rs_query_digit S (a1 U8) (fun _ => True) (enc (X := Bool)) fun x y => y = digP x := by
 rintro ⟨c⟩ -
 simp [cc_query_digit, rs_query_digit, digP]
 repeat' first | apply And.intro | intro _
 all_goals first | omega | (rw [Bool.eq_iff_iff]; simp; omega)
abbrev s_q_space : Spc := spc (a1 U8) (fun _ => True) (enc (X := Bool)) fun x y => y = spP x
theorem w_query_lex_1 : Walk cc_query_lex_1 rs_query_lex_1 S (a1 U8) (fun _ => True) (enc (X := Bool)) fun x y => y = spP x := by
 rintro ⟨c⟩ -
 simp [cc_query_lex_1, rs_query_lex_1, spP]
 repeat' first | apply And.intro | intro _
 all_goals first | omega | (rw [Bool.eq_iff_iff]; simp; omega)
abbrev s_q_name : Spc := spc (a1 U8) (fun _ => True) (enc (X := Bool)) fun x y => y = namP x
theorem w_query_lex_2 (h1 : S f_query_letter = s_q_letter) (h2 : S f_query_digit = s_q_digit) : Walk cc_query_lex_2 rs_query_lex_2 S (a1 U8) (fun _ => True) (enc (X := Bool)) fun x y => y = namP x := by
 rintro ⟨c⟩ -
 simp [cc_query_lex_2, rs_query_lex_2, h1, h2, namP, -Bool.forall_bool]
 rcases letP ⟨c⟩ <;> rcases digP ⟨c⟩ <;> simp
def P_run (S0 : Nat → Spc) (x : B × Int × D × Unit) : Prop := (∃ p : U8 → Bool, FunIs S0 x.2.2.1 p) ∧ 0 ≤ x.2.1 ∧ x.2.1 ≤ x.1.size
def Q_run (S0 : Nat → Spc) (x : B × Int × D × Unit) (y : Int) : Prop := ∀ p : U8 → Bool, FunIs S0 x.2.2.1 p → y = runP p x.1 x.2.1.toNat
abbrev s_q_run (S0 : Nat → Spc) : Spc := spc (aE B (aE Int (aD a0))) (P_run S0) enc (Q_run S0)
theorem w_query_run : Walk cc_query_run rs_query_run S (aE B (aE Int (aD a0))) (P_run S) enc (Q_run S) := by
 rintro ⟨s, i, d, ⟨⟩⟩ ⟨⟨p, hp⟩, h0, h1⟩
 simp only at hp h0 h1
 simp [cc_query_run, rs_query_run]
 refine vc_while (X := Nat) [0, 2] [] (fun k => k ≤ s.size ∧ ∀ q : U8 → Bool, FunIs S d q → runP q s k = runP q s i.toNat) (fun k => [(1, enc (k : Int))]) (fun _ => []) (fun k => s.size - k) i.toNat ⟨by omega, fun _ _ => rfl⟩ (by simp; omega) (by simp) ?_
 rintro k ⟨hk, hq⟩
 simp
 refine fun hsz => ⟨fun hlt => ⟨hlt, fun c hc => ?_⟩, fun hge q hf => ?_⟩
 ·refine hp.useB (⟨c.toNat⟩ : U8) fun y hy => ?_
  simp
  refine ⟨fun hb => ⟨by simp only [InR]; omega, k + 1, ⟨by omega, fun q hf => ?_⟩, by omega, by omega⟩, fun hb q hf => ?_⟩
  ·rw [← hq q hf, runP_step hc, if_pos (by rw [← hy q hf]; exact hb)]
  ·show (k : Int) = _
   rw [← hq q hf, runP_step hc, if_neg (by rw [← hy q hf, hb]; simp)]
 ·show (k : Int) = _
  rw [← hq q hf, runP_end hge]
/-! ### Functions of strings.HasPrefix, IndexByte -/
abbrev s_hasPrefix : Spc := spc (a2 B B) (fun _ => True) (enc (X := Bool)) fun x y => y = preB x.1 0 x.2
theorem w_stringslite_HasPrefix : Walk cc_internal_stringslite_HasPrefix rs_internal_stringslite_HasPrefix S (a2 B B) (fun _ => True) (enc (X := Bool)) fun x y => y = preB x.1 0 x.2 := by
 rintro ⟨s, t⟩ -
 simp [cc_internal_stringslite_HasPrefix, rs_internal_stringslite_HasPrefix]
 refine fun _ _ => ⟨fun h _ => ⟨h, ?_⟩, fun h => ?_⟩
 ·unfold preB
  rw [Nat.zero_add, Bool.eq_iff_iff]
  simp [h]
 ·unfold preB
  rw [Nat.zero_add, decide_eq_false]
  omega
theorem w_strings_HasPrefix (h1 : S f_internal_stringslite_HasPrefix = s_hasPrefix) : Walk cc_strings_HasPrefix rs_strings_HasPrefix S (a2 B B) (fun _ => True) (enc (X := Bool)) fun x y => y = preB x.1 0 x.2 := by
 rintro ⟨s, t⟩ -
 simp [cc_strings_HasPrefix, rs_strings_HasPrefix, h1]
/-- where a byte stands first -/
def idxB (s : B) (c : U8) : Int := match s.data.toList.findIdx? (fun x => decide ((x.toNat : Int) = c.val)) with
 | some k => k
 | none => -1
abbrev s_indexByte : Spc := spc (a2 B U8) (fun x => 0 ≤ x.2.val ∧ x.2.val < 256) (enc (X := Int)) fun x y => y = idxB x.1 x.2
theorem w_strings_IndexByte (h1 : S f_internal_stringslite_IndexByte = s_indexByte) : Walk cc_strings_IndexByte rs_strings_IndexByte S (a2 B U8) (fun x => 0 ≤ x.2.val ∧ x.2.val < 256) (enc (X := Int)) fun x y => y = idxB x.1 x.2 := by
 rintro ⟨s, c⟩ ⟨c0, c1⟩
 simp only at c0 c1
 simp [cc_strings_IndexByte, rs_strings_IndexByte, h1, c0, c1]
abbrev s_idx_string : Spc := spc (a2 (List B) B) (fun _ => True) (enc (X := Int)) fun x y => y = idxI x.1 (fun z => decide (x.2 = z))
theorem w_slices_Index_string : Walk cc_slices_Index_string rs_slices_Index_string S (a2 (List B) B) (fun _ => True) (enc (X := Int)) fun x y => y = idxI x.1 (fun z => decide (x.2 = z)) := by
 rintro ⟨l, v⟩ -
 simp [cc_slices_Index_string, rs_slices_Index_string]
 intro _
 refine vc_range (X := Unit) [0, 1] [] l.length (fun k _ => ∀ x ∈ l.take k, decide (v = x) = false) (fun _ => []) (fun _ => []) () (by simp) (by simp) (by omega) (by simp) (by simp) (by simp) (by simp) (by simp) ?_ ?_
 ·rintro k - hk hP
  obtain ⟨x, hx⟩ := at_lt hk
  obtain ⟨_, hgx⟩ := List.getElem?_eq_some_iff.1 hx
  simp [hk, hx, hgx]
  refine ⟨fun h => ?_, fun h z hz => ?_⟩
  ·exact (idxI_at hx (by simp [h]) hP).symm
  ·rw [take_snoc hx] at hz
   rcases List.mem_append.1 hz with hz | hz
   ·simpa using hP z hz
   ·simp at hz; subst hz; exact h
 ·rintro - hP
  simp
  exact (idxI_none (by simpa using hP)).symm
abbrev s_has_string : Spc := spc (a2 (List B) B) (fun _ => True) (enc (X := Bool)) fun x y => y = x.1.any (fun z => decide (x.2 = z))
theorem w_slices_Contains_string (h1 : S f_slices_Index_string = s_idx_string) : Walk cc_slices_Contains_string rs_slices_Contains_string S (a2 (List B) B) (fun _ => True) (enc (X := Bool)) fun x y => y = x.1.any (fun z => decide (x.2 = z)) := by
 rintro ⟨l, v⟩ -
 simp [cc_slices_Contains_string, rs_slices_Contains_string, h1]
 exact idxI_ge _ l
end Go.Gv

namespace Go.Gv
open Cod (enc dec)
variable {S S0 : Nat → Spc}
abbrev s_sameP (n : Nat) : Spc := spc (a2 Pat Pat) (PreN (fun x => pDep x.1) n) (enc (X := Bool)) fun x y => (y = true ↔ x.1 = x.2)
abbrev s_samePA : Spc := spc (a2 Pat Pat) (fun _ => True) (enc (X := Bool)) fun x y => (y = true ↔ x.1 = x.2)
theorem pat_ext {a b : Pat} (h1 : a.op = b.op) (h2 : a.cond = b.cond) (h3 : a.lab = b.lab) (h4 : a.reg = b.reg) (h5 : a.mn = b.mn) (h6 : a.mx = b.mx) (h7 : a.kids = b.kids) : a = b := by
 cases a; cases b; simp only at *; subst h1; subst h2; subst h3; subst h4; subst h5; subst h6; subst h7; rfl
theorem w_r23_SamePattern (n : Nat) (h0 : S f_r22_Same = s_sameA) (h1 : S f_r23_SamePattern = s_sameP n) : Walk cc_r23_SamePattern rs_r23_SamePattern S (a2 Pat Pat) (PreN (fun x => pDep x.1) (n + 1)) (enc (X := Bool)) fun x y => (y = true ↔ x.1 = x.2) := by
 rintro ⟨a, b⟩ hn
 have hn : pDep a ≤ n + 1 := hn
 have hpre : ∀ k ∈ a.kids, ∀ y, PreN (fun x : Pat × Pat => pDep x.1) n (k, y) := fun k hk y => by have := pDep_kid hk; show pDep k ≤ n; omega
 simp [cc_r23_SamePattern, rs_r23_SamePattern, h0, -Bool.forall_bool]
 refine ⟨fun e1 c hc => ⟨fun e2 => ⟨fun e3 => ⟨fun e4 => ⟨fun e5 => ⟨fun e6 _ _ => ⟨fun h e => h (by rw [e]), fun hl _ => ?_⟩, fun h e => h (by rw [e])⟩, fun h e => h (by rw [e])⟩, fun h e => h (by rw [e])⟩, fun h e => h (by rw [e])⟩, fun hf e => by rw [hc.2 (by rw [e])] at hf; cases hf⟩, fun h e => h (by rw [e])⟩
 refine vc_range (X := Unit) [2, 3] [] a.kids.length (fun k _ => a.kids.take k = b.kids.take k) (fun _ => []) (fun _ => []) () (by simp) (by simp) (by omega) (by simp) (by simp) (by simp) (by simp) (by simp) ?_ ?_
 ·rintro k - hk hP
  obtain ⟨x, hx⟩ := at_lt hk
  obtain ⟨y, hy⟩ := at_lt (l := b.kids) (k := k) (by omega)
  have hx1 := mem_at hx
  obtain ⟨_, hgx⟩ := List.getElem?_eq_some_iff.1 hx
  obtain ⟨_, hgy⟩ := List.getElem?_eq_some_iff.1 hy
  simp [h1, hk, hx, hy, hgx, hgy, hpre x hx1, -Bool.forall_bool]
  refine ⟨by omega, fun r hr => ⟨fun hf e => ?_, fun ht => ?_⟩⟩
  ·subst e
   rw [hx] at hy
   cases hy
   rw [hr.2 rfl] at hf
   cases hf
  ·rw [take_snoc hx, take_snoc hy, hP, hr.1 ht]
 ·rintro - hP
  simp
  have h8 : a.kids = b.kids := by
   rw [List.take_of_length_le (by omega), List.take_of_length_le (by omega)] at hP
   exact hP
  exact pat_ext e1 (hc.1 e2) e3 e4 e5 e6 h8
abbrev s_texts : Spc := spc (a2 (List B) (List B)) (fun _ => True) (enc (X := Bool)) fun x y => (y = true ↔ x.1 = x.2)
theorem w_r22_Texts : Walk cc_r22_Texts rs_r22_Texts S (a2 (List B) (List B)) (fun _ => True) (enc (X := Bool)) fun x y => (y = true ↔ x.1 = x.2) := by
 rintro ⟨a, b⟩ -
 simp [cc_r22_Texts, rs_r22_Texts, -Bool.forall_bool]
 refine fun _ _ => ⟨fun h e => h (by rw [e]), fun hl _ => ?_⟩
 refine vc_range (X := Unit) [0, 1] [] a.length (fun k _ => a.take k = b.take k) (fun _ => []) (fun _ => []) () (by simp) (by simp) (by omega) (by simp) (by simp) (by simp) (by simp) (by simp) ?_ ?_
 ·rintro k - hk hP
  obtain ⟨x, hx⟩ := at_lt hk
  obtain ⟨y, hy⟩ := at_lt (l := b) (k := k) (by omega)
  obtain ⟨_, hgx⟩ := List.getElem?_eq_some_iff.1 hx
  obtain ⟨_, hgy⟩ := List.getElem?_eq_some_iff.1 hy
  simp [hk, hx, hy, hgx, hgy, -Bool.forall_bool]
  refine ⟨by omega, fun ht e => ?_, fun ht => ?_⟩
  ·subst e
   rw [hx] at hy
   cases hy
   exact ht rfl
  ·rw [take_snoc hx, take_snoc hy, hP, ht]
 ·rintro - hP
  simp
  rw [List.take_of_length_le (by omega), List.take_of_length_le (by omega)] at hP
  exact hP
end Go.Gv

namespace Go.Gv
open Cod (enc dec)
variable {S S0 : Nat → Spc}
/-- the condition of one value -/
def LC (x : Cond) : Prop := x.op = 2 ∧ x.arg = ⟨#[]⟩ ∧ x.lab = ⟨#[]⟩ ∧ x.kids = []
abbrev s_cshape : Spc := spc (a1 Cond) LC (enc (X := Bool)) fun x y => y = true
theorem w_condition_shape : Walk cc_condition_shape rs_condition_shape S (a1 Cond) LC (enc (X := Bool)) fun x y => y = true := by
 rintro ⟨op, name, arg, val, lab, fold, kids⟩ ⟨h1, h2, h3, h4⟩
 simp only at h1 h2 h3 h4
 subst h1; subst h2; subst h3; subst h4
 simp [cc_condition_shape, rs_condition_shape, -Bool.forall_bool]
abbrev s_cShape1 : Spc := spc (a1 Cond) LC (enc (X := Int)) fun x y => y = 0
theorem w_condition_Shape_1 (h1 : S f_condition_shape = s_cshape) : Walk cc_condition_Shape_1 rs_condition_Shape_1 S (a1 Cond) LC (enc (X := Int)) fun x y => y = 0 := by
 rintro x hx
 simp [cc_condition_Shape_1, rs_condition_Shape_1, h1, hx, -Bool.forall_bool]
abbrev s_cmeasure : Spc := spc (a3 Cond Int Int) (fun x => LC x.1 ∧ x.2 = (0, 1)) (er2 (Y := Int) (Z := Int)) fun x y => y = (1, 1)
theorem w_condition_measure : Walk cc_condition_measure rs_condition_measure S (a3 Cond Int Int) (fun x => LC x.1 ∧ x.2 = (0, 1)) (er2 (Y := Int) (Z := Int)) fun x y => y = (1, 1) := by
 rintro ⟨⟨op, name, arg, val, lab, fold, kids⟩, n, d⟩ ⟨⟨h1, h2, h3, h4⟩, h5⟩
 simp only at h1 h2 h3 h4 h5
 simp only [Prod.mk.injEq] at h5
 obtain ⟨rfl, rfl⟩ := h5
 subst h1; subst h2; subst h3; subst h4
 simp [cc_condition_measure, rs_condition_measure, -Bool.forall_bool]
 refine ⟨by simp only [InR]; omega, ?_⟩
 refine vc_range (X := Unit) [1, 8] [] 0 (fun _ _ => True) (fun _ => []) (fun _ => []) () (by simp) (by simp) (by omega) (by simp) (by simp) trivial (by simp) (by simp) (fun k x hk => absurd hk (by omega)) (fun _ _ => ?_)
 simp
abbrev s_cwalk : Spc := spc (aE Cond (aD a0)) (fun x => LC x.1 ∧ x.2.1 = .clo f_condition_Shape_1 []) (enc (X := Int)) fun x y => y = 0
theorem w_condition_walk (h1 : S f_condition_Shape_1 = s_cShape1) : Walk cc_condition_walk rs_condition_walk S (aE Cond (aD a0)) (fun x => LC x.1 ∧ x.2.1 = .clo f_condition_Shape_1 []) (enc (X := Int)) fun x y => y = 0 := by
 rintro ⟨⟨op, name, arg, val, lab, fold, kids⟩, d, ⟨⟩⟩ ⟨hx, hd⟩
 have hx' := hx
 obtain ⟨h1', h2, h3, h4⟩ := hx'
 simp only at h1' h2 h3 h4 hd
 subst h1'; subst h2; subst h3; subst h4; subst hd
 simp [cc_condition_walk, rs_condition_walk, h1, hx, -Bool.forall_bool]
 refine vc_range (X := Unit) [] [] 0 (fun _ _ => True) (fun _ => []) (fun _ => []) () (by simp) (by simp) (by omega) (by simp) (by simp) trivial (by simp) (by simp) (fun k x hk => absurd hk (by omega)) (fun _ _ => ?_)
 simp
abbrev s_cShape : Spc := spc (a1 Cond) LC (enc (X := Bool)) fun x y => y = true
theorem w_condition_Shape (h1 : S f_condition_measure = s_cmeasure) (h2 : S f_condition_walk = s_cwalk) : Walk cc_condition_Shape rs_condition_Shape S (a1 Cond) LC (enc (X := Bool)) fun x y => y = true := by
 rintro x hx
 simp [cc_condition_Shape, rs_condition_Shape, h1, h2, hx, -Bool.forall_bool]
abbrev s_Format1 : Spc := spc (a1 Pat) (fun p => LC p.cond) (enc (X := Bool)) fun x y => y = false
theorem w_query_Format_1 (h1 : S f_condition_Shape = s_cShape) : Walk cc_query_Format_1 rs_query_Format_1 S (a1 Pat) (fun p => LC p.cond) (enc (X := Bool)) fun x y => y = false := by
 rintro x hx
 simp [cc_query_Format_1, rs_query_Format_1, h1, hx, -Bool.forall_bool]
abbrev s_none : Spc := spc (a1 Glob) (fun g => g = GlobE) (enc (X := Bool)) fun x y => y = true
theorem w_query_none : Walk cc_query_none rs_query_none S (a1 Glob) (fun g => g = GlobE) (enc (X := Bool)) fun x y => y = true := by
 rintro x rfl
 simp [cc_query_none, rs_query_none, GlobE, E0, -Bool.forall_bool]
abbrev s_Sound : Spc := spc (a1 Glob) (fun g => g = GlobE) (enc (X := Bool)) fun x y => y = true
theorem w_query_Sound (h1 : S f_query_none = s_none) : Walk cc_query_Sound rs_query_Sound S (a1 Glob) (fun g => g = GlobE) (enc (X := Bool)) fun x y => y = true := by
 rintro x rfl
 simp [cc_query_Sound, rs_query_Sound, h1, -Bool.forall_bool]
abbrev s_IdxF : Spc := spc (aE (List Filt) (aD a0)) (fun x => x.1 = []) (enc (X := Int)) fun x y => y = -1
theorem w_slices_IndexFunc_Filter : Walk cc_slices_IndexFunc_Filter rs_slices_IndexFunc_Filter S (aE (List Filt) (aD a0)) (fun x => x.1 = []) (enc (X := Int)) fun x y => y = -1 := by
 rintro ⟨l, d, ⟨⟩⟩ h
 have h : l = [] := h
 subst h
 simp [cc_slices_IndexFunc_Filter, rs_slices_IndexFunc_Filter, -Bool.forall_bool]
 refine vc_range (X := Unit) [] [] 0 (fun _ _ => True) (fun _ => []) (fun _ => []) () (by simp) (by simp) (by omega) (by simp) (by simp) trivial (by simp) (by simp) (fun k x hk => absurd hk (by omega)) (fun _ _ => ?_)
 simp
abbrev s_ConF : Spc := spc (aE (List Filt) (aD a0)) (fun x => x.1 = []) (enc (X := Bool)) fun x y => y = false
theorem w_slices_ContainsFunc_Filter (h1 : S f_slices_IndexFunc_Filter = s_IdxF) : Walk cc_slices_ContainsFunc_Filter rs_slices_ContainsFunc_Filter S (aE (List Filt) (aD a0)) (fun x => x.1 = []) (enc (X := Bool)) fun x y => y = false := by
 rintro ⟨l, d, ⟨⟩⟩ h
 have h : l = [] := h
 subst h
 simp [cc_slices_ContainsFunc_Filter, rs_slices_ContainsFunc_Filter, h1, -Bool.forall_bool]
end Go.Gv

namespace Go.Gv
section
variable {P : Program} {im : List Nat} {E : Env} {S : Nat → Spc}
theorem tri_of_run {f : Nat} {fn : Func} {rs : List CRes} {A : PT} (hce : CallEnter P f) {N : Nat} (hN : fn.ntmps = N) (hrs : fn.results.toList.mapM (compileRes P) = some rs) {V : (D → HMap → Prop) → List D → HMap → Prop}
 (hrun : ∀ (E : Env) (ds' : List D) (H0 : HMap) (Q : D → HMap → Prop) (vs : List Value) (w : World) (R : Ending → World → Prop), E.ds = [] → E.N = N → vs.length = ds'.length → St E (initS ds') H0 { tmps := vs.toArray ++ Array.replicate (fn.ntmps - vs.toArray.size) undef, defers := [] } w → V Q ds' H0 →
   (∀ (a' : Act) (w' : World) (σ' : Sg) (H' : HMap) (dl : List Deferred), St { E with ds := dl } σ' H' a' w' → (resL rs σ' H' fun ds => Q (oneOrTup ds) H') → ∃ v, (results fn a'.tmps).run P w' = .ok v w' ∧ R (.returned v) w') → Calls P f vs.toArray w R)
 (hA : ∀ (ds : List D) (H : HMap) (d : Nat) (K : D → HMap → Prop), A d ds H K → ds.length ≤ N ∧
   ∃ (ds' : List D) (H0 : HMap) (ι : Nat → Nat), LeL ds ds' ∧ (∀ i r, H0 i = some r → H (ι i) = some r) ∧ (∀ i j r s, H0 i = some r → H0 j = some s → ι i = ι j → i = j) ∧
    ∃ Q : D → HMap → Prop, V Q ds' H0 ∧ ∀ r H', Q r H' → ∃ (r' : D) (Hf Hc : HMap) (κ : Nat → Option Nat), FrzTo Hf r r' ∧ (∀ j q, Hf j = some q → H' j = some q ∧ ∀ i, κ i ≠ some j) ∧ K r' Hc ∧
     (∀ i s, Hc i = some s → match κ i with | some j => H' j = some s | none => H i = some s ∧ ∀ k q, H0 k = some q → ι k ≠ i) ∧
     (∀ i j k s q, Hc i = some s → Hc j = some q → κ i = some k → κ j = some k → i = j)) : Tri P f A := by
 intro O tp w vs ds H d K hO htl hsat hlen hargs hAK
 refine ⟨hce, ?_⟩
 obtain ⟨hdN, ds', H0, ι, hle, hsub, hinj, Q, hv, hQ⟩ := hA ds H d K hAK
 -- the callee's constants
 let passed : Nat → Prop := fun i => ∃ k q, H0 k = some q ∧ ι k = i
 let rest : Nat → Prop := fun b => ∃ i r, H i = some r ∧ ¬ passed i ∧ r.blk = some b
 let E : Env := { O := fun b => O b ∨ rest b, tp0 := tp, w0 := w, own0 := owns H0, N := N }
 have hownH0 : ∀ b, owns H0 b → owns H b := fun b ⟨i, r, h1, h2⟩ => ⟨ι i, r, hsub i r h1, h2⟩
 have hrestlt : ∀ b, rest b → b < w.heap.size := fun b ⟨i, r, h1, _, h2⟩ => (hsat.ok i r h1).lt h2
 have hrestown : ∀ b, rest b → ¬ owns H0 b := fun b ⟨i, r, h1, h2, h3⟩ ⟨j, s, h4, h5⟩ => h2 ⟨j, s, h4, (hsat.dis i (ι j) r s b h1 (hsub j s h4) h3 h5).symm⟩
 have himm : ∀ b, Imm O tp H w b → Imm E.O tp H0 w b := fun b hb => ⟨hb.1, fun h => h.elim hb.2.1 (fun ⟨i, r, h1, _, h2⟩ => hb.2.2.2 ⟨i, r, h1, h2⟩), hb.2.2.1, fun h => hb.2.2.2 (hownH0 b h)⟩
 have hmove : ∀ x e, R tp (Imm O tp H w) w x e → R tp (Imm E.O tp H0 w) w x e := fun x e hr => hr.mono (fun _ h => h) (fun b hb => ⟨himm b hb, rfl⟩) (fun b _ => .refl _ _)
 have hstw : StW E tp H0 w := by
  refine ⟨fun b hb => hb.elim (hO b) (hrestlt b), fun b h => h, fun b h => .inl h, htl, .refl _ _ _, fun b hb => .inl hb, ⟨fun i j r s b h1 h2 h3 h4 => ?_, fun i r b h1 h2 => ⟨fun h => ?_, ?_⟩, fun i r h1 => ?_⟩⟩
  ·exact hinj i j r s h1 h2 (hsat.dis _ _ r s b (hsub i r h1) (hsub j s h2) h3 h4)
  ·rcases h with h | h
   ·exact (hsat.out _ r b (hsub i r h1) h2).1 h
   ·exact hrestown b h ⟨i, r, h1, h2⟩
  ·exact (hsat.out _ r b (hsub i r h1) h2).2
  ·exact (hsat.ok _ r (hsub i r h1)).conv hmove (fun _ _ => rfl)
 have hst : St E (initS ds') H0 { tmps := vs.toArray ++ Array.replicate (fn.ntmps - vs.toArray.size) undef, defers := [] } w := by
  refine ⟨rfl, ?_, tp, hstw, fun t => ?_⟩
  ·show (vs.toArray ++ Array.replicate (fn.ntmps - vs.toArray.size) undef).size = N
   simp
   omega
  ·unfold initS
   cases hd : ds'[t]? with
   | none => exact .any _
   | some e' =>
     have hlt : t < vs.length := by rw [hlen, hle.1]; exact (List.getElem?_eq_some_iff.1 hd).1
     have hlt' : t < ds.length := by rw [← hlen]; exact hlt
     have hg : (vs.toArray ++ Array.replicate (fn.ntmps - vs.toArray.size) undef).getD t undef = vs[t] := by
      rw [Array.getD_eq_getD_getElem?, Array.getElem?_append_left (by simpa using hlt)]
      simp [hlt]
     simp only [Option.getD_some, hg]
     have he := List.getElem?_eq_getElem hlt'
     exact (hle.2 t _ e' he hd).R (H := noH) (fun i r h => by cases h) (fun _ h => h) (fun i r b h => by cases h) (hmove _ _ (hargs t _ _ (by simp [hlt]) he))
 -- at the end
 have fin : ∀ (a' : Act) (w' : World) (σ' : Sg) (H' : HMap) (dl : List Deferred), St { E with ds := dl } σ' H' a' w' → (resL rs σ' H' fun ds => Q (oneOrTup ds) H') →
  ∃ v, (results fn a'.tmps).run P w' = .ok v w' ∧ Left O tp H w K (.returned v) w' := by
  intro a' w' σ' H' dl hst' hres
  obtain ⟨hd', hN', tp', hw0, hr0⟩ := hst'
  have hw' : StW E tp' H' w' := ⟨hw0.1, hw0.2, hw0.3, hw0.4, hw0.5, hw0.6, hw0.7⟩
  have hr' : ∀ t, R tp' (Imm E.O tp' H' w') w' (a'.tmps.getD t undef) (σ' t) := hr0
  obtain ⟨v, r0, hrun', hR, hq⟩ := results_sound (K := fun r => Q r H') hrs hr' hw'.sat.ok hres
  obtain ⟨r, Hf, Hc, κ, hfz, hHf, hK, hκ, hκi⟩ := hQ r0 H' hq
  refine ⟨v, hrun', v, r, Hc, tp', rfl, hK, hw'.tpx, hw'.tpn, hw'.tpl, ?_, ?_, ?_, ?_⟩
  ·-- the step
   have hs := hw'.step
   exact ⟨hs.os, hs.tape, hs.output, hs.size, fun b hb ho ht => hs.same b hb (fun h => ho (hownH0 b h)) ht, hs.tapes, hs.drawn⟩
  all_goals
   have hkn : ∀ i s, Hc i = some s → (∃ j, κ i = some j ∧ H' j = some s) ∨ (κ i = none ∧ H i = some s ∧ ¬ passed i) := fun i s hi => by
    have := hκ i s hi
    cases hk : κ i with
    | some j => rw [hk] at this; exact .inl ⟨j, rfl, this⟩
    | none => rw [hk] at this; exact .inr ⟨rfl, this.1, fun ⟨k, q, h1, h2⟩ => this.2 k q h1 h2⟩
  ·intro b ⟨i, s, h1, h2⟩
   rcases hkn i s h1 with ⟨j, _, h3⟩ | ⟨_, h3, _⟩
   ·rcases hw'.loc b ⟨j, s, h3, h2⟩ with h4 | h4
    ·exact .inl (hownH0 b h4)
    ·exact .inr h4
   ·exact .inl ⟨i, s, h3, h2⟩
  all_goals
   have hownc : ∀ b, owns Hc b → owns H' b ∨ rest b := fun b ⟨i, s, h1, h2⟩ => by
    rcases hkn i s h1 with ⟨j, _, h3⟩ | ⟨_, h3, h4⟩
    ·exact .inl ⟨j, s, h3, h2⟩
    ·exact .inr ⟨i, s, h3, h4, h2⟩
   have himmc : ∀ b, Imm E.O tp' H' w' b → Imm O tp' Hc w' b := fun b hb => ⟨hb.1, fun h => hb.2.1 (.inl h), hb.2.2.1, fun h => by
    rcases hownc b h with h | h
    ·exact hb.2.2.2 h
    ·exact hb.2.1 (.inr h)⟩
   have hmovec : ∀ x e, R tp' (Imm E.O tp' H' w') w' x e → R tp' (Imm O tp' Hc w') w' x e := fun x e hr => hr.mono (fun _ h => h) (fun b hb => ⟨himmc b hb, rfl⟩) (fun b _ => .refl _ _)
  ·refine ⟨fun i j s q b h1 h2 h3 h4 => ?_, fun i s b h1 h2 => ?_, fun i s h1 => ?_⟩
   ·rcases hkn i s h1 with ⟨i', e1, k1⟩ | ⟨e1, k1, p1⟩
    ·rcases hkn j q h2 with ⟨j', e2, k2⟩ | ⟨e2, k2, p2⟩
     ·have := hw'.sat.dis i' j' s q b k1 k2 h3 h4
      subst this
      exact hκi i j i' s q h1 h2 e1 e2
     ·exact absurd (Or.inr ⟨j, q, k2, p2, h4⟩) (hw'.sat.out i' s b k1 h3).1
    ·rcases hkn j q h2 with ⟨j', e2, k2⟩ | ⟨e2, k2, p2⟩
     ·exact absurd (Or.inr ⟨i, s, k1, p1, h3⟩) (hw'.sat.out j' q b k2 h4).1
     ·exact hsat.dis i j s q b k1 k2 h3 h4
   ·rcases hkn i s h1 with ⟨i', e1, k1⟩ | ⟨e1, k1, p1⟩
    ·have := hw'.sat.out i' s b k1 h2
     exact ⟨fun h => this.1 (.inl h), this.2⟩
    ·have h3 := hsat.out i s b k1 h2
     refine ⟨h3.1, fun h => ?_⟩
     rcases hw'.tpn b h with h4 | h4
     ·exact h3.2 h4
     ·have := (hsat.ok i s k1).lt h2
      have h4' : w.heap.size ≤ b := h4
      omega
   ·rcases hkn i s h1 with ⟨i', e1, k1⟩ | ⟨e1, k1, p1⟩
    ·exact (hw'.sat.ok i' s k1).conv hmovec (fun _ _ => rfl)
    ·-- a resource that was not handed in is as it was
     have hs := hw'.step
     have hsame : ∀ b, b < w.heap.size → ¬ owns H0 b → ¬ tp b → w'.heap[b]? = w.heap[b]? := hs.same
     refine (hsat.ok i s k1).conv (fun x e hr => ?_) (fun b hb => hsame b ((hsat.ok i s k1).lt hb) (hrestown b ⟨i, s, k1, p1, hb⟩) (hsat.out i s b k1 hb).2)
     refine hr.mono hw'.tpx (fun b hb => ?_) hs.tapes
     have h0 : ¬ owns H0 b := fun h => hb.2.2.2 (hownH0 b h)
     have hsz : w.heap.size ≤ w'.heap.size := hs.size
     have hbl : b < w.heap.size := hb.1
     refine ⟨⟨by omega, hb.2.1, fun h => ?_, fun h => ?_⟩, hsame b hb.1 h0 hb.2.2.1⟩
     ·rcases hw'.tpn b h with h4 | h4
      ·exact hb.2.2.1 h4
      ·have h4' : w.heap.size ≤ b := h4
       omega
     ·rcases hownc b h with h | h
      ·rcases hw'.loc b h with h4 | h4
       ·exact h0 h4
       ·have h4' : w.heap.size ≤ b := h4
        omega
      ·obtain ⟨j, q, h5, _, h6⟩ := h
       exact hb.2.2.2 ⟨j, q, h5, h6⟩
  ·refine hfz.R (H := noH) (fun i q hi => hw'.sat.ok i q (hHf i q hi).1) himmc (fun i q b hi hb => ?_) hR
   obtain ⟨hi', hne⟩ := hHf i q hi
   have ho := hw'.sat.out i q b hi' hb
   refine ⟨(hw'.sat.ok i q hi').lt hb, fun h => ho.1 (.inl h), ho.2, fun ⟨j, s, h1, h2⟩ => ?_⟩
   rcases hkn j s h1 with ⟨j', e1, k1⟩ | ⟨e1, k1, p1⟩
   ·have := hw'.sat.dis i j' q s b hi' k1 hb h2
    subst this
    exact hne j e1
   ·exact ho.1 (.inr ⟨j, s, k1, p1, h2⟩)
 exact hrun E ds' H0 Q vs w _ rfl rfl (by rw [hlen, hle.1]) hst hv fin

/-- The same for data in and data out. -/
theorem tri_run {f : Nat} {fn : Func} {rs : List CRes} {X Y : Type} {A : Arg X} {pre : X → Prop} {er : Y → D} {post : X → Y → Prop} (hce : CallEnter P f) {N : Nat} (hN : fn.ntmps = N) (hrs : fn.results.toList.mapM (compileRes P) = some rs)
 (hAN : ∀ x, (A.view x).length ≤ N) {V : (D → HMap → Prop) → List D → HMap → Prop}
 (hrun : ∀ (E : Env) (ds' : List D) (H0 : HMap) (Q : D → HMap → Prop) (vs : List Value) (w : World) (R : Ending → World → Prop), E.ds = [] → E.N = N → vs.length = ds'.length → St E (initS ds') H0 { tmps := vs.toArray ++ Array.replicate (fn.ntmps - vs.toArray.size) undef, defers := [] } w → V Q ds' H0 →
   (∀ (a' : Act) (w' : World) (σ' : Sg) (H' : HMap) (dl : List Deferred), St { E with ds := dl } σ' H' a' w' → (resL rs σ' H' fun ds => Q (oneOrTup ds) H') → ∃ v, (results fn a'.tmps).run P w' = .ok v w' ∧ R (.returned v) w') → Calls P f vs.toArray w R)
 (hw : ∀ x, pre x → V (fun r H' => Fin er (post x) r H') (A.view x) noH) : Tri P f (spc A pre er post).pt := by
 refine tri_of_run hce hN hrs hrun ?_
 intro ds H d K hA
 rw [spc_pt] at hA
 cases hd : A.dec ds with
 | none => rw [hd] at hA; exact hA.elim
 | some x =>
   rw [hd] at hA
   obtain ⟨hp, hK⟩ := hA
   have hl := A.le ds x hd
   refine ⟨by rw [hl.1]; exact hAN x, A.view x, noH, id, hl, fun i r h => by simp [noH] at h, fun i j r s h => by simp [noH] at h, _, hw x hp, ?_⟩
   rintro r H' ⟨y, hf, hpost⟩
   exact ⟨er y, H', H, fun _ => none, hf, fun j q h => ⟨h, fun i => by simp⟩, hK y hpost, fun i s hi => ⟨hi, fun k q h => by simp [noH] at h⟩, fun i j k s q _ _ h => by cases h⟩
end
end Go.Gv

namespace Go.Gv
open Cod (enc dec)
section
variable {X Y Z : Type}
def FinBQ (M : Nat → X → Res) (B : BoxF X) (er : Y → D) (b : Nat) (post : X → Y → Prop) (r : D) (H : HMap) : Prop := ∃ x y, FrzTo (fun i => if i = 0 ∨ i ∈ B.ids then none else H i) r (er y) ∧ H 0 = some (M b x) ∧ (∀ p ∈ B.hp x, H p.1 = some p.2) ∧ post x y
def bqPT (M : Nat → X → Res) (B : Nat → BoxF X) (A : Arg Z) (er : Y → D) (pre : X → Z → Prop) (post : X → Z → X → Y → Prop) : PT := fun d ds H K => ∃ id b x z ds', ds = .bptr id b 0 :: ds' ∧ A.dec ds' = some z ∧ H id = some (M b x) ∧ (∀ p ∈ (B b).hp x, H p.1 = some p.2) ∧ id ∉ (B b).ids ∧ pre x z ∧
 ∀ x' y, post x z x' y → K (er y) (updH (addH ((B b).hp x') H) id (some (M b x')))
theorem bq_mono (M : Nat → X → Res) (B : Nat → BoxF X) (A : Arg Z) (er : Y → D) (pre : X → Z → Prop) (post : X → Z → X → Y → Prop) : MonoPT (bqPT M B A er pre post) := fun d ds H K K' hk ⟨id, b, x, z, ds', h1, h2, h3, h4, h5, h6, h7⟩ => ⟨id, b, x, z, ds', h1, h2, h3, h4, h5, h6, fun x' y hp => hk _ _ (h7 x' y hp)⟩
def bqC (M : Nat → X → Res) (B : Nat → BoxF X) (A : Arg Z) (er : Y → D) (pre : X → Z → Prop) (post : X → Z → X → Y → Prop) : Spc := .gen _ (bq_mono M B A er pre post)
theorem bq_args {M : Nat → X → Res} {B : Nat → BoxF X} {A : Arg Z} {er : Y → D} {pre : X → Z → Prop} {post : X → Z → X → Y → Prop} {N : Nat} (h1i : ∀ b, 0 ∉ (B b).ids) (hN : ∀ z, (A.view z).length + 1 ≤ N) {V : (D → HMap → Prop) → List D → HMap → Prop}
 (hw : ∀ b x z, pre x z → V (fun r H' => FinBQ M (B b) er b (post x z) r H') (.bptr 0 b 0 :: A.view z) (updH (addH ((B b).hp x) noH) 0 (some (M b x)))) :
 ∀ (ds : List D) (H : HMap) (d : Nat) (K : D → HMap → Prop), bqPT M B A er pre post d ds H K → ds.length ≤ N ∧
  ∃ (ds' : List D) (H0 : HMap) (ι : Nat → Nat), LeL ds ds' ∧ (∀ i r, H0 i = some r → H (ι i) = some r) ∧ (∀ i j r s, H0 i = some r → H0 j = some s → ι i = ι j → i = j) ∧
   ∃ Q : D → HMap → Prop, V Q ds' H0 ∧ ∀ r H', Q r H' → ∃ (r' : D) (Hf Hc : HMap) (κ : Nat → Option Nat), FrzTo Hf r r' ∧ (∀ j q, Hf j = some q → H' j = some q ∧ ∀ i, κ i ≠ some j) ∧ K r' Hc ∧
    (∀ i s, Hc i = some s → match κ i with | some j => H' j = some s | none => H i = some s ∧ ∀ k q, H0 k = some q → ι k ≠ i) ∧
    (∀ i j k s q, Hc i = some s → Hc j = some q → κ i = some k → κ j = some k → i = j) := by
 rintro ds H d K ⟨id, b, x, z, ds', rfl, hd, hid, hhp, hni, hp, hK⟩
 have hl := A.le ds' z hd
 have h0 : ∀ i r, updH (addH ((B b).hp x) noH) 0 (some (M b x)) i = some r → i = 0 ∧ r = M b x ∨ i ≠ 0 ∧ (i, r) ∈ (B b).hp x := by
  intro i r h
  by_cases e : i = 0
  ·subst e
   simp only [updH, if_true] at h
   cases h
   exact .inl ⟨rfl, rfl⟩
  ·simp only [updH, e, if_false] at h
   exact .inr ⟨e, addN_mem h⟩
 have hk : ∀ {x : X} {i : Nat} {r : Res}, (i, r) ∈ (B b).hp x → i ∈ (B b).ids := by
  intro x i r h
  rw [← (B b).keys x]
  exact List.mem_map.2 ⟨_, h, rfl⟩
 refine ⟨by simp only [List.length_cons]; rw [hl.1]; exact hN z, .bptr 0 b 0 :: A.view z, updH (addH ((B b).hp x) noH) 0 (some (M b x)), fun i => if i = 0 then id else i, .cons (.bptr _ _ _ _) hl, fun i r h => ?_, fun i j r s h h' e => ?_, _, hw b x z hp, ?_⟩
 ·rcases h0 i r h with ⟨rfl, rfl⟩ | ⟨e, hm⟩
  ·exact hid
  ·simp only [e, if_false]
   exact hhp _ hm
 ·rcases h0 i r h with ⟨rfl, rfl⟩ | ⟨e1, hm⟩
  ·rcases h0 j s h' with ⟨rfl, rfl⟩ | ⟨e2, hm2⟩
   ·rfl
   ·simp only [e2, if_true, if_false] at e
    subst e
    exact absurd (hk hm2) hni
  ·rcases h0 j s h' with ⟨rfl, rfl⟩ | ⟨e2, hm2⟩
   ·simp only [e1, if_true, if_false] at e
    subst e
    exact absurd (hk hm) hni
   ·simpa only [e1, e2, if_false] using e
 ·rintro r H' ⟨x', y, hfr, hj, hhp', hpost⟩
  refine ⟨er y, fun i => if i = 0 ∨ i ∈ (B b).ids then none else H' i, updH (addH ((B b).hp x') H) id (some (M b x')), fun i => if i = id then some 0 else if i ∈ (B b).ids then some i else none, hfr, fun j q h => ?_, hK x' y hpost, fun i s hi => ?_, fun i j' k s q hi hj' e1 e2 => ?_⟩
  ·by_cases e : j = 0 ∨ j ∈ (B b).ids
   ·simp [e] at h
   ·simp only [e, if_false] at h
    refine ⟨h, fun i hh => e ?_⟩
    by_cases e1 : i = id
    ·simp only [e1, if_true] at hh
     cases hh
     exact .inl rfl
    ·simp only [e1, if_false] at hh
     by_cases e2 : i ∈ (B b).ids
     ·simp only [e2, if_true] at hh
      cases hh
      exact .inr e2
     ·simp [e2] at hh
  ·by_cases e : i = id
   ·subst e
    simp only [updH, if_true] at hi
    cases hi
    simpa using hj
   ·simp only [updH, e, if_false] at hi ⊢
    by_cases e2 : i ∈ (B b).ids
    ·simp only [e2, if_true]
     exact hhp' _ (addN_key (by rw [(B b).keys]; exact e2) hi)
    ·simp only [e2, if_false]
     rw [addN_off (by rw [(B b).keys]; exact e2)] at hi
     refine ⟨hi, fun k q h he => ?_⟩
     rcases h0 k q h with ⟨rfl, rfl⟩ | ⟨e3, hm⟩
     ·simp only [if_true] at he
      exact e he.symm
     ·simp only [e3, if_false] at he
      subst he
      exact e2 (hk hm)
  ·by_cases c1 : i = id
   ·by_cases c2 : j' = id
    ·exact c1.trans c2.symm
    ·simp only [c1, if_true] at e1
     cases e1
     simp only [c2, if_false] at e2
     by_cases c3 : j' ∈ (B b).ids
     ·simp only [c3, if_true] at e2
      cases e2
      exact absurd c3 (h1i b)
     ·simp [c3] at e2
   ·simp only [c1, if_false] at e1
    by_cases c3 : i ∈ (B b).ids
    ·simp only [c3, if_true] at e1
     cases e1
     by_cases c2 : j' = id
     ·simp only [c2, if_true] at e2
      cases e2
      exact absurd c3 (h1i b)
     ·simp only [c2, if_false] at e2
      by_cases c4 : j' ∈ (B b).ids
      ·simp only [c4, if_true] at e2
       cases e2
       rfl
      ·simp [c4] at e2
    ·simp [c3] at e1
variable {P : Program} {S : Nat → Spc} {f : Nat} {im : List Nat} {cc : CC} {rs : List CRes} {N : Nat}
def WalkBQ (cc : CC) (rs : List CRes) (S : Nat → Spc) (M : Nat → X → Res) (B : Nat → BoxF X) (A : Arg Z) (er : Y → D) (pre : X → Z → Prop) (post : X → Z → X → Y → Prop) : Prop :=
 ∀ b x z, pre x z → vc S cc (retK rs fun r H' => FinBQ M (B b) er b (post x z) r H') (initS (.bptr 0 b 0 :: A.view z)) (updH (addH ((B b).hp x) noH) 0 (some (M b x)))
theorem tri_walkBQ {M : Nat → X → Res} {B : Nat → BoxF X} {A : Arg Z} {er : Y → D} {pre : X → Z → Prop} {post : X → Z → X → Y → Prop} (h1i : ∀ b, 0 ∉ (B b).ids) (hS : ∀ f, Tri P f (S f).pt) (h : FnOk P f im cc rs N) (hN : ∀ z, (A.view z).length + 1 ≤ N) (hw : WalkBQ cc rs S M B A er pre post) : Tri P f (bqC M B A er pre post).pt := by
 obtain ⟨mix, enter, fn, code, h1, h2, h3, h4, h5⟩ := h
 exact tri_of_vc hS mix h1 h2 enter h3 h4 h5 (bq_args h1i hN (V := fun Q ds H => vc S cc (retK rs Q) (initS ds) H) hw)
theorem tri_runBQ {fn : Func} {M : Nat → X → Res} {B : Nat → BoxF X} {A : Arg Z} {er : Y → D} {pre : X → Z → Prop} {post : X → Z → X → Y → Prop} (h1i : ∀ b, 0 ∉ (B b).ids) (hce : CallEnter P f) (hN' : fn.ntmps = N) (hrs : fn.results.toList.mapM (compileRes P) = some rs) (hN : ∀ z, (A.view z).length + 1 ≤ N)
 {V : (D → HMap → Prop) → List D → HMap → Prop}
 (hrun : ∀ (E : Env) (ds' : List D) (H0 : HMap) (Q : D → HMap → Prop) (vs : List Value) (w : World) (R : Ending → World → Prop), E.ds = [] → E.N = N → vs.length = ds'.length → St E (initS ds') H0 { tmps := vs.toArray ++ Array.replicate (fn.ntmps - vs.toArray.size) undef, defers := [] } w → V Q ds' H0 →
   (∀ (a' : Act) (w' : World) (σ' : Sg) (H' : HMap) (dl : List Deferred), St { E with ds := dl } σ' H' a' w' → (resL rs σ' H' fun ds => Q (oneOrTup ds) H') → ∃ v, (results fn a'.tmps).run P w' = .ok v w' ∧ R (.returned v) w') → Calls P f vs.toArray w R)
 (hw : ∀ b x z, pre x z → V (fun r H' => FinBQ M (B b) er b (post x z) r H') (.bptr 0 b 0 :: A.view z) (updH (addH ((B b).hp x) noH) 0 (some (M b x)))) : Tri P f (bqC M B A er pre post).pt :=
 tri_of_run hce hN' hrs hrun (bq_args h1i hN hw)
end
theorem resL_mono {σ : Sg} {H : HMap} : ∀ {rs : List CRes} {F G : List D → Prop}, (∀ ds, F ds → G ds) → resL rs σ H F → resL rs σ H G
 | [], F, G, hFG, h => hFG _ h
 | .tmp t :: rs, F, G, hFG, h => resL_mono (rs := rs) (fun ds h => hFG _ h) h
 | .cell t agg sz :: rs, F, G, hFG, h => readVC_mono (fun d h => resL_mono (rs := rs) (fun ds h => hFG _ h) h) h
/-! ### A writer -/
structure Wtr where
 u : Bool
 v : Value
 s : ByteArray
def pv (b : Nat) (u : Bool) : Value := .pointer (if u then some ⟨b, 0, none⟩ else none)
def bD (s : ByteArray) : List D := s.data.toList.map fun c => .v (.int .u8 c.toNat)
def wtB (el : Nat) (b : Nat) : BoxF Wtr := ⟨[900], fun x => [.v (pv b x.u), .own 900 x.v], fun x => [(900, .row x.v el 1 (bD x.s))], fun _ => rfl⟩
@[simp] theorem wtB_ids (el b : Nat) : (wtB el b).ids = [900] := id rfl
@[simp] theorem wtB_hp (el b : Nat) (x : Wtr) : (wtB el b).hp x = [(900, .row x.v el 1 (bD x.s))] := id rfl
theorem u8_inj {a b : UInt8} (h : (a.toNat : Int) = b.toNat) : a = b := UInt8.toNat_inj.1 (by omega)
theorem bD_inj {s t : ByteArray} (h : bD s = bD t) : s = t := by
 obtain ⟨⟨s⟩⟩ := s
 obtain ⟨⟨t⟩⟩ := t
 simp only [bD] at h
 have : s = t := by
  induction s generalizing t with
  | nil => cases t with
    | nil => rfl
    | cons b t => simp at h
  | cons a s ih => cases t with
    | nil => simp at h
    | cons b t =>
      simp only [List.map_cons, List.cons.injEq, D.v.injEq, Value.int.injEq, true_and] at h
      rw [u8_inj h.1, ih t h.2]
 rw [this]
def wtM (el b : Nat) (x : Wtr) : Res := .tbox el b [.v (pv b x.u), .own 900 x.v]
@[simp] theorem wtM_eq (el b : Nat) (x : Wtr) : wtM el b x = .tbox el b [.v (pv b x.u), .own 900 x.v] := id rfl
def LIMW : Nat := 1000000
section
variable {Z : Type}
/-- What writes T z at the end of the writer's text (none: not said). -/
def wrC (tw el : Nat) (A : Arg Z) (r : D) (T : Z → Option ByteArray) : Spc := bqC (Y := Unit) (wtM tw) (wtB el) A (fun _ => r) (fun x z => ∃ t, T z = some t ∧ x.s.size + t.size ≤ LIMW) (fun x z x' _ => ∃ t, T z = some t ∧ x'.s = x.s ++ t)
def wrX (tw el : Nat) (r : D) (T : Z → Option ByteArray) (i b : Nat) (q q9 : Option Res) (o : Option Z) (H : HMap) (K : D → HMap → Prop) : Prop :=
 ∃ x : Wtr, q = some (.tbox tw b [.v (pv b x.u), .own 900 x.v]) ∧ q9 = some (.row x.v el 1 (bD x.s)) ∧ i ≠ 900 ∧ optX o fun z => optX (T z) fun t => x.s.size + t.size ≤ LIMW ∧ ∀ u v, K r (updH (updH H 900 (some (.row v el 1 (bD (x.s ++ t))))) i (some (.tbox tw b [.v (pv b u), .own 900 v])))
@[congr] theorem wrX_cg {tw el : Nat} {r : D} {T : Z → Option ByteArray} {i b : Nat} {q q' q9 q9' : Option Res} {o o' : Option Z} {H : HMap} {K : D → HMap → Prop} (h1 : q = q') (h2 : q9 = q9') (h3 : o = o') : wrX tw el r T i b q q9 o H K = wrX tw el r T i b q' q9' o' H K := by subst h1; subst h2; subst h3; rfl
theorem addH_one (i : Nat) (r : Res) (H : HMap) : addH [(i, r)] H = updH H i (some r) := rfl
@[simp] theorem wrC_pt (tw el : Nat) (A : Arg Z) (r : D) (T : Z → Option ByteArray) (d i b : Nat) (ds : List D) (H : HMap) (K : D → HMap → Prop) : (wrC tw el A r T).pt d (.bptr i b 0 :: ds) H K = wrX tw el r T i b (H i) (H 900) (A.dec ds) H K := by
 refine propext ⟨fun h => ?_, fun h => ?_⟩
 ·obtain ⟨id, b', x, z, ds', h1, h2, h3, h4, h5, ⟨t, h6, h7⟩, h8⟩ := h
  cases h1
  refine ⟨x, h3, h4 (900, _) (by simp), by simpa using h5, ?_⟩
  rw [h2]
  show optX (T z) _
  rw [h6]
  refine ⟨h7, fun u v => ?_⟩
  have := h8 ⟨u, v, x.s ++ t⟩ () ⟨t, h6, rfl⟩
  simpa only [wtB_hp, wtM_eq, addH_one] using this
 ·obtain ⟨x, h1, h2, h3, h4⟩ := h
  cases hz : A.dec ds with
  | none => rw [hz] at h4; exact h4.elim
  | some z =>
    rw [hz] at h4
    have h4 : optX (T z) _ := h4
    cases ht : T z with
    | none => rw [ht] at h4; exact h4.elim
    | some t =>
      rw [ht] at h4
      refine ⟨i, b, x, z, ds, rfl, hz, h1, fun p hp => ?_, by simpa using h3, ⟨t, ht, h4.1⟩, fun x' y hq => ?_⟩
      ·simp at hp
       subst hp
       exact h2
      ·obtain ⟨t', h5, h6⟩ := hq
       rw [ht] at h5
       cases h5
       have := h4.2 x'.u x'.v
       rw [← h6] at this
       simpa only [wtB_hp, wtM_eq, addH_one] using this
@[simp] theorem wrX_r (tw el : Nat) (r : D) (T : Z → Option ByteArray) (i b : Nat) (u : Bool) (v : Value) (s : ByteArray) (o : Option Z) (H : HMap) (K : D → HMap → Prop) :
 wrX tw el r T i b (some (.tbox tw b [.v (pv b u), .own 900 v])) (some (.row v el 1 (bD s))) o H K = (i ≠ 900 ∧ optX o fun z => optX (T z) fun t => s.size + t.size ≤ LIMW ∧ ∀ u v, K r (updH (updH H 900 (some (.row v el 1 (bD (s ++ t))))) i (some (.tbox tw b [.v (pv b u), .own 900 v])))) := by
 refine propext ⟨fun ⟨x, h1, h2, h3, h4⟩ => ?_, fun h => ⟨⟨u, v, s⟩, rfl, rfl, h⟩⟩
 simp only [Option.some.injEq, Res.row.injEq, true_and] at h2
 have := bD_inj h2.2
 subst this
 exact ⟨h3, h4⟩
/-- What is to be shown at the end. -/
def FinW (tw el b : Nat) (s : ByteArray) (r : D) (d : D) (H : HMap) : Prop := ∃ u v, FrzTo noH d r ∧ H 0 = some (.tbox tw b [.v (pv b u), .own 900 v]) ∧ H 900 = some (.row v el 1 (bD s))
def WalkW (cc : CC) (rs : List CRes) (S : Nat → Spc) (tw el : Nat) (A : Arg Z) (r : D) (T : Z → Option ByteArray) : Prop :=
 ∀ b u v s z t, T z = some t → s.size + t.size ≤ LIMW → vc S cc (retK rs fun d H' => FinW tw el b (s ++ t) r d H') (initS (.bptr 0 b 0 :: A.view z)) (updH (updH noH 900 (some (.row v el 1 (bD s)))) 0 (some (.tbox tw b [.v (pv b u), .own 900 v])))
theorem fzNo {H : HMap} {d e : D} (h : FrzTo noH d e) : FrzTo H d e := by
 induction h with
 | same d => exact .same d
 | any d => exact .any d
 | nil n => exact .nil n
 | own i j x => exact .own i j x
 | nilown j => exact .nilown j
 | bptr i j b off => exact .bptr i j b off
 | row h => cases h
 | sub h => cases h
 | list hl hk _ ih => exact .list hl hk ih
 | box h => cases h
 | agg hl _ ih => exact .agg hl ih
 | tup hl _ ih => exact .tup hl ih
variable {P : Program} {S : Nat → Spc} {f : Nat} {im : List Nat} {cc : CC} {rs : List CRes} {N : Nat}
theorem finW_bp {tw el b : Nat} {s t : ByteArray} {r d : D} {H : HMap} {z : Z} {T : Z → Option ByteArray} (ht : T z = some t) (h : FinW tw el b (s ++ t) r d H) : FinBQ (Y := Unit) (wtM tw) (wtB el b) (fun _ => r) b (fun x' _ => ∃ t, T z = some t ∧ x'.s = s ++ t) d H := by
 obtain ⟨u, v, h1, h2, h3⟩ := h
 exact ⟨⟨u, v, s ++ t⟩, (), fzNo h1, h2, fun p hp => by simp at hp; subst hp; exact h3, t, ht, rfl⟩
theorem tri_walkW {tw el : Nat} {A : Arg Z} {r : D} {T : Z → Option ByteArray} (hS : ∀ f, Tri P f (S f).pt) (h : FnOk P f im cc rs N) (hN : ∀ z, (A.view z).length + 1 ≤ N) (hw : WalkW cc rs S tw el A r T) : Tri P f (wrC tw el A r T).pt := by
 refine tri_walkBQ (by simp) hS h hN ?_
 rintro b ⟨u, v, s⟩ z ⟨t, ht, hl⟩
 refine vc_mono cc _ _ (fun e σ H h => ?_) (hw b u v s z t ht hl)
 cases e with
 | ex i => exact h
 | _ =>
   simp only [retK] at h ⊢
   exact resL_mono (fun ds h => finW_bp ht h) h
end
end Go.Gv
