/- A part of the framework and of the walks: T28 T27 V17 W61 W68 W69 W70 W71. -/
import Derived.Below
import Derived.WalkKit
import Derived.Lib.Bytealg
import Derived.Shelf.Abstract
import Derived.Shelf.RegionOpen
import Derived.TacticsInMore
import Derived.Lib.Builder
import Derived.Lib.AppendStr
import Derived.Lib.FrozenHead
import Derived.Lib.Strings
import Derived.Lib.Walk
import Derived.Lib.Slices
import Derived.Shelf.RegionOpenPlain
import Derived.Lib.UnsafeStr
import Derived.Test.YtaiffcbkmgfklaaGreatDoorGw17
import Derived.Test.YtaiffcbkmgfklaaGreatDoorGw14
import Derived.Test.YtaiffcbkmgfklaaGreatDoorGw15
set_option linter.unusedSimpArgs false
set_option linter.unusedVariables false
set_option linter.unusedSectionVars false
set_option maxRecDepth 100000

namespace Go.Gv
open Cod (enc dec)
section
variable {tw el : Nat}
def ivPT (tw el : Nat) (G : Nat → Nat → List D → Option ByteArray) (r : D) : PT := fun d ds H K => ∃ (id b : Nat) (x : Wtr) (t : ByteArray), G id b ds = some t ∧ H id = some (.tbox tw b [.v (pv b x.u), .own 900 x.v]) ∧ H 900 = some (.row x.v el 1 (bD x.s)) ∧ id ≠ 900 ∧ x.s.size + t.size ≤ LIMW ∧
 ∀ u v, K r (updH (updH H 900 (some (.row v el 1 (bD (x.s ++ t))))) id (some (.tbox tw b [.v (pv b u), .own 900 v])))
theorem iv_mono (tw el : Nat) (G : Nat → Nat → List D → Option ByteArray) (r : D) : MonoPT (ivPT tw el G r) := fun d ds H K K' hk ⟨id, b, x, t, h1, h2, h3, h4, h5, h6⟩ => ⟨id, b, x, t, h1, h2, h3, h4, h5, fun u v => hk _ _ (h6 u v)⟩
def ivC (tw el : Nat) (G : Nat → Nat → List D → Option ByteArray) (r : D) : Spc := .gen _ (iv_mono tw el G r)
def FinI (tw el id b : Nat) (s : ByteArray) (r d : D) (H : HMap) : Prop := ∃ u v, FrzTo noH d r ∧ H id = some (.tbox tw b [.v (pv b u), .own 900 v]) ∧ H 900 = some (.row v el 1 (bD s))
def WalkI (cc : CC) (rs : List CRes) (S : Nat → Spc) (tw el : Nat) (G : Nat → Nat → List D → Option ByteArray) (r : D) : Prop :=
 ∀ id b u v s ds t, id ≠ 900 → G id b ds = some t → s.size + t.size ≤ LIMW → vc S cc (retK rs fun d H' => FinI tw el id b (s ++ t) r d H') (initS ds) (updH (updH noH 900 (some (.row v el 1 (bD s)))) id (some (.tbox tw b [.v (pv b u), .own 900 v])))
variable {P : Program} {S : Nat → Spc} {f : Nat} {im : List Nat} {cc : CC} {rs : List CRes} {N : Nat}
theorem LeL.refl (ds : List D) : LeL ds ds := ⟨rfl, fun k d d' h h' => by rw [h] at h'; cases h'; exact .same _⟩
theorem tri_walkI {G : Nat → Nat → List D → Option ByteArray} {r : D} (hS : ∀ f, Tri P f (S f).pt) (h : FnOk P f im cc rs N) (hN : ∀ id b ds t, G id b ds = some t → ds.length ≤ N) (hw : WalkI cc rs S tw el G r) : Tri P f (ivC tw el G r).pt := by
 obtain ⟨mix, enter, fn, code, h1, h2, h3, h4, h5⟩ := h
 refine tri_of_vc hS mix h1 h2 enter h3 h4 h5 ?_
 rintro ds H d K ⟨id, b, ⟨u, v, s⟩, t, g1, g2, g3, g4, g5, g6⟩
 simp only at g2 g3 g5 g6
 have hH0 : ∀ i q, updH (updH noH 900 (some (.row v el 1 (bD s)))) id (some (.tbox tw b [.v (pv b u), .own 900 v])) i = some q → (i = id ∧ q = .tbox tw b [.v (pv b u), .own 900 v]) ∨ (i = 900 ∧ q = .row v el 1 (bD s)) := by
  intro i q h
  by_cases e : i = id
  ·subst e
   simp only [updH, if_true] at h
   cases h
   exact .inl ⟨rfl, rfl⟩
  ·by_cases e9 : i = 900
   ·subst e9
    simp [updH, e] at h
    exact .inr ⟨rfl, h.symm⟩
   ·simp [updH, e, e9, noH] at h
 refine ⟨hN id b ds t g1, ds, updH (updH noH 900 (some (.row v el 1 (bD s)))) id (some (.tbox tw b [.v (pv b u), .own 900 v])), fun i => i, LeL.refl ds, fun i q h => ?_, fun i j q q' _ _ e => e, _, hw id b u v s ds t g4 g1 g5, ?_⟩
 ·rcases hH0 i q h with ⟨rfl, rfl⟩ | ⟨rfl, rfl⟩
  ·exact g2
  ·exact g3
 ·rintro d' H' ⟨u', v', k1, k2, k3⟩
  refine ⟨r, noH, updH (updH H 900 (some (.row v' el 1 (bD (s ++ t))))) id (some (.tbox tw b [.v (pv b u'), .own 900 v'])), fun i => if i = id then some id else if i = 900 then some 900 else none, k1, fun j q h => by simp [noH] at h, g6 u' v', fun i q hi => ?_, fun i j k q q' hi hj e1 e2 => ?_⟩
  ·by_cases e : i = id
   ·subst e
    simp only [updH, if_true] at hi ⊢
    cases hi
    exact k2
   ·by_cases e9 : i = 900
    ·subst e9
     simp [updH, e] at hi ⊢
     subst hi
     exact k3
    ·simp only [updH, e, e9, if_false] at hi ⊢
     refine ⟨hi, fun k q hk he => ?_⟩
     rcases hH0 k q hk with ⟨rfl, rfl⟩ | ⟨rfl, rfl⟩
     ·exact e he.symm
     ·exact e9 he.symm
  ·by_cases c1 : i = id
   ·by_cases c2 : j = id
    ·exact c1.trans c2.symm
    ·simp only [c1, if_true] at e1
     cases e1
     simp only [c2, if_false] at e2
     by_cases c3 : j = 900
     ·simp [c3] at e2
      exact absurd e2.symm g4
     ·simp [c3] at e2
   ·simp only [c1, if_false] at e1
    by_cases c3 : i = 900
    ·simp only [c3, if_true] at e1
     cases e1
     by_cases c2 : j = id
     ·simp [c2] at e2
      exact absurd e2 g4
     ·simp only [c2, if_false] at e2
      by_cases c4 : j = 900
      ·exact c3.trans c4.symm
      ·simp [c4] at e2
    ·simp [c3] at e1
theorem ivC_use {G : Nat → Nat → List D → Option ByteArray} {r : D} {i b d : Nat} {ds : List D} {H : HMap} {K : D → HMap → Prop} (h : wrX tw el r (fun t : ByteArray => some t) i b (H i) (H 900) (G i b ds) H K) : (ivC tw el G r).pt d ds H K := by
 obtain ⟨x, h1, h2, h3, h4⟩ := h
 cases hg : G i b ds with
 | none => rw [hg] at h4; exact h4.elim
 | some t =>
   rw [hg] at h4
   have h4 : x.s.size + t.size ≤ LIMW ∧ _ := h4
   exact ⟨i, b, x, t, hg, h1, h2, h3, h4.1, h4.2⟩
end
end Go.Gv

namespace Go.Gv
open Go.RowKit
open Cod (enc dec)
/-- A contract of a function that reads what is given, and writes only what is new. -/
theorem tri_calls {P : Program} {f : Nat} {X Y : Type} {A : Arg X} {pre : X → Prop} {er : Y → D} {post : X → Y → Prop} (hce : CallEnter P f)
 (h : ∀ (tp I : Nat → Prop) (w : World) (vs : List Value) (x : X), pre x → (∀ b, I b → b < w.heap.size) → vs.length = (A.view x).length →
   (∀ (k : Nat) (v : Value) (d : D), vs[k]? = some v → (A.view x)[k]? = some d → R tp I w v d) →
   Calls P f vs.toArray w fun e w' => ∃ v y, e = .returned v ∧ post x y ∧ (∀ tp' I', R tp' I' w' v (er y)) ∧ Below w.heap.size w w' ∧ w.drawn ≤ w'.drawn) : Tri P f (spc A pre er post).pt := by
 intro O tp w vs ds H d K hO htl hsat hlen hargs hA
 rw [spc_pt] at hA
 cases hd : A.dec ds with
 | none => rw [hd] at hA; exact hA.elim
 | some x =>
   rw [hd] at hA
   obtain ⟨hp, hK⟩ := hA
   have hle := A.le ds x hd
   refine ⟨hce, (h tp (Imm O tp H w) w vs x hp (fun b hb => hb.1) (by rw [hlen, hle.1]) (fun k v d h1 h2 => ?_)).mono ?_⟩
   ·have hlt : k < ds.length := by rw [← hlen]; exact (List.getElem?_eq_some_iff.1 h1).1
    have he := List.getElem?_eq_getElem hlt
    exact (hle.2 k _ d he h2).R (H := noH) (fun i r h => by cases h) (fun _ h => h) (fun i r b h => by cases h) (hargs k _ _ h1 he)
   ·rintro e w' ⟨v, y, rfl, hy, hR, hb, hdr⟩
    have hmove : ∀ y e, R tp (Imm O tp H w) w y e → R tp (Imm O tp H w') w' y e := fun y e hr =>
     hr.mono (fun _ h => h) (fun b hb' => ⟨⟨Nat.lt_of_lt_of_le hb'.1 hb.size, hb'.2⟩, hb.block b hb'.1⟩) (fun b hb' => .same (hb.block b (htl b hb')))
    exact ⟨v, er y, H, tp, rfl, hK y hy, fun _ h => h, fun _ h => .inl h, fun b h => Nat.lt_of_lt_of_le (htl b h) hb.size,
     ⟨hb.os, hb.tape, hb.output, hb.size, fun b h1 _ _ => hb.block b h1, fun b h => .same (hb.block b (htl b h)), hdr⟩, fun _ h => .inl h,
     ⟨hsat.dis, hsat.out, fun i r h1 => (hsat.ok i r h1).conv hmove fun b h2 => hb.block b ((hsat.ok i r h1).lt h2)⟩, hR _ _⟩

theorem v_eqq {tp I : Nat → Prop} {w : World} {x y : Value} (h : R tp I w x (.v y)) : x = y := by cases h; rfl
end Go.Gv

namespace Go.Gv
theorem preB_cut {s x : B} {j : Nat} (h : j ≤ s.size) : preB (s.extract j s.size) 0 x = preB s j x := by
 unfold preB
 rw [Bool.eq_iff_iff, decide_eq_true_eq, decide_eq_true_eq, Nat.zero_add, ByteArray.size_extract]
 refine ⟨fun ⟨h1, h2⟩ => ⟨by omega, ?_⟩, fun ⟨h1, h2⟩ => ⟨by omega, ?_⟩⟩
 ·rw [ByteArray.extract_extract, show min (j + x.size) s.size = j + x.size by omega, Nat.add_zero] at h2
  exact h2
 ·rw [ByteArray.extract_extract]
  rw [show min (j + x.size) s.size = j + x.size by omega, Nat.add_zero]
  exact h2
def twoL : List B := [⟨#[60, 47]⟩, ⟨#[33, 61]⟩, ⟨#[58, 58]⟩, ⟨#[37, 99]⟩]
def oneS : B := ⟨#[91, 93, 40, 41, 123, 125, 60, 62, 124, 38, 33, 61, 58, 46, 44, 63, 42, 43, 45]⟩
theorem signs_eq : signsL = twoL ++ oneS.data.toList.map fun c => ⟨#[c]⟩ := rfl
theorem preB_one {s : B} {j : Nat} {c d : UInt8} (h : s.data[j]? = some c) : preB s j ⟨#[d]⟩ = decide (c = d) := by
 have hj : j < s.size := (Array.getElem?_eq_some_iff.1 h).1
 unfold preB
 have e : s.extract j (j + 1) = ⟨#[c]⟩ := by
  apply ByteArray.ext
  rw [ByteArray.data_extract]
  apply Array.ext_getElem?
  intro k
  rw [Array.getElem?_extract]
  rcases k with _ | k
  ·simp [h]
   intro h2
   have : s.data.size = s.size := rfl
   omega
  ·simp
   omega
 show decide (j + 1 ≤ s.size ∧ s.extract j (j + 1) = ⟨#[d]⟩) = _
 rw [e, Bool.eq_iff_iff, decide_eq_true_eq, decide_eq_true_eq]
 refine ⟨fun ⟨_, h2⟩ => ?_, fun h2 => ⟨by omega, by rw [h2]⟩⟩
 have := congrArg (fun b : B => b.data[0]?) h2
 simpa using this
theorem cut_one {s : B} {j : Nat} {c : UInt8} (h : s.data[j]? = some c) : s.extract j (j + 1) = ⟨#[c]⟩ := by
 have := preB_one (d := c) h
 unfold preB at this
 rw [decide_eq_true (rfl : c = c), decide_eq_true_eq] at this
 exact this.2
/-- which sign stands at j -/
theorem find_two {s : B} {j : Nat} (h : ∀ x ∈ twoL, preB s j x = false) : signsL.find? (preB s j) = (oneS.data.toList.map fun c => (⟨#[c]⟩ : B)).find? (preB s j) := by
 rw [signs_eq, List.find?_append]
 have : twoL.find? (preB s j) = none := List.find?_eq_none.2 fun x hx => by rw [h x hx]; simp
 rw [this]
 rfl
theorem find_at {s x : B} {j k : Nat} (hk : twoL[k]? = some x) (h : ∀ y ∈ twoL.take k, preB s j y = false) (hx : preB s j x = true) : signsL.find? (preB s j) = some x := by
 rw [signs_eq, List.find?_append]
 have e : twoL = twoL.take k ++ x :: twoL.drop (k + 1) := by rw [← drop_cons_of hk, List.take_append_drop]
 rw [e, List.find?_append]
 have : (twoL.take k).find? (preB s j) = none := List.find?_eq_none.2 fun x hx => by rw [h x hx]; simp
 rw [this, List.find?_cons, hx]
 rfl
theorem find_one {s : B} {j : Nat} {c : UInt8} (h : s.data[j]? = some c) : ∀ l : List UInt8, (l.map fun c => (⟨#[c]⟩ : B)).find? (preB s j) = if c ∈ l then some ⟨#[c]⟩ else none
 | [] => rfl
 | d :: l => by
   rw [List.map_cons, List.find?_cons, preB_one h, find_one h l]
   by_cases e : c = d
   ·subst e; simp
   ·simp [e]
theorem idxB_mem (s : B) (c : UInt8) : 0 ≤ idxB s ⟨c.toNat⟩ ↔ c ∈ s.data.toList := by
 unfold idxB
 cases h : s.data.toList.findIdx? (fun x => decide ((x.toNat : Int) = (⟨c.toNat⟩ : U8).val)) with
 | none =>
   rw [List.findIdx?_eq_none_iff] at h
   refine ⟨fun h' => absurd h' (by decide), fun h' => ?_⟩
   have := h c h'
   simp at this
 | some k =>
   refine ⟨fun _ => ?_, fun _ => Int.natCast_nonneg k⟩
   obtain ⟨hk, h1, _⟩ := List.findIdx?_eq_some_iff_getElem.1 h
   simp at h1
   have h1 : ((s.data.toList[k]).toNat : Int) = c.toNat := by simpa using h1
   have : s.data.toList[k] = c := UInt8.toNat_inj.1 (Int.ofNat_inj.1 h1)
   rw [← this]
   exact List.getElem_mem hk
end Go.Gv

namespace Go.Gv
open Cod (enc dec)
variable {S S0 : Nat → Spc}
theorem lexP_end {s : B} {i : Nat} (h : skipF s i = s.size) : lexP s i = (⟨0, E0, s.size⟩, (s.size : Int)) := by
 have : s.data[skipF s i]? = none := by
  rw [h]
  exact Array.getElem?_eq_none (Nat.le_refl _)
 unfold lexP
 simp only [this]
 rw [h]
theorem lexP_at {s : B} {i j : Nat} {c : UInt8} (hj : skipF s i = j) (h : s.data[j]? = some c) : lexP s i =
 if letP ⟨c.toNat⟩ then (⟨2, s.extract j (namF s j), j⟩, (namF s j : Int))
 else if digP ⟨c.toNat⟩ then (⟨3, s.extract j (digF s j), j⟩, (digF s j : Int))
 else if c.toNat = 34 then (if (quoP s j).2 < 0 then (⟨1, E0, j⟩, (s.size : Int)) else (⟨4, (quoP s j).1, j⟩, (quoP s j).2))
 else match signsL.find? (preB s j) with
  | some x => (⟨5, x, j⟩, j + x.size)
  | none => (⟨1, E0, j⟩, (j : Int)) := by
 unfold lexP
 simp only [hj, h]
 rfl
abbrev s_q_quoted : Spc := spc (a2 B Int) (fun x => (0 ≤ x.2 ∧ x.2 < x.1.size) ∧ x.1.size ≤ 100000) (er2 (Y := B) (Z := Int)) fun x y => y = quoP x.1 x.2.toNat
abbrev s_q_lex : Spc := spc (a2 B Int) (fun x => (0 ≤ x.2 ∧ x.2 ≤ x.1.size) ∧ x.1.size ≤ 100000) (er2 (Y := Lxm) (Z := Int)) fun x y => y = lexP x.1 x.2.toNat
theorem w_query_lex (a1' : S0 f_query_lex_1 = s_q_space) (a2' : S0 f_query_lex_2 = s_q_name) (a3' : S0 f_query_digit = s_q_digit) (h1 : S f_query_run = s_q_run S0) (h2 : S f_query_letter = s_q_letter) (h3 : S f_query_digit = s_q_digit) (h4 : S f_query_quoted = s_q_quoted) (h5 : S f_strings_HasPrefix = s_hasPrefix) (h6 : S f_strings_IndexByte = s_indexByte) :
 Walk cc_query_lex rs_query_lex S (a2 B Int) (fun x => (0 ≤ x.2 ∧ x.2 ≤ x.1.size) ∧ x.1.size ≤ 100000) (er2 (Y := Lxm) (Z := Int)) fun x y => y = lexP x.1 x.2.toNat := by
 rintro ⟨s, i⟩ ⟨⟨h0, hi⟩, hbig⟩
 simp only at h0 hi hbig
 have f1 : FunIs S0 (.clo f_query_lex_1 []) spP := funIs_nm a1' fun _ => trivial
 have f2 : FunIs S0 (.clo f_query_lex_2 []) namP := funIs_nm a2' fun _ => trivial
 have f3 : FunIs S0 (.clo f_query_digit []) digP := funIs_nm a3' fun _ => trivial
 have r1 : P_run S0 (s, i, .clo f_query_lex_1 [], ()) := ⟨⟨_, f1⟩, h0, hi⟩
 simp [cc_query_lex, rs_query_lex, h1, r1]
 intro b y hy
 have hy : y = runP spP s i.toNat := hy spP f1
 have hj : runP spP s i.toNat = skipF s i.toNat := run_skip _ _ _
 have hr := runP_rng spP (s := s) (i := i.toNat) (by omega)
 rw [hj] at hy hr
 obtain ⟨j, hjj⟩ : ∃ j, j = skipF s i.toNat := ⟨_, rfl⟩
 rw [← hjj] at hy hr
 subst hy
 refine vc_mid (X := Unit) [0, 1, 4] [4] (fun _ => j < s.size ∧ (s.size : Int) ≤ 9223372036854775807) (fun _ => []) (fun _ => []) ?_ ?_
 ·simp
  refine fun hsz => ⟨fun he => ⟨⟨0, E0, j⟩, .same _, ?_⟩, fun h => ⟨by omega, hsz⟩⟩
  have he : j = s.size := by omega
  rw [lexP_end (by rw [← hjj]; exact he), he]
 ·rintro - ⟨hlt, hsz⟩
  obtain ⟨c, hc⟩ : ∃ c, s.data[j]? = some c := ⟨s.data[j]'hlt, Array.getElem?_eq_getElem hlt⟩
  have hl := lexP_at hjj.symm hc
  have r2 : P_run S0 (s, (j : Int), .clo f_query_lex_2 [], ()) := ⟨⟨_, f2⟩, by show (0 : Int) ≤ j; omega, by show (j : Int) ≤ s.size; omega⟩
  have r3 : P_run S0 (s, (j : Int), .clo f_query_digit [], ()) := ⟨⟨_, f3⟩, by show (0 : Int) ≤ j; omega, by show (j : Int) ≤ s.size; omega⟩
  have hgc : s.data[j]'hlt = c := by
   have := Array.getElem?_eq_some_iff.1 hc
   exact this.2
  simp [hlt, hc, hgc]
  refine vc_mid (X := Unit) [0, 1, 4, 6] [4] (fun _ => letP ⟨c.toNat⟩ = false ∧ digP ⟨c.toNat⟩ = false ∧ c.toNat ≠ 34) (fun _ => []) (fun _ => []) ?_ ?_
  ·have e2 : ∀ y : Int, Q_run S0 (s, (j : Int), .clo f_query_lex_2 [], ()) y → y = namF s j := fun y hy => by
    have : y = runP namP s j := hy namP f2
    rw [this]; exact congrArg _ (run_nam _ _ _)
   have e3 : ∀ y : Int, Q_run S0 (s, (j : Int), .clo f_query_digit [], ()) y → y = digF s j := fun y hy => by
    have : y = runP digP s j := hy digP f3
    rw [this]; exact congrArg _ (run_dig _ _ _)
   have g2 : j ≤ namF s j ∧ namF s j ≤ s.size := by
    have := runP_rng namP hr.2
    rwa [show runP namP s j = namF s j from run_nam _ _ _] at this
   have g3 : j ≤ digF s j ∧ digF s j ≤ s.size := by
    have := runP_rng digP hr.2
    rwa [show runP digP s j = digF s j from run_dig _ _ _] at this
   simp [h1, h2, h3, h4, r2, r3, hlt, hbig, er2, -Bool.forall_bool]
   refine ⟨fun hb y hy => ?_, fun hb => ⟨fun hd y hy => ?_, fun hd => ⟨fun hq => ?_, fun hq => ?_⟩⟩⟩
   ·have := e2 y hy
    subst this
    refine ⟨by omega, by omega, ⟨2, s.extract j (namF s j), j⟩, .same _, ?_⟩
    rw [hl, if_pos hb]
   ·have := e3 y hy
    subst this
    refine ⟨by omega, by omega, ⟨3, s.extract j (digF s j), j⟩, .same _, ?_⟩
    rw [hl, if_neg (by rw [hb]; simp), if_pos hd]
   ·have hq' : c.toNat = 34 := by omega
    refine ⟨fun hn _ => ⟨⟨1, E0, j⟩, .same _, ?_⟩, fun hn => ⟨⟨4, (quoP s j).1, j⟩, .same _, ?_⟩⟩
    ·rw [hl, if_neg (by rw [hb]; simp), if_neg (by rw [hd]; simp), if_pos hq', if_pos hn]
    ·rw [hl, if_neg (by rw [hb]; simp), if_neg (by rw [hd]; simp), if_pos hq', if_neg (by omega)]
   ·exact ⟨hb, hd, by omega⟩
  ·rintro - ⟨n1, n2, n3⟩
   have hl : lexP s i.toNat = match signsL.find? (preB s j) with
    | some x => (⟨5, x, j⟩, j + x.size)
    | none => (⟨1, E0, j⟩, (j : Int)) := by
    rw [hl, if_neg (by rw [n1]; simp), if_neg (by rw [n2]; simp), if_neg n3]
   refine vc_mid (X := Unit) [0, 1, 4, 6] [4] (fun _ => ∀ x ∈ twoL, preB s j x = false) (fun _ => []) (fun _ => []) ?_ ?_
   ·simp
    have hjs : j ≤ s.size := hr.2
    have two : ∀ x ∈ twoL, x.size = 2 := fun x hx => by simp [twoL] at hx; rcases hx with rfl | rfl | rfl | rfl <;> rfl
    refine vc_range (X := Unit) [0, 1, 4, 6, 71] [4] 4 (fun k _ => ∀ y ∈ twoL.take k, preB s j y = false) (fun _ => []) (fun _ => []) () (by simp) (by simp) (by omega) (by simp) (by simp) (by simp) (by simp) (by simp) ?_ ?_
    ·rintro k - hk hP
     have key : ∀ x, twoL[k]? = some x → (preB (s.extract j s.size) 0 x = true → InR .i64 ((j : Int) + 2) ∧ ∃ y : Lxm, y = ⟨5, x, j⟩ ∧ (y, (j : Int) + 2) = lexP s i.toNat) ∧ (preB (s.extract j s.size) 0 x = false → ∀ y ∈ twoL.take (k + 1), preB s j y = false) := fun x hx => by
      rw [preB_cut hjs]
      refine ⟨fun h => ?_, fun h y hy => ?_⟩
      ·have h2 := two x (List.mem_of_getElem? hx)
       have h3 : j + x.size ≤ s.size := by unfold preB at h; exact (of_decide_eq_true h).1
       refine ⟨by simp only [InR]; omega, _, rfl, ?_⟩
       rw [hl, find_at hx hP h]
       show _ = (_, (j : Int) + x.size)
       rw [h2]
       rfl
      ·rw [take_snoc hx] at hy
       rcases List.mem_append.1 hy with hy | hy
       ·exact hP y hy
       ·rw [List.mem_singleton.1 hy]; exact h
     obtain rfl | rfl | rfl | rfl : k = 0 ∨ k = 1 ∨ k = 2 ∨ k = 3 := by omega
     ·have key := key _ rfl
      simp [h5, hjs, -Bool.forall_bool]
      refine ⟨fun h => ?_, fun h => key.2 h⟩
      obtain ⟨k1, y, rfl, k2⟩ := key.1 h
      exact ⟨k1, _, .same _, k2⟩
     ·have key := key _ rfl
      simp [h5, hjs, -Bool.forall_bool]
      refine ⟨fun h => ?_, fun h => key.2 h⟩
      obtain ⟨k1, y, rfl, k2⟩ := key.1 h
      exact ⟨k1, _, .same _, k2⟩
     ·have key := key _ rfl
      simp [h5, hjs, -Bool.forall_bool]
      refine ⟨fun h => ?_, fun h => key.2 h⟩
      obtain ⟨k1, y, rfl, k2⟩ := key.1 h
      exact ⟨k1, _, .same _, k2⟩
     ·have key := key _ rfl
      simp [h5, hjs, -Bool.forall_bool]
      refine ⟨fun h => ?_, fun h => key.2 h⟩
      obtain ⟨k1, y, rfl, k2⟩ := key.1 h
      exact ⟨k1, _, .same _, k2⟩
    ·rintro - hP
     simp
     exact fun x hx => hP x (by rw [show twoL.take 4 = twoL from rfl]; exact hx)
   ·rintro - htw
    have hf : signsL.find? (preB s j) = if c ∈ oneS.data.toList then some ⟨#[c]⟩ else none := by rw [find_two htw, find_one hc]
    rw [hf] at hl
    have hm := idxB_mem oneS c
    unfold oneS at hm hl
    have c256 : (c.toNat : Int) < 256 := by have := c.toNat_lt; omega
    simp [h6, c256]
    refine ⟨fun h => ⟨by simp only [InR]; omega, by omega, by omega, by simp only [InR]; omega, ⟨5, s.extract j (j + 1), j⟩, .same _, ?_⟩, fun h => ⟨⟨1, E0, j⟩, .same _, ?_⟩⟩
    ·rw [hl, if_pos (hm.1 h), cut_one hc]
     rfl
    ·rw [hl, if_neg (fun h' => by have := hm.2 h'; omega)]
end Go.Gv

namespace Go.Gv
open Cod (enc dec)
variable {S S0 : Nat → Spc}
def bDs (l : List UInt8) : List D := l.map fun c => .v (.int .u8 c.toNat)
theorem asBy_c (c : UInt8) : asBy (.v (.int .u8 c.toNat)) = some c := by simp [asBy]
theorem byL_bDs (l : List UInt8) : byL (bDs l) = true := by
 simp [byL, bDs, List.all_eq_true]
 intro c _
 rw [asBy_c]; rfl
theorem byS_bDs (l : List UInt8) : byS (bDs l) = ⟨l.toArray⟩ := by
 unfold byS bDs
 rw [List.map_map]
 congr 2
 conv => rhs; rw [← List.map_id l]
 refine List.map_congr_left fun c _ => ?_
 simp only [Function.comp]
 rw [asBy_c]; rfl
theorem quoNG_fuel : ∀ (n m : Nat) (s : B) (j : Nat) (v : B), s.size - j ≤ n → s.size - j ≤ m → quoNG n s j v = quoNG m s j v
 | 0, 0, s, j, v, _, _ => rfl
 | 0, m + 1, s, j, v, h, _ => by
   have : s.data[j]? = none := Array.getElem?_eq_none (by show s.size ≤ j; omega)
   simp only [quoNG, this]
 | n + 1, 0, s, j, v, _, h => by
   have : s.data[j]? = none := Array.getElem?_eq_none (by show s.size ≤ j; omega)
   simp only [quoNG, this]
 | n + 1, m + 1, s, j, v, h, h' => by
   simp only [quoNG]
   rw [quoNG_fuel n m s (j + 1) _ (by omega) (by omega), quoNG_fuel n m s (j + 2) _ (by omega) (by omega)]
theorem quoG_step {s : B} {j : Nat} {v : B} {c : UInt8} (hc : s.data[j]? = some c) : quoG s j v = if c.toNat = 34 then (match s.data[j + 1]? with
 | some d => if d.toNat = 34 then quoG s (j + 2) (v ++ s.extract (j + 1) (j + 2)) else some (j, v)
 | none => some (j, v)) else quoG s (j + 1) (v ++ s.extract j (j + 1)) := by
 have hlt : j < s.size := (Array.getElem?_eq_some_iff.1 hc).1
 unfold quoG
 rw [quoNG_fuel (s.size - j) (s.size - (j + 1) + 1) s j v (by omega) (by omega)]
 simp only [quoNG, hc]
 rw [quoNG_fuel (s.size - (j + 2)) (s.size - (j + 1)) s (j + 2) _ (by omega) (by omega)]
 by_cases h : c.toNat = 34
 ·rw [if_pos h, if_pos h]
  cases s.data[j + 1]? <;> rfl
 ·rw [if_neg h, if_neg h]
theorem quoG_end {s : B} {j : Nat} {v : B} (h : s.size ≤ j) : quoG s j v = none := by
 unfold quoG
 rw [show s.size - j = 0 by omega]
 rfl
theorem push_one (l : List UInt8) (c : UInt8) : (⟨l.toArray⟩ : B) ++ ⟨#[c]⟩ = ⟨(l ++ [c]).toArray⟩ := by
 show ByteArray.append _ _ = _
 apply ByteArray.ext
 show ((⟨l.toArray⟩ : B) ++ (⟨#[c]⟩ : B)).data = _
 rw [ByteArray.data_append]
 simp
theorem w_query_quoted : Walk cc_query_quoted rs_query_quoted S (a2 B Int) (fun x => (0 ≤ x.2 ∧ x.2 < x.1.size) ∧ x.1.size ≤ 100000) (er2 (Y := B) (Z := Int)) fun x y => y = quoP x.1 x.2.toNat := by
 rintro ⟨s, i⟩ ⟨⟨h0, hi⟩, hb⟩
 simp only at h0 hi hb
 simp [cc_query_quoted, rs_query_quoted]
 refine ⟨by simp only [InR]; omega, ?_⟩
 refine vc_while (X := Nat × Value × List UInt8) [0] [] (fun x => i.toNat < x.1 ∧ x.2.2.length ≤ x.1 ∧ x.1 ≤ s.size + 1 ∧ quoG s x.1 ⟨x.2.2.toArray⟩ = quoG s (i.toNat + 1) ⟨#[]⟩) (fun x => [(6, .own 43 x.2.1), (7, enc (x.1 : Int))]) (fun x => [(43, .row x.2.1 ty_uint8 1 (bDs x.2.2))]) (fun x => s.size + 1 - x.1) (i.toNat + 1, .slice none 0 0, []) ⟨by omega, by simp, by omega, rfl⟩ (by simp; omega) (by simp [isNilRow, bDs]) ?_
 rintro ⟨k, v, l⟩ ⟨hk, hl, hks, hq⟩
 simp only at hk hl hks hq
 simp
 have hlen : (bDs l).length = l.length := by simp [bDs]
 have done : ∀ {c : UInt8}, s.data[k]? = some c → c.toNat = 34 → (∀ d, s.data[k + 1]? = some d → d.toNat ≠ 34) → (byS (bDs l), (k : Int) + 1) = quoP s i.toNat := by
  intro c hc h34 hno
  unfold quoP
  rw [← hq, quoG_step hc, if_pos h34, byS_bDs]
  cases hd : s.data[k + 1]? with
  | none => rfl
  | some d =>
    simp only
    rw [if_neg (hno d hd)]
 have more : ∀ (v : Value) (a : Nat) (c : UInt8), k < a → a ≤ s.size + 1 → quoG s a ⟨(l ++ [c]).toArray⟩ = quoG s (i.toNat + 1) ⟨#[]⟩ → ∀ z : Int, z = a →
  ∃ (a : Nat) (a_1 : Value) (b : List UInt8), (i.toNat < a ∧ b.length ≤ a ∧ a ≤ s.size + 1 ∧ quoG s a ⟨b.toArray⟩ = quoG s (i.toNat + 1) ⟨#[]⟩) ∧
   ((v = a_1 ∧ z = ↑a) ∧ (v = a_1 ∧ bDs l ++ [D.v (Value.int IntKind.u8 ↑c.toNat)] = bDs b ∨ isNilRow (Res.row a_1 ty_uint8 1 (bDs b)))) ∧ s.size + 1 - a < s.size + 1 - k := by
  intro v a c h1 h2 h3 z hz
  exact ⟨a, v, l ++ [c], ⟨by omega, by simp; omega, h2, h3⟩, ⟨⟨rfl, hz⟩, .inl ⟨rfl, by simp [bDs]⟩⟩, by omega⟩
 refine fun hsz => ⟨fun hlt => ⟨hlt, fun c hc => ⟨fun h34 => ⟨by simp only [InR]; omega, fun _ => ⟨fun hne => ⟨by simp only [InR]; omega, by omega, by omega, fun d hd => ⟨fun hn => ⟨byL_bDs l, by simp only [InR]; omega, ?_⟩, fun hy => ⟨by simp only [InR]; omega, by omega, by omega, fun d' hd' => ⟨by omega, fun v => ⟨by simp only [InR]; omega, ?_⟩⟩⟩⟩⟩, fun he => ⟨byL_bDs l, by simp only [InR]; omega, ?_⟩⟩⟩, fun h34 => ⟨hlt, fun c' hc' => ⟨by omega, fun v => ⟨by simp only [InR]; omega, ?_⟩⟩⟩⟩⟩, fun hge => ?_⟩
 ·exact done hc (by omega) fun d' hd' => by rw [hd] at hd'; cases hd'; omega
 ·rw [hd] at hd'
  cases hd'
  refine more v (k + 2) d (by omega) (by omega) ?_ _ (by omega)
  rw [← hq, quoG_step hc, if_pos (by omega), hd]
  simp only
  rw [if_pos (by omega), cut_one hd, push_one]
 ·exact done hc (by omega) fun d' hd' => by
   have := (Array.getElem?_eq_some_iff.1 hd').1
   have : k + 1 < s.size := this
   omega
 ·rw [hc] at hc'
  cases hc'
  refine more v (k + 1) c (by omega) (by omega) ?_ _ (by omega)
  rw [← hq, quoG_step hc, if_neg (by omega), cut_one hc, push_one]
 ·unfold quoP
  rw [← hq, quoG_end hge]
end Go.Gv

namespace Go.Gv
open Cod (enc dec)
open Go.Proofs Go.RowKit
theorem idxB_lib (s : B) (c : Int) (c0 : 0 ≤ c) (c1 : c < 256) : Lib.indexByte s.data.toList c.toNat.toUInt8 = idxB s ⟨c⟩ := by
 unfold idxB
 have e : ∀ x : UInt8, (x == c.toNat.toUInt8) = decide ((x.toNat : Int) = c) := fun x => by
  have h1 : c.toNat.toUInt8.toNat = c.toNat := by
   rw [Nat.toUInt8, UInt8.toNat_ofNat']
   omega
  rw [Bool.eq_iff_iff]
  simp only [beq_iff_eq, decide_eq_true_eq]
  constructor
  ·rintro rfl
   omega
  ·intro h
   exact UInt8.toNat_inj.1 (by omega)
 have key : ∀ l : List UInt8, Lib.indexByte l c.toNat.toUInt8 = match l.findIdx? (fun x => decide ((x.toNat : Int) = c)) with
  | some k => (k : Int)
  | none => -1 := by
  intro l
  induction l with
  | nil => rfl
  | cons x l ih =>
    rw [Lib.indexByte, List.findIdx?_cons, e x]
    by_cases h : (x.toNat : Int) = c
    ·simp [h]
    ·simp only [h, decide_false, Bool.false_eq_true, if_false]
     rw [ih]
     cases l.findIdx? (fun x => decide ((x.toNat : Int) = c)) with
     | none => rfl
     | some k =>
       have : ¬ ((k : Int) = -1) := by omega
       simp [this]
 exact key _
theorem calls_IndexByte (s : ByteArray) (c : Int) (w : World) : Calls Tryz.prog 180 #[.string s, .int .u8 c] w fun e w' => e = .returned (.int .i64 (Lib.indexByte s.data.toList c.toNat.toUInt8)) ∧ w' = w := by
 go_enter Tryz.func180, Tryz.ntmps180
 go_wp2
 rw [run_callFunc_extern Tryz.func190 (by kernel_rfl) (by kernel_rfl) (by kernel_rfl) (e := Extern.BytealgIndexByte.indexByte) (by kernel_rfl), Lib.run_indexByteString]
 simp only [Result.andThen]
 rw [Oper.upon_value]
 go_wp2
 go_ret
 exact ⟨rfl, rfl⟩
theorem t_stringslite_IndexByte : Tri Tryz.prog f_internal_stringslite_IndexByte s_indexByte.pt := by
 refine tri_calls (callEnter Tryz.func180 (by kernel_rfl) rfl) fun tp I w vs x hp hI hl hv => ?_
 obtain ⟨s, ⟨c⟩⟩ := x
 obtain ⟨c0, c1⟩ := hp
 have hview : (a2 B U8).view (s, ⟨c⟩) = [.v (.string s), .v (.int .u8 c)] := rfl
 rw [hview] at hl hv
 match vs, hl with
 | [v0, v1], _ =>
   have e0 := v_eqq (hv 0 v0 _ rfl rfl)
   have e1 := v_eqq (hv 1 v1 _ rfl rfl)
   subst e0; subst e1
   refine (calls_IndexByte s c w).mono ?_
   rintro e w' ⟨rfl, rfl⟩
   refine ⟨_, idxB s ⟨c⟩, rfl, rfl, fun tp' I' => ?_, Below.refl _ _, Nat.le_refl _⟩
   rw [idxB_lib s c c0 c1]
   exact .int _ _
end Go.Gv

namespace Go.Gv
open Cod (enc dec)
open Go.Proofs Go.RowKit
theorem copyCheck_used (b : Nat) (w : World) (h0 : w.cell? ⟨b, 0, none⟩ = some (.pointer (some ⟨b, 0, none⟩))) :
 Calls Tryz.prog 119 #[.pointer (some ⟨b, 0, none⟩)] w fun e w' => e = .returned (.tuple #[]) ∧ w' = w := by
 obtain ⟨j, hj, hjs⟩ := Option.map_eq_some_iff.1 (show (Tryz.prog.info? 106).map (·.size) = some 2 by kernel_rfl)
 have t104 : Tryz.prog.underlying 104 = some (.pointer 106) := by kernel_rfl
 go_enter Tryz.func119, Tryz.ntmps119
 go_wp2
 rw [Lib.run_neq_ptr_same w _ t104 hj]
 go_wp2
 go_end0
 exact ⟨rfl, rfl⟩
theorem copyCheck_fresh (b : Nat) (w : World) (h0 : w.cell? ⟨b, 0, none⟩ = some (.pointer none)) (hsh : w.shape? b = some (108, 2)) (hfz : w.frozen? ⟨b, 0, none⟩ = false) :
 Calls Tryz.prog 119 #[.pointer (some ⟨b, 0, none⟩)] w fun e w' => e = .returned (.tuple #[]) ∧ w' = w.setCell ⟨b, 0, none⟩ (.pointer (some ⟨b, 0, none⟩)) := by
 obtain ⟨j, hj, hjs⟩ := Option.map_eq_some_iff.1 (show (Tryz.prog.info? 106).map (·.size) = some 2 by kernel_rfl)
 have t104 : Tryz.prog.underlying 104 = some (.pointer 106) := by kernel_rfl
 have t155 : Tryz.prog.underlying 155 = some .unsafePointer := by kernel_rfl
 have hlies : liesAt Tryz.prog Tryz.prog.depth 108 (2 / Tryz.prog.cellsOf 108) 0 106 1 = true := by kernel_rfl
 go_enter Tryz.func119, Tryz.ntmps119
 go_wp2
 rw [Lib.run_to_unsafe w ⟨b, 0, none⟩ t104 t155 hj (by rw [hjs]; decide) hsh (Nat.zero_lt_succ 1)]
 simp only [Result.andThen]
 rw [Oper.upon_value]
 go_wp2
 rw [run_callFunc_extern Tryz.func148 (by kernel_rfl) (by kernel_rfl) (by kernel_rfl) (e := Extern.AbiNoEscape.same) (by kernel_rfl)]
 rw [Lib.run_noEscape]
 simp only [Result.andThen]
 rw [Oper.upon_value]
 go_wp2
 rw [Lib.run_from_unsafe w ⟨b, 0, none⟩ t155 t104 hj hsh hlies]
 simp only [Result.andThen]
 rw [Oper.upon_value]
 go_wp2
 go_end0
 exact ⟨rfl, rfl⟩
/-! ### append(b, s...) -/
section
variable {P : Program} {w : World}
theorem app_run_str (t u ty e : TypeId) (i : TypeInfo) (ht : P.underlying t = some (.slice e)) (hu : P.underlying u = some .string) (hi : P.info? e = some i) (hz : i.zero = some (.int .u8 0)) (hsize : i.size = 1) (hby : i.bytes = 1)
 (v : Value) (n : Nat) (xs : List Value) (hown : w.ownsRow 0 e 1 v n xs) (s : ByteArray) (hb : n + s.size ≤ 140737488355328) :
 ∃ v' w', (Builtin.append_ #[t, u] ty #[v, .string s]).run P w = .ok v' w' ∧ w'.ownsRow 0 e 1 v' (n + s.size) (xs ++ Lib.strCells s) ∧ GrB w w' v.ownBlock ∧ (∀ b, v'.ownBlock = some b → w.heap.size ≤ b ∨ v.ownBlock = some b) := by
 have hm : n + s.size ≤ maxLen := by simp only [maxLen]; omega
 have hxl : xs.length = n := by simpa using hown.1
 have hlen : (xs ++ Lib.strCells s).length = (n + s.size) * 1 := by rw [List.length_append, hxl, Lib.strCells_length, Nat.mul_one]
 have grown : ∀ (old : Nat), old < n + s.size → ∀ (row : Option Nat),
  (w.drew.alloc (.cells (xs.toArray ++ (Lib.strCells s).toArray ++ Builtin.zeroCells (Value.int .u8 0).cells (grownCap w (n + s.size) old e - (n + s.size))) e)).ownsRow 0 e 1
    (.slice (some ⟨w.heap.size, 0, none⟩) (n + s.size) (grownCap w (n + s.size) old e)) (n + s.size) (xs ++ Lib.strCells s) ∧
  GrB w (w.drew.alloc (.cells (xs.toArray ++ (Lib.strCells s).toArray ++ Builtin.zeroCells (Value.int .u8 0).cells (grownCap w (n + s.size) old e - (n + s.size))) e)) row := by
  intro old ho row
  have hge := grownCap_ge w (n + s.size) old e
  have hcm : grownCap w (n + s.size) old e ≤ maxLen := grownCap_le_maxLen w (n + s.size) old e hm
  refine ⟨⟨hlen, .inr ⟨w.heap.size, _, _, rfl, Nat.zero_le _, heap_alloc_new w.drew _, hge, hcm, ?_, ?_⟩⟩, ⟨⟨rfl, rfl, rfl, by simp, fun k hk _ => RowKit.Below.heap_alloc w.drew _ k hk⟩, Nat.le_succ _⟩⟩
  ·have hz1 : (Value.int IntKind.u8 0).cells.size = 1 := rfl
   simp only [Array.size_append, List.size_toArray, size_zeroCells, hz1, hxl, Lib.strCells_length]
   omega
  ·simp only [Array.toList_append, List.append_assoc]
   rw [← List.append_assoc, ← hlen]
   exact List.take_left
 rcases hown.2 with ⟨rfl, rfl⟩ | ⟨g, cap, cur, rfl, hbg, hg, hnc, hcm, hcs, htake⟩
 ·have hx : xs = [] := List.eq_nil_of_length_eq_zero hxl
  subst hx
  by_cases hm0 : s.size = 0
  ·have hn : Lib.strCells s = [] := List.eq_nil_of_length_eq_zero (by rw [Lib.strCells_length]; exact hm0)
   refine ⟨.slice none 0 0, w, ?_, by rw [hm0, hn]; exact World.ownsRow_nil w 0 e 1, grownBy_refl _ _, fun b hb => by simp [Value.ownBlock] at hb⟩
   have hf := Lib.run_firstCells_string (P := P) w 1 s
   rw [hm0] at hf
   simp [Builtin.append_, run_underlying ht, run_underlying hu, sizeOf, typeInfo, hi, hsize, Builtin.lenOf, hm0, hf]
  ·have hr := run_append_nil_string (P := P) w t u ty e i (.int .u8 0) ht hu hi hz s (by omega) (by simp only [maxLen] at hm; omega) (by rw [hby]; omega)
   have hgr := grown 0 (by omega) (Value.ownBlock (.slice none 0 0))
   simp only [Nat.zero_add, List.nil_append, Array.empty_append] at hgr ⊢
   have e1 : (s.data.map fun b => Value.int .u8 b.toNat) = (Lib.strCells s).toArray := by
    apply Array.ext'
    simp [Lib.strCells]
   rw [e1] at hr
   exact ⟨_, _, hr, hgr.1, hgr.2, fun b hb => .inl (by simp [Value.ownBlock] at hb; omega)⟩
 ·by_cases hroom : n + s.size ≤ cap
  ·have hcs' : cur.size = cap := by simpa using hcs
   have hr := Lib.run_append_room_string (P := P) w t u ty e i ht hu hi hsize g n cap cur hg s hroom (by omega)
   refine ⟨_, _, hr, ⟨hlen, .inr ⟨g, cap, _, rfl, hbg, setRow_heap w g cur _ e _ hg, hroom, hcm, ?_, ?_⟩⟩, grownBy_setRow _ _ _, fun b hb => .inr hb⟩
   ·simp only [List.size_toArray, List.length_append, List.length_take, List.length_drop, Array.length_toList, Lib.strCells_length]
    omega
   ·have ht' : cur.toList.take n = xs := by simpa using htake
    rw [ht', ← hlen]
    exact List.take_left
  ·have holds : ∀ j u, xs[j]? = some u → w.cell? ((⟨g, 0, none⟩ : Addr).add j) = some u := hown.cells (g := g) rfl
   have hr := Lib.run_append_grow_string (P := P) w t u ty e i (.int .u8 0) ht hu hi hz ⟨g, 0, none⟩ n cap xs (by rw [hsize]; simpa using hxl) holds s (by omega) (by omega) (by rw [hby]; exact growslice_fits (by omega) (by omega))
   have hgr := grown cap (by omega) (Value.ownBlock (.slice (some ⟨g, 0, none⟩) n cap))
   exact ⟨_, _, hr, hgr.1, hgr.2, fun b hb => .inl (by simp [Value.ownBlock] at hb; omega)⟩
theorem wpList_app_str {ops : Array Oper} {rest : List Oper} {o : Oper} {a : Act} {Q : Exit → Act → World → Prop} (hgd : o.guard = none) (sl x : Operand) (t u : TypeId)
 (ho : o.op = .call { callee := .builtin .append, args := #[sl, x], argTypes := #[t, u] })
 (e : TypeId) (i : TypeInfo) (ht : P.underlying t = some (.slice e)) (hu : P.underlying u = some .string) (hi : P.info? e = some i) (hz : i.zero = some (.int .u8 0))
 (hsize : i.size = 1) (hby : i.bytes = 1)
 (v : Value) (n : Nat) (xs : List Value) (hs : a.eval sl = v) (hown : w.ownsRow 0 e 1 v n xs) (s : ByteArray) (hx : a.eval x = .string s) (hbytes : n + s.size ≤ 140737488355328)
 (h : ∀ v' w', w'.ownsRow 0 e 1 v' (n + s.size) (xs ++ Lib.strCells s) → GrB w w' v.ownBlock → (∀ b, v'.ownBlock = some b → w.heap.size ≤ b ∨ v.ownBlock = some b) → wpList P ops Q rest (a.put o.dst v') w') : wpList P ops Q (o :: rest) a w := by
 refine wpList_plain hgd fun K hK => ?_
 obtain ⟨v', w', hr, h2, h3, h4⟩ := app_run_str (P := P) (w := w) t u o.type e i ht hu hi hz hsize hby v n xs hown s hbytes
 unfold Oper.wp execOp
 simp only [ho, resolve, invoke, builtin, Sem.run_bind, Sem.run_pure, Result.andThen_ok, List.map_toArray, List.map_cons, List.map_nil, hs, hx, hr]
 exact hK _ _ (h v' w' h2 h3 h4)
end
/-! ### WriteString -/
/-- the world behind copyCheck -/
def ccW (b : Nat) (u : Bool) (w : World) : World := if u then w else w.setCell ⟨b, 0, none⟩ (.pointer (some ⟨b, 0, none⟩))
theorem copyCheck_all (b : Nat) (u : Bool) (v : Value) (w : World) (hbk : w.heap[b]? = some (.cells #[pv b u, v] 108 (0, 0))) : Calls Tryz.prog 119 #[.pointer (some ⟨b, 0, none⟩)] w fun e w' => e = .returned (.tuple #[]) ∧ w' = ccW b u w := by
 cases u with
 | true => exact copyCheck_used b w (by rw [Lib.cell_of_heap hbk]; rfl)
 | false => exact copyCheck_fresh b w (by rw [Lib.cell_of_heap hbk]; rfl) (by simp [World.shape?, hbk]) (Lib.frozen_of_heap hbk 0)
theorem ccW_other {b : Nat} {u : Bool} {w : World} (k : Nat) (h : k ≠ b) : (ccW b u w).heap[k]? = w.heap[k]? := by
 cases u with
 | true => rfl
 | false => exact heap_setCell_other w ⟨b, 0, none⟩ k _ h
theorem calls_WriteString (b : Nat) (u : Bool) (v : Value) (n : Nat) (xs : List Value) (t : ByteArray) (w : World) (hbk : w.heap[b]? = some (.cells #[pv b u, v] 108 (0, 0))) (hown : w.ownsRow 0 5 1 v n xs) (hne : v.ownBlock ≠ some b) (hb : n + t.size ≤ 140737488355328) :
 Calls Tryz.prog 60 #[.pointer (some ⟨b, 0, none⟩), .string t] w fun e w' => e = .returned (.tuple #[.int .i64 t.size, .nilIface]) ∧
  ∃ v' w2, w2.ownsRow 0 5 1 v' (n + t.size) (xs ++ Lib.strCells t) ∧ GrB (ccW b u w) w2 v.ownBlock ∧ (∀ b, v'.ownBlock = some b → w.heap.size ≤ b ∨ v.ownBlock = some b) ∧ w' = w2.setCell ⟨b, 1, none⟩ v' := by
 have hbk1 : (ccW b u w).heap[b]? = some (.cells #[.pointer (some ⟨b, 0, none⟩), v] 108 (0, 0)) := by
  cases u with
  | true => exact hbk
  | false => exact (heap_setCell_same w b 0 _ 108 _ hbk).trans (by rfl)
 have hoth := ccW_other (b := b) (u := u) (w := w)
 have hown1 : (ccW b u w).ownsRow 0 5 1 v n xs := by
  obtain ⟨g1, g2⟩ := hown
  refine ⟨g1, ?_⟩
  rcases g2 with h | ⟨g, cap, cur, rfl, h2, h3, h4⟩
  ·exact .inl h
  ·exact .inr ⟨g, cap, cur, rfl, h2, by rw [hoth g (fun e => hne (by rw [e]; rfl))]; exact h3, h4⟩
 have hsz1 : (ccW b u w).heap.size = w.heap.size := by
  cases u with
  | true => rfl
  | false => simp [ccW]
 obtain ⟨i0, hi, hi2⟩ := Option.map_eq_some_iff.1 (show (Tryz.prog.info? 5).map (fun i => (i.zero, i.size, i.bytes)) = some (some (.int .u8 0), 1, 1) by kernel_rfl)
 have hz0 : i0.zero = some (.int .u8 0) := by simpa using congrArg (·.1) hi2
 have hz1 : i0.size = 1 := by simpa using congrArg (·.2.1) hi2
 have hz2 : i0.bytes = 1 := by simpa using congrArg (·.2.2) hi2
 have t50 : Tryz.prog.underlying 50 = some (.slice 5) := by kernel_rfl
 have t9 : Tryz.prog.underlying 9 = some .string := by kernel_rfl
 have c0 : (ccW b u w).cell? ⟨b, 0, none⟩ = some (.pointer (some ⟨b, 0, none⟩)) := by rw [Lib.cell_of_heap hbk1]; rfl
 have c1 : (ccW b u w).cell? ⟨b, 1, none⟩ = some v := by rw [Lib.cell_of_heap hbk1]; rfl
 go_enter Tryz.func60, Tryz.ntmps60
 go_wp2_with (go_at_call 119; refine (copyCheck_all b u v w hbk).mono ?_)
 rintro e w1 ⟨rfl, rfl⟩
 go_wp2_with (at_builtin; refine wpList_app_str rfl _ _ 50 9 rfl 5 i0 t50 t9 hi hz0 hz1 hz2 v n xs rfl hown1 t rfl hb ?_)
 intro v' w2 hown2 hg hfr
 have hb2 : w2.heap[b]? = some (.cells #[.pointer (some ⟨b, 0, none⟩), v] 108 (0, 0)) := by
  rw [hg.block b (by rw [hsz1]; exact (Array.getElem?_eq_some_iff.1 hbk).1) (fun e => hne e.symm)]
  exact hbk1
 have d1 : w2.cell? ⟨b, 1, none⟩ = some v := by rw [Lib.cell_of_heap hb2]; rfl
 have f1 : w2.frozen? ⟨b, 1, none⟩ = false := Lib.frozen_of_heap hb2 1
 obtain ⟨ao, n', cap, rfl⟩ : ∃ ao n' cap, v' = .slice ao n' cap := by
  rcases hown2.2 with ⟨hv, _⟩ | ⟨g, cap, cur, hv, _⟩
  ·exact ⟨_, _, _, hv⟩
  ·exact ⟨_, _, _, hv⟩
 go_wp2
 go_ret2
 exact ⟨rfl, _, w2, hown2, hg, hfr, rfl⟩
end Go.Gv

namespace Go.Gv
open Cod (enc dec)
open Go.Proofs Go.RowKit
set_option maxHeartbeats 1000000 in
theorem calls_String (b : Nat) (u : Bool) (v : Value) (l : List UInt8) (w : World) (hbk : w.heap[b]? = some (.cells #[pv b u, v] 108 (0, 0))) (hown : w.ownsRow 0 5 1 v l.length (l.map fun c => Value.int .u8 c.toNat)) (h0 : l ≠ []) :
 Calls Tryz.prog 64 #[.pointer (some ⟨b, 0, none⟩)] w fun e w' => e = .returned (.string ⟨l.toArray⟩) ∧ ∃ g cap, v = .slice (some ⟨g, 0, none⟩) l.length cap ∧ w' = w.drew.freeze ⟨g, 0, none⟩ l.length := by
 have hl0 : l.length ≠ 0 := by simpa using h0
 obtain ⟨g, cap, cur, rfl, hbg, hg, hnc, hcm, hcs, htake⟩ : ∃ g cap cur, v = .slice (some ⟨g, 0, none⟩) l.length cap ∧ 0 ≤ g ∧ w.heap[g]? = some (.cells cur 5 (0, 0)) ∧ l.length ≤ cap ∧ cap ≤ maxLen ∧ cur.size = cap * 1 ∧ cur.toList.take (l.length * 1) = l.map fun c => Value.int .u8 c.toNat := by
  rcases hown.2 with ⟨_, hz⟩ | ⟨g, cap, cur, hv, r⟩
  ·exact absurd hz hl0
  ·exact ⟨g, cap, cur, hv, r⟩
 have c1 : w.drew.cell? ⟨b, 1, none⟩ = some (.slice (some ⟨g, 0, none⟩) l.length cap) := by
  have : w.drew.heap[b]? = some (.cells #[pv b u, .slice (some ⟨g, 0, none⟩) l.length cap] 108 (0, 0)) := hbk
  rw [Lib.cell_of_heap this]; rfl
 have t145 : Tryz.prog.underlying 145 = some (.pointer 5) := by kernel_rfl
 have hc5 : Tryz.prog.cellsOf 5 = 1 := by kernel_rfl
 have hSD : (Builtin.unsafeSliceData_ #[50] 145 #[.slice (some ⟨g, 0, none⟩) l.length cap]).run Tryz.prog w.drew = .ok (.pointer (some ⟨g, 0, none⟩)) w.drew :=
  Lib.run_unsafeSliceData_row _ _ _ _ _ _ (by omega)
 have hUS : (Builtin.unsafeString_ #[145, 3] 9 #[.pointer (some ⟨g, 0, none⟩), .int .i64 l.length]).run Tryz.prog w.drew = .ok (.string ⟨l.toArray⟩) (w.drew.freeze ⟨g, 0, none⟩ l.length) := by
  refine Lib.run_unsafeString_row w.drew 145 3 9 5 t145 hc5 g cur.size (by have hg' : w.drew.heap[g]? = some (.cells cur 5 (0, 0)) := hg; simp [World.shape?, hg']) l h0 (by omega) (by unfold maxLen at hcm; omega) ?_
  intro j x hx
  have := hown.cells (g := g) rfl j (.int .u8 x.toNat) (by simp [hx])
  exact this
 have hmx := mixed
 go_enter Tryz.func64, Tryz.ntmps64
 go_wp2
 go_region_o
 all_goals (go_wp2; go_ret; exact ⟨rfl, g, cap, rfl, rfl⟩)
/-! ### The contracts -/
theorem grB_setCell (w : World) (b i : Nat) (v : Value) : GrB w (w.setCell ⟨b, i, none⟩ v) (some b) :=
 ⟨⟨rfl, rfl, rfl, by simp, fun k _ hk => heap_setCell_other w _ k v (fun e => hk (by rw [e]))⟩, Nat.le_refl _⟩
theorem StW.ds {E : Env} {tp : Nat → Prop} {H : HMap} {w : World} (h : StW E tp H w) (dl : List Deferred) : StW { E with ds := dl } tp H w := ⟨h.1, h.2, h.3, h.4, h.5, h.6, h.7⟩
/-- What is known of the writer in memory. -/
theorem wtr_mem {E : Env} {tp : Nat → Prop} {w : World} {b : Nat} {u : Bool} {v : Value} {s : ByteArray} {H : HMap} (h : StW E tp H w) (h0 : H 0 = some (.tbox 108 b [.v (pv b u), .own 900 v])) (h9 : H 900 = some (.row v 5 1 (bD s))) :
 w.heap[b]? = some (.cells #[pv b u, v] 108 (0, 0)) ∧ w.ownsRow 0 5 1 v s.size (Lib.strCells s) ∧ v.ownBlock ≠ some b ∧ v.oneCell' = true := by
 obtain ⟨xs, h1, h2, h3⟩ := h.sat.ok _ _ h0
 obtain ⟨ys, k1, k2, k3⟩ := h.sat.ok _ _ h9
 have hx : xs = #[pv b u, v] ∧ v.oneCell' = true := by
  obtain ⟨l⟩ := xs
  have h2 : l.length = 2 := h2
  match l, h2 with
  | [x, y], _ =>
    have e0 := (h3 0 x _ rfl rfl).2
    have e1 := (h3 1 y _ rfl rfl)
    have e0 := e0.inv_v
    obtain ⟨e1a, e1b⟩ := e1
    cases e1b
    subst e0
    exact ⟨rfl, e1a⟩
 have hfl : flat (bD s) = bD s := byL_flat (by
  have := byL_bDs s.data.toList
  exact this)
 have hlen : (bD s).length = s.size := by simp [bD]
 have hy : ys = Lib.strCells s := by
  rw [hfl] at k3
  have hl : ys.length = (bD s).length := by have := k1.1; omega
  have e : Lib.strCells s = (bD s).map fun d => match d with | .v x => x | _ => undef := by
   unfold Lib.strCells bD
   rw [List.map_map]
   rfl
  rw [e]
  apply List.ext_getElem?
  intro k
  by_cases hk : k < ys.length
  ·have hk2 : k < (bD s).length := by omega
   have g1 := List.getElem?_eq_getElem hk
   have g2 := List.getElem?_eq_getElem hk2
   have := (k3 k _ _ g1 g2).2
   rw [g1, List.getElem?_map, g2]
   simp only [bD, List.getElem_map] at this ⊢
   rw [this.inv_v]
   rfl
  ·rw [List.getElem?_eq_none (by omega), List.getElem?_eq_none (by simp; omega)]
 subst hy
 rw [hlen] at k1
 refine ⟨by rw [← hx.1]; exact h1, k1, fun e => ?_, hx.2⟩
 have := h.sat.dis 0 900 _ _ b h0 h9 rfl e
 omega
theorem tmps_at {vs : List Value} {m k : Nat} {x : Value} (h : vs[k]? = some x) : (vs.toArray ++ Array.replicate m undef).getD k undef = x := by
 have hlt := (List.getElem?_eq_some_iff.1 h).1
 rw [Array.getD_eq_getD_getElem?, Array.getElem?_append_left (by simpa using hlt)]
 simp [h]
theorem two_of {vs : List Value} (h : vs.length = 2) : ∃ x0 x1, vs = [x0, x1] := by
 match vs, h with
 | [x0, x1], _ => exact ⟨x0, x1, rfl⟩
theorem one_of {vs : List Value} (h : vs.length = 1) : ∃ x0, vs = [x0] := by
 match vs, h with
 | [x0], _ => exact ⟨x0, rfl⟩
theorem ccW_box {b : Nat} {u : Bool} {v : Value} {w : World} (hbk : w.heap[b]? = some (.cells #[pv b u, v] 108 (0, 0))) : (ccW b u w).heap[b]? = some (.cells #[pv b true, v] 108 (0, 0)) := by
 cases u with
 | true => exact hbk
 | false => exact (heap_setCell_same w b 0 _ 108 _ hbk).trans (by rfl)
theorem ccW_gr (b : Nat) (u : Bool) (w : World) : GrB w (ccW b u w) (some b) := by
 cases u with
 | true => exact grownBy_refl _ _
 | false => exact grB_setCell w b 0 _
theorem ccW_size (b : Nat) (u : Bool) (w : World) : (ccW b u w).heap.size = w.heap.size := by
 cases u with
 | true => rfl
 | false => simp [ccW]
theorem cells_two {Q : Value → D → Prop} {x y : Value} {c d : D} (h1 : Q x c) (hx : x.oneCell' = true) (h2 : Q y d) (hy : y.oneCell' = true) : CellsOk Q [x, y] [c, d] := by
 intro k z e hz he
 match k with
 | 0 => simp at hz he; subst hz; subst he; exact ⟨hx, h1⟩
 | 1 => simp at hz he; subst hz; subst he; exact ⟨hy, h2⟩
 | k + 2 => simp at hz
theorem row_str {tp I : Nat → Prop} {w : World} {v : Value} {s t : ByteArray} (h : w.ownsRow 0 5 1 v (s.size + t.size) (Lib.strCells s ++ Lib.strCells t)) : ResOk (R tp I w) w (.row v 5 1 (bD (s ++ t))) := by
 have e1 : Lib.strCells s ++ Lib.strCells t = Lib.strCells (s ++ t) := by
  unfold Lib.strCells
  rw [ByteArray.data_append, Array.toList_append, List.map_append]
 have e2 : (bD (s ++ t)).length = s.size + t.size := by simp [bD]
 refine ⟨Lib.strCells (s ++ t), by rw [e2, ← e1]; exact h, fun d hd => ?_, ?_⟩
 ·obtain ⟨c, _, rfl⟩ := List.mem_map.1 hd
  exact ⟨rfl, rfl⟩
 ·rw [show flat (bD (s ++ t)) = bD (s ++ t) from byL_flat (byL_bDs (s ++ t).data.toList)]
  intro k y c hy hc
  unfold Lib.strCells at hy
  unfold bD at hc
  rw [List.getElem?_map] at hy hc
  obtain ⟨z, hz, rfl⟩ := Option.map_eq_some_iff.1 hy
  rw [hz] at hc
  cases hc
  exact ⟨rfl, .int _ _⟩
abbrev s_wstr : Spc := wrC 108 5 (a1 B) (.tup [.any, .any]) (fun z : B => some z)
def VW (Q : D → HMap → Prop) (ds : List D) (H0 : HMap) : Prop := ∃ b u v s t, ds = [.bptr 0 b 0, .v (.string t)] ∧ H0 = updH (updH noH 900 (some (.row v 5 1 (bD s)))) 0 (some (.tbox 108 b [.v (pv b u), .own 900 v])) ∧ s.size + t.size ≤ LIMW ∧
 ∀ u' v', Q (.tup [.any, .any]) (updH (updH noH 900 (some (.row v' 5 1 (bD (s ++ t))))) 0 (some (.tbox 108 b [.v (pv b u'), .own 900 v'])))
def rsW : List CRes := [.tmp 4, .tmp 5]
theorem run_WriteString (E : Env) (ds' : List D) (H0 : HMap) (Q : D → HMap → Prop) (vs : List Value) (w : World) (RR : Ending → World → Prop) (hds : E.ds = []) (hN : E.N = 19) (hlen : vs.length = ds'.length)
 (hst : St E (initS ds') H0 { tmps := vs.toArray ++ Array.replicate (Tryz.f60.ntmps - vs.toArray.size) undef, defers := [] } w) (hV : VW Q ds' H0)
 (hfin : ∀ (a' : Act) (w' : World) (σ' : Sg) (H' : HMap) (dl : List Deferred), St { E with ds := dl } σ' H' a' w' → (resL rsW σ' H' fun ds => Q (oneOrTup ds) H') → ∃ v, (results Tryz.f60 a'.tmps).run Tryz.prog w' = .ok v w' ∧ RR (.returned v) w') : Calls Tryz.prog 60 vs.toArray w RR := by
 obtain ⟨b, u, v, s, t, rfl, rfl, hsz, hQ⟩ := hV
 obtain ⟨hd, hN2, tp, hw, hr⟩ := hst
 obtain ⟨x0, x1, rfl⟩ := two_of hlen
 have e0 : x0 = .pointer (some ⟨b, 0, none⟩) := by
  have h0 := hr 0
  rw [tmps_at (x := x0) rfl] at h0
  have h0 : R tp (Imm E.O tp _ w) w x0 (.bptr 0 b 0) := h0
  cases h0
  rfl
 have e1 : x1 = .string t := by
  have h0 := hr 1
  rw [tmps_at (x := x1) rfl] at h0
  have h0 : R tp (Imm E.O tp _ w) w x1 (.v (.string t)) := h0
  exact h0.inv_v
 clear hr
 subst e0; subst e1
 obtain ⟨hbk, hown, hne, hv1⟩ := wtr_mem (b := b) (u := u) (v := v) (s := s) hw (by simp [updH]) (by simp [updH])
 refine (calls_WriteString b u v s.size (Lib.strCells s) t w hbk hown hne (by unfold LIMW at hsz; omega)).mono ?_
 rintro e w' ⟨rfl, v', w2, g1, g2, g3, rfl⟩
 have hv' : v'.oneCell' = true := by
  rcases g1.2 with ⟨rfl, _⟩ | ⟨g, cap, cur, rfl, _⟩ <;> rfl
 have hbk1 := ccW_box hbk
 obtain ⟨s1, _⟩ := hw.own 0 (some (.tbox 108 b [.v (pv b true), .own 900 v])) (ccW_gr b u w) (fun b' e => by cases e; exact ⟨_, by simp [updH]; rfl, rfl⟩) (fun r b' e1 e2 => by cases e1; cases e2; exact .inr ⟨_, by simp [updH]; rfl, rfl⟩) (fun m r e => by
  cases e
  exact ⟨_, hbk1, rfl, cells_two (.v _ rfl (fun s h => by cases h)) rfl (.own _ _ hv1) hv1⟩)
 obtain ⟨s2, _⟩ := s1.own 900 (some (.row v' 5 1 (bD (s ++ t)))) g2 (fun b' e => ⟨.row v 5 1 (bD s), by simp [updH], e⟩) (fun r b' e1 e2 => by
  cases e1
  rcases g3 b' e2 with h | h
  ·exact .inl (by rw [ccW_size]; exact h)
  ·exact .inr ⟨.row v 5 1 (bD s), by simp [updH], h⟩) (fun m r e => by
  cases e
  exact row_str g1)
 have hb2 : w2.heap[b]? = some (.cells #[pv b true, v] 108 (0, 0)) := by
  rw [g2.block b (by rw [ccW_size]; exact (Array.getElem?_eq_some_iff.1 hbk).1) (fun e => hne e.symm)]
  exact hbk1
 obtain ⟨s3, _⟩ := s2.own 0 (some (.tbox 108 b [.v (pv b true), .own 900 v'])) (grB_setCell w2 b 1 v') (fun b' e => by cases e; exact ⟨_, by simp [updH]; rfl, rfl⟩) (fun r b' e1 e2 => by cases e1; cases e2; exact .inr ⟨_, by simp [updH]; rfl, rfl⟩) (fun m r e => by
  cases e
  exact ⟨_, (heap_setCell_same w2 b 1 _ 108 v' hb2), rfl, cells_two (.v _ rfl (fun s h => by cases h)) rfl (.own _ _ hv') hv'⟩)
 let a' : Act := { tmps := #[undef, undef, undef, undef, .int .i64 t.size, .nilIface, undef, undef, undef, undef, undef, undef, undef, undef, undef, undef, undef, undef, undef], defers := [] }
 obtain ⟨q, h1, h2⟩ := hfin a' (w2.setCell ⟨b, 1, none⟩ v') (fun _ => .any) _ [] ⟨rfl, by rw [hN]; rfl, tp, s3.ds [], fun t => .any _⟩ (by
  have := hQ true v'
  have e : updH (updH (updH (updH (updH noH 900 (some (.row v 5 1 (bD s)))) 0 (some (.tbox 108 b [.v (pv b u), .own 900 v]))) 0 (some (.tbox 108 b [.v (pv b true), .own 900 v]))) 900 (some (.row v' 5 1 (bD (s ++ t))))) 0 (some (.tbox 108 b [.v (pv b true), .own 900 v'])) =
   updH (updH noH 900 (some (.row v' 5 1 (bD (s ++ t))))) 0 (some (.tbox 108 b [.v (pv b true), .own 900 v'])) := by
   funext i
   simp only [updH]
   by_cases h0 : i = 0
   ·simp [h0]
   ·by_cases h9 : i = 900 <;> simp [h0, h9]
  rw [e]
  exact this)
 have hres : (results Tryz.f60 a'.tmps).run Tryz.prog (w2.setCell ⟨b, 1, none⟩ v') = .ok (.tuple #[.int .i64 t.size, .nilIface]) (w2.setCell ⟨b, 1, none⟩ v') := by
  simp [results, Tryz.results60, a']
 rw [hres] at h1
 cases h1
 exact h2
theorem t_WriteString : Tri Tryz.prog f_strings_Builder_WriteString s_wstr.pt :=
 tri_runBQ (V := VW) (rs := rsW) (N := 19) (by simp) (callEnter Tryz.func60 (by kernel_rfl) rfl) rfl (by kernel_rfl) (fun z => by show 2 ≤ 19; decide) run_WriteString fun b x z hp => by
  obtain ⟨t, ht, hl⟩ := hp
  cases ht
  exact ⟨b, x.u, x.v, x.s, z, rfl, rfl, hl, fun u' v' => ⟨⟨u', v', x.s ++ z⟩, (), .same _, by simp [updH], fun p hp => by simp at hp; subst hp; simp [updH], z, rfl, rfl⟩⟩
/-! ### String -/
theorem freeze_other (w : World) (g n k : Nat) (h : k ≠ g) : (w.freeze ⟨g, 0, none⟩ n).heap[k]? = w.heap[k]? := by
 unfold World.freeze
 split
 ·rfl
 ·simp only [Array.getElem?_modify]
  rw [if_neg (by omega)]
theorem freeze_size (w : World) (g n : Nat) : (w.freeze ⟨g, 0, none⟩ n).heap.size = w.heap.size := by
 unfold World.freeze
 split
 ·rfl
 ·simp
theorem freeze_rest (w : World) (p : Addr) (n : Nat) : (w.freeze p n).os = w.os ∧ (w.freeze p n).tape = w.tape ∧ (w.freeze p n).output = w.output ∧ (w.freeze p n).drawn = w.drawn := by
 unfold World.freeze
 split <;> exact ⟨rfl, rfl, rfl, rfl⟩
def sgPT : PT := fun d ds H K => ∃ id b u v s, ds = [.bptr id b 0] ∧ H id = some (.tbox 108 b [.v (pv b u), .own 900 v]) ∧ H 900 = some (.row v 5 1 (bD s)) ∧ id ≠ 900 ∧ (s.size ≠ 0 ∧ s.size ≤ LIMW) ∧ K (.v (.string s)) (updH (updH H 900 none) id none)
theorem sg_mono : MonoPT sgPT := fun d ds H K K' hk ⟨id, b, u, v, s, h1, h2, h3, h4, h5, h6⟩ => ⟨id, b, u, v, s, h1, h2, h3, h4, h5, hk _ _ h6⟩
/-- What is written so far, as a string; the writer is given up. -/
abbrev s_string : Spc := .gen sgPT sg_mono
def VG (Q : D → HMap → Prop) (ds : List D) (H0 : HMap) : Prop := ∃ b u v s, ds = [.bptr 0 b 0] ∧ H0 = updH (updH noH 900 (some (.row v 5 1 (bD s)))) 0 (some (.tbox 108 b [.v (pv b u), .own 900 v])) ∧ s.size ≠ 0 ∧ s.size ≤ LIMW ∧ Q (.v (.string s)) noH
def rsG : List CRes := [.tmp 2]
theorem run_String (E : Env) (ds' : List D) (H0 : HMap) (Q : D → HMap → Prop) (vs : List Value) (w : World) (RR : Ending → World → Prop) (hds : E.ds = []) (hN : E.N = 14) (hlen : vs.length = ds'.length)
 (hst : St E (initS ds') H0 { tmps := vs.toArray ++ Array.replicate (Tryz.f64.ntmps - vs.toArray.size) undef, defers := [] } w) (hV : VG Q ds' H0)
 (hfin : ∀ (a' : Act) (w' : World) (σ' : Sg) (H' : HMap) (dl : List Deferred), St { E with ds := dl } σ' H' a' w' → (resL rsG σ' H' fun ds => Q (oneOrTup ds) H') → ∃ v, (results Tryz.f64 a'.tmps).run Tryz.prog w' = .ok v w' ∧ RR (.returned v) w') : Calls Tryz.prog 64 vs.toArray w RR := by
 obtain ⟨b, u, v, s, rfl, rfl, hsz, hlim, hQ⟩ := hV
 have hmx : s.size ≤ maxLen := by unfold LIMW at hlim; simp only [maxLen]; omega
 obtain ⟨hd, hN2, tp, hw, hr⟩ := hst
 obtain ⟨x0, rfl⟩ := one_of hlen
 have e0 : x0 = .pointer (some ⟨b, 0, none⟩) := by
  have h0 := hr 0
  rw [tmps_at (x := x0) rfl] at h0
  have h0 : R tp (Imm E.O tp _ w) w x0 (.bptr 0 b 0) := h0
  cases h0
  rfl
 clear hr
 subst e0
 obtain ⟨hbk, hown, hne, hv1⟩ := wtr_mem (b := b) (u := u) (v := v) (s := s) hw (by simp [updH]) (by simp [updH])
 have hl : s.data.toList.length = s.size := by simp
 refine (calls_String b u v s.data.toList w hbk (by rw [hl]; exact hown) (fun e => hsz (by rw [← hl, e]; rfl))).mono ?_
 rintro e w' ⟨rfl, g, cap, rfl, rfl⟩
 have hes : (⟨s.data.toList.toArray⟩ : ByteArray) = s := rfl
 rw [hes]
 have hg9 := hw.sat.out 900 (.row (.slice (some ⟨g, 0, none⟩) s.data.toList.length cap) 5 1 (bD s)) g (by simp [updH]) rfl
 have hown9 : owns (updH (updH noH 900 (some (.row (.slice (some ⟨g, 0, none⟩) s.data.toList.length cap) 5 1 (bD s)))) 0 (some (.tbox 108 b [.v (pv b u), .own 900 (.slice (some ⟨g, 0, none⟩) s.data.toList.length cap)]))) g := ⟨900, .row (.slice (some ⟨g, 0, none⟩) s.data.toList.length cap) 5 1 (bD s), by simp [updH], rfl⟩
 obtain ⟨r1, r2, r3, r4⟩ := freeze_rest w.drew ⟨g, 0, none⟩ s.data.toList.length
 have hstep : Step tp (owns (updH (updH noH 900 (some (.row (.slice (some ⟨g, 0, none⟩) s.data.toList.length cap) 5 1 (bD s)))) 0 (some (.tbox 108 b [.v (pv b u), .own 900 (.slice (some ⟨g, 0, none⟩) s.data.toList.length cap)])))) w (w.drew.freeze ⟨g, 0, none⟩ s.data.toList.length) :=
  ⟨r1, r2, r3, by rw [freeze_size]; exact Nat.le_refl _, fun k _ ho _ => freeze_other _ g _ k (fun e => ho (e ▸ hown9)), fun k hk => .same (freeze_other _ g _ k (fun e => hg9.2 (e ▸ hk))), by rw [r4]; exact Nat.le_succ _⟩
 obtain ⟨s1, _⟩ := hw.move (H' := noH) hstep (fun _ h => h) (fun _ h => .inl h) (fun k hk => by rw [freeze_size]; exact hw.tpl k hk) (fun k ⟨i, r, h, _⟩ => by simp [noH] at h) ⟨fun i j r s b h => by simp [noH] at h, fun i r b h => by simp [noH] at h, fun i r h => by simp [noH] at h⟩
 let a' : Act := { tmps := #[undef, undef, .string s, undef, undef, undef, undef, undef, undef, undef, undef, undef, undef, undef], defers := [] }
 obtain ⟨q, h1, h2⟩ := hfin a' _ (upd (fun _ => .any) 2 (.v (.string s))) noH [] ⟨rfl, by rw [hN]; rfl, tp, s1.ds [], fun t => by
  by_cases h : t = 2
  ·subst h
   exact .str s hmx
  ·simp only [upd, h, if_false]
   exact .any _⟩ hQ
 have hres : (results Tryz.f64 a'.tmps).run Tryz.prog (w.drew.freeze ⟨g, 0, none⟩ s.data.toList.length) = .ok (.string s) (w.drew.freeze ⟨g, 0, none⟩ s.data.toList.length) := by
  simp [results, Tryz.results64, a']
 rw [hres] at h1
 cases h1
 exact h2
theorem t_String : Tri Tryz.prog f_strings_Builder_String s_string.pt := by
 refine tri_of_run (V := VG) (rs := rsG) (N := 14) (callEnter Tryz.func64 (by kernel_rfl) rfl) rfl (by kernel_rfl) run_String ?_
 rintro ds H d K ⟨id, b, u, v, s, rfl, h1, h2, h3, h4, hK⟩
 have hH0 : ∀ i r, updH (updH noH 900 (some (.row v 5 1 (bD s)))) 0 (some (.tbox 108 b [.v (pv b u), .own 900 v])) i = some r → (i = 0 ∧ r = .tbox 108 b [.v (pv b u), .own 900 v]) ∨ (i = 900 ∧ r = .row v 5 1 (bD s)) := by
  intro i r h
  by_cases e : i = 0
  ·subst e
   simp only [updH, if_true] at h
   cases h
   exact .inl ⟨rfl, rfl⟩
  ·by_cases e9 : i = 900
   ·subst e9
    simp [updH] at h
    exact .inr ⟨rfl, h.symm⟩
   ·simp [updH, e, e9, noH] at h
 refine ⟨by show 1 ≤ 14; decide, [.bptr 0 b 0], updH (updH noH 900 (some (.row v 5 1 (bD s)))) 0 (some (.tbox 108 b [.v (pv b u), .own 900 v])), fun i => if i = 0 then id else i, .cons (.bptr _ _ _ _) .nil, fun i r h => ?_, fun i j r q h h' e => ?_, fun r H' => r = .v (.string s) ∧ H' = noH, ?_, ?_⟩
 ·rcases hH0 i r h with ⟨rfl, rfl⟩ | ⟨rfl, rfl⟩
  ·exact h1
  ·exact h2
 ·rcases hH0 i r h with ⟨rfl, rfl⟩ | ⟨rfl, rfl⟩ <;> rcases hH0 j q h' with ⟨rfl, rfl⟩ | ⟨rfl, rfl⟩ <;> simp at e ⊢
  ·exact absurd e h3
  ·exact absurd e.symm h3
 ·exact ⟨b, u, v, s, rfl, rfl, h4.1, h4.2, rfl, rfl⟩
 ·rintro r H' ⟨rfl, rfl⟩
  refine ⟨.v (.string s), noH, updH (updH H 900 none) id none, fun _ => none, .same _, fun j q h => by simp [noH] at h, hK, fun i q hi => ?_, fun i j k q q' _ _ h => by cases h⟩
  by_cases e : i = id
  ·subst e
   simp [updH] at hi
  ·by_cases e9 : i = 900
   ·subst e9
    simp [updH, e] at hi
   ·simp only [updH, e, e9, if_false] at hi
    refine ⟨hi, fun k p hk hk2 => ?_⟩
    rcases hH0 k p hk with ⟨rfl, rfl⟩ | ⟨rfl, rfl⟩
    ·simp at hk2
     exact e hk2.symm
    ·simp at hk2
     exact e9 hk2.symm
end Go.Gv
