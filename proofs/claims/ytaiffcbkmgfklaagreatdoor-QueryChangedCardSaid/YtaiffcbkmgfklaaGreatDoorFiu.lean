/-
  Parse returns the query, the offset and the error that the reference returns, also for the texts of generated queries that are cut off, or into which a byte is put, or from which one is taken: QueryChanged returns true for every input, and its arguments read as they did. No condition but that five tables of Go's library stand in memory as the program's text lays them
-/
import Derived.Test.YtaiffcbkmgfklaaGreatDoorRows
import Derived.Test.YtaiffcbkmgfklaaGreatDoorCards
import Derived.Test.YtaiffcbkmgfklaaGreatDoorTie
import Derived.LaidMore
import Derived.Lay
import Derived.SevenTiedAt
import Derived.Stop.Joined
import Derived.Test.YtaiffcbkmgfklaaGreatDoorGu29
set_option linter.unusedVariables false

namespace Go.Gv.QChanged
open Go.Proofs Go.Proofs.YtaiffcbkmgfklaaGreatDoor
open Go.ChangeShapes Go.WideShapes Go.ChangeAt Go.RowKit
open Go.Gv
theorem own : ownKnob Tryz.prog.godebug = none := by kernel_rfl
theorem laidOut : laidOutB Tryz.prog = true := by kernel_rfl
set_option maxRecDepth 100000 in
theorem lifted (os : Os) (started : os.Started) (H : Type) (enc : TypeId × Value → H) :
    ReturnsInHanded {} Tryz.checked os 4 .any (fun w args => (Rows.queryChangedSpec.pre enc Tryz.prog Tryz.f4 Rows.queryChangedRow.domain false w args ∧ laidMetH Tryz.prog Rows.queryChangedRow.laid w) ∧ sizedMet enc Tryz.prog Tryz.f4 (OpenSpec.ofChange Rows.queryChangedSpec) false w args) (Rows.queryChangedSpec.post enc Tryz.prog Tryz.f4 false true false false) := by
  refine returnsInHanded_of_change_and (C := Tryz.checked) (X := fun w _ => laidMetH Tryz.prog Rows.queryChangedRow.laid w) (fun _ _ _ hh h => h.of_heap hh) own started (by kernel_rfl) Tryz.func4
    (ChangeSpec.witness_shaped (enc := enc) (C := Tryz.checked) (os := os) (X := fun w _ => laidMetH Tryz.prog Rows.queryChangedRow.laid w) false (World.laidAll Tryz.prog os Rows.queryChangedRow.laid) #[.slice none 0 0, .int .i64 0, .int .i64 0] 8 (World.laidAll_os _ _ _)
      (World.shaped_of_ZipB (by kernel_rfl) (by kernel_rfl)) (by kernel_rfl) (by kernel_rfl) (by kernel_rfl)
      (by rw [MakeChecks.laidMetH_plain _ _ _ (by kernel_rfl)]; exact laidMet_laidAll _ (by kernel_rfl) (by kernel_rfl))) ?_
  intro W base args ds gs before hval0 hW hcnd _ _ _
  have hval : ∀ (j : Nat) t v, Tryz.f4.params[j]? = some t → args[j]? = some v → Value.okWide Tryz.prog W .any base t v := hval0
  have hW' := hW
  obtain ⟨p, q, hA0, hV, rfl, hfz, hnd⟩ := hW
  have hA : DataW.TrodAll enc Tryz.prog W 0 (fun _ => true) true Tryz.f4.params.toList args.toList ds p := hA0
  rw [Tryz.params4] at hA hval
  obtain ⟨v0, vs0, d0, ds0, p0, q0, hargs, rfl, rfl, h0, r0⟩ := trodAll_cons hA
  obtain ⟨v1, vs1, d1, ds1, p1, q1, rfl, rfl, rfl, h1, r1⟩ := trodAll_cons r0
  obtain ⟨v2, vs2, d2, ds2, p2, q2, rfl, rfl, rfl, h2, r2⟩ := trodAll_cons r1
  obtain ⟨rfl, rfl, rfl⟩ := trodAll_nil r2
  obtain rfl : args = #[v0, v1, v2] := by cases args; simp_all
  obtain ⟨rfl, rfl⟩ := trodVars_none hV
  obtain ⟨a0, len0, cap0, rfl⟩ := okWide_slice Tryz.underlying22 (hval 0 22 v0 rfl rfl)
  obtain ⟨n1, rfl⟩ := okWide_int Tryz.underlying3 (hval 1 3 v1 rfl rfl)
  obtain ⟨n2, rfl⟩ := okWide_int Tryz.underlying3 (hval 2 3 v2 rfl rfl)
  have k0 := h0
  have k1 := h1
  have k2 := h2
  have lt0 : ∀ x ∈ p0, x.block < W.heap.size := by obtain ⟨m, hm⟩ := k0; exact DataW.trod_lt m _ _ _ hm
  have lt1 : ∀ x ∈ p1, x.block < W.heap.size := by obtain ⟨m, hm⟩ := k1; exact DataW.trod_lt m _ _ _ hm
  have lt2 : ∀ x ∈ p2, x.block < W.heap.size := by obtain ⟨m, hm⟩ := k2; exact DataW.trod_lt m _ _ _ hm
  obtain ⟨l0, w0⟩ : ∃ l : List Int, OpR (fun _ => False) (qcQ W) W [.slice a0 len0 cap0] (Cod.enc l) := by
    obtain ⟨fuel, hf⟩ := h0
    exact U5 (Y := Int) Tryz.underlying22 (show Tryz.prog.cellsOf 3 = 1 from by kernel_rfl) (by decide) (fun n cs x h => qap Tryz.underlying3 h) (fun b hb => qaz hb) hf
  obtain ⟨l1, r1g, w1⟩ : ∃ l : Int, InR .i64 l ∧ OpR (fun _ => False) (qcQ W) W [.int .i64 n1] (Cod.enc l) := by
    obtain ⟨fuel, hf⟩ := h1
    exact U6 Tryz.underlying3 hf
  obtain ⟨l2, r2g, w2⟩ : ∃ l : Int, InR .i64 l ∧ OpR (fun _ => False) (qcQ W) W [.int .i64 n2] (Cod.enc l) := by
    obtain ⟨fuel, hf⟩ := h2
    exact U6 Tryz.underlying3 hf
  clear hA0 hval0
  refine (PF Em (fun _ _ h => h) (w := W) (vs := [.slice a0 len0 cap0, .int .i64 n1, .int .i64 n2]) (ds := [Cod.enc l0, Cod.enc l1, Cod.enc l2]) (x := (l0, l1, l2)) r2g rfl (fun k y c e1 e2 => ?_) (by simp)).mono fun e W' ⟨he, bel⟩ => ?_
  · rcases k with _ | _ | _ | k
    · cases e1; cases e2; exact w0.one rfl
    · cases e1; cases e2; exact w1.one rfl
    · cases e1; cases e2; exact w2.one rfl
    · simp at e1
  subst he
  exact ⟨_, rfl, _, _, _, [], _, [], hW', trodAll_mk1 (shut_bool Tryz.underlying4 _), (trodAll_cons_mk (Below.trod laidOut (by kernel_rfl) (of_decide_eq_true (by kernel_rfl)) k0 bel lt0) (trodAll_cons_mk (Below.trod laidOut (by kernel_rfl) (of_decide_eq_true (by kernel_rfl)) k1 bel lt1) (trodAll_cons_mk (Below.trod laidOut (by kernel_rfl) (of_decide_eq_true (by kernel_rfl)) k2 bel lt2) trodAll_mk0))), rfl, bel.frame _, fun h => by cases h⟩

theorem over : Rows.queryChangedRow.holds Tryz.pinned (OpenSpec.ofChange Rows.queryChangedSpec) :=
  OpenClaim.holds_of_wide 4 Tryz.f4 rfl rfl rfl rfl rfl rfl rfl ⟨rfl, rfl, rfl, rfl, rfl⟩ rfl rfl rfl rfl rfl (by kernel_rfl) Tryz.func4 (by kernel_rfl)
    (of_decide_eq_true (by kernel_rfl)) (by unfold Func.isWrapper; first | (rw [if_pos (by decide +kernel)]; kernel_rfl) | (rw [if_neg (by decide +kernel)]; exact ⟨rfl, rfl⟩))
    (fun os started H enc _ => lifted os started H enc)
theorem cardOver : Claim7.holds Tryz.pinned (.plain (OpenSpec.ofChange Rows.queryChangedSpec)) Rows.queryChangedCard :=
  Claim7.holds_tied_plain_at .later [] [.data, .data, .data, .data, .pinned] true (true, "5e67148f32a35f4ce08c56954b8a108ed192c9a5276876fef77413cf1238a80d") true over (fun _ h => by cases h) (by kernel_rfl) (fun _ h => by cases h) queryChanged_row_tie rfl ⟨rfl, rfl⟩ (by kernel_rfl) rfl
    (fun f fn hf hfn => by
      obtain rfl : f = 4 := Option.some.inj ((show Tryz.prog.funcNamed "corpora/corporalaw23.QueryChanged" = some 4 by kernel_rfl).symm.trans hf) |>.symm
      obtain rfl : fn = Tryz.f4 := (Option.some.inj (Tryz.func4.symm.trans hfn)).symm
      exact ⟨by kernel_rfl, fun j t ht => by
        rw [Tryz.params4] at ht
        have hm : t ∈ [22, 3, 3] := by simpa using Array.mem_of_getElem? ht
        have hall : ([22, 3, 3].all fun u => !Tryz.prog.wantsStandIn u) = true := by kernel_rfl
        exact (show Tryz.prog.wantsStandIn t = false by simpa using List.all_eq_true.1 hall t hm)⟩)
    (by kernel_rfl)
end Go.Gv.QChanged
namespace Go.Proofs.YtaiffcbkmgfklaaGreatDoor
/-- THE STATEMENT. -/
theorem queryChanged_holds : Rows.QueryChangedCardSaid := Go.Gv.QChanged.cardOver
#print axioms queryChanged_holds
end Go.Proofs.YtaiffcbkmgfklaaGreatDoor
