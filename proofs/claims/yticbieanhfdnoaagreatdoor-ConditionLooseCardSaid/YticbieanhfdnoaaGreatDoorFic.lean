/-
  Tokens that satisfy a generated condition are selected, and without references these are the selected ones: ConditionLoose returns true for every input, and its arguments read as they did before.
-/
import Derived.Test.YticbieanhfdnoaaGreatDoorRows
import Derived.Test.YticbieanhfdnoaaGreatDoorCards
import Derived.Test.YticbieanhfdnoaaGreatDoorTie
import Derived.LaidMore
import Derived.Lay
import Derived.SevenTiedAt
import Derived.Stop.Joined
import Derived.Test.YticbieanhfdnoaaGreatDoorGc45
set_option linter.unusedSimpArgs false
set_option linter.unusedVariables false

namespace Go.Gv.CLoo
open Go.Proofs Go.Proofs.YticbieanhfdnoaaGreatDoor
open Go.ChangeShapes Go.WideShapes Go.ChangeAt Go.RowKit
open Go.Gv
theorem own : ownKnob Tryz.prog.godebug = none := by kernel_rfl
theorem laidOut : laidOutB Tryz.prog = true := by kernel_rfl
set_option maxRecDepth 100000 in
theorem lifted (os : Os) (started : os.Started) (H : Type) (enc : TypeId × Value → H) :
    ReturnsInHanded {} Tryz.checked os 9 .any (fun w args => (Rows.conditionLooseSpec.pre enc Tryz.prog Tryz.f9 Rows.conditionLooseRow.domain false w args ∧ laidMetH Tryz.prog Rows.conditionLooseRow.laid w) ∧ sizedMet enc Tryz.prog Tryz.f9 (OpenSpec.ofChange Rows.conditionLooseSpec) false w args) (Rows.conditionLooseSpec.post enc Tryz.prog Tryz.f9 false true false false) := by
  refine returnsInHanded_of_change_and (C := Tryz.checked) (X := fun w _ => laidMetH Tryz.prog Rows.conditionLooseRow.laid w) (fun _ _ _ hh h => h.of_heap hh) own started (by kernel_rfl) Tryz.func9
    (ChangeSpec.witness_shaped (enc := enc) (C := Tryz.checked) (os := os) (X := fun w _ => laidMetH Tryz.prog Rows.conditionLooseRow.laid w) false (World.laidAll Tryz.prog os Rows.conditionLooseRow.laid) #[.slice none 0 0, .slice none 0 0] 8 (World.laidAll_os _ _ _)
      (World.shaped_of_ZipB (by kernel_rfl) (by kernel_rfl)) (by kernel_rfl) (by kernel_rfl) (by kernel_rfl)
      (by rw [MakeChecks.laidMetH_plain _ _ _ (by kernel_rfl)]; exact laidMet_laidAll _ (by kernel_rfl) (by kernel_rfl))) ?_
  intro W base args ds gs before hval0 hW _ _ hX _
  have hval : ∀ (j : Nat) t v, Tryz.f9.params[j]? = some t → args[j]? = some v → Value.okWide Tryz.prog W .any base t v := hval0
  have hW' := hW
  obtain ⟨p, q, hA0, hV, rfl, hfz, hnd⟩ := hW
  have hA : DataW.TrodAll enc Tryz.prog W 0 (fun _ => true) true Tryz.f9.params.toList args.toList ds p := hA0
  rw [Tryz.params9] at hA hval
  obtain ⟨v0, vs0, d0, ds0, p0, q0, hargs, rfl, rfl, h0, r0⟩ := trodAll_cons hA
  obtain ⟨v1, vs1, d1, ds1, p1, q1, rfl, rfl, rfl, h1, r1⟩ := trodAll_cons r0
  obtain ⟨rfl, rfl, rfl⟩ := trodAll_nil r1
  obtain rfl : args = #[v0, v1] := by cases args; simp_all
  obtain ⟨rfl, rfl⟩ := trodVars_none hV
  obtain ⟨a0, len0, cap0, rfl⟩ := okWide_slice Tryz.underlying22 (hval 0 22 v0 rfl rfl)
  obtain ⟨a1, len1, cap1, rfl⟩ := okWide_slice Tryz.underlying22 (hval 1 22 v1 rfl rfl)
  have k0 := h0
  have k1 := h1
  have lt0 : ∀ x ∈ p0, x.block < W.heap.size := by obtain ⟨m, hm⟩ := k0; exact DataW.trod_lt m _ _ _ hm
  have lt1 : ∀ x ∈ p1, x.block < W.heap.size := by obtain ⟨m, hm⟩ := k1; exact DataW.trod_lt m _ _ _ hm
  obtain ⟨l0, w0⟩ : ∃ l : List Int, OpR (fun _ => False) (Xq W) W [.slice a0 len0 cap0] (Cod.enc l) := by
    obtain ⟨fuel, hf⟩ := h0
    exact Gj (Y := Int) Tryz.underlying22 (show Tryz.prog.cellsOf 3 = 1 from by kernel_rfl) (by decide) (fun n cs x h => M0 Tryz.underlying3 h) (fun b hb => Nd hb) hf
  obtain ⟨l1, w1⟩ : ∃ l : List Int, OpR (fun _ => False) (Xq W) W [.slice a1 len1 cap1] (Cod.enc l) := by
    obtain ⟨fuel, hf⟩ := h1
    exact Gj (Y := Int) Tryz.underlying22 (show Tryz.prog.cellsOf 3 = 1 from by kernel_rfl) (by decide) (fun n cs x h => M0 Tryz.underlying3 h) (fun b hb => Nd hb) hf
  clear hA0 hval0
  have hG : GlW (fun _ => False) (fun _ => False) W := fun p hp => by simp [rM] at hp
  refine (IR Cj (fun _ _ h => h) (w := W) (vs := [.slice a0 len0 cap0, .slice a1 len1 cap1]) (ds := [Cod.enc l0, Cod.enc l1]) (x := (l0, l1)) trivial rfl (fun k y c e1 e2 => ?_) (by simp) hG).mono fun e W' ⟨he, bel⟩ => ?_
  · rcases k with _ | _ | k
    · cases e1; cases e2; exact w0.one rfl
    · cases e1; cases e2; exact w1.one rfl
    · simp at e1
  subst he
  exact ⟨_, rfl, _, _, _, [], _, [], hW', trodAll_mk1 (shut_bool Tryz.underlying4 _), (trodAll_cons_mk (Below.trod laidOut (by kernel_rfl) (of_decide_eq_true (by kernel_rfl)) k0 bel lt0) (trodAll_cons_mk (Below.trod laidOut (by kernel_rfl) (of_decide_eq_true (by kernel_rfl)) k1 bel lt1) trodAll_mk0)), rfl, bel.frame _, fun h => by cases h⟩

theorem over : Rows.conditionLooseRow.holds Tryz.pinned (OpenSpec.ofChange Rows.conditionLooseSpec) :=
  OpenClaim.holds_of_wide 9 Tryz.f9 rfl rfl rfl rfl rfl rfl rfl ⟨rfl, rfl, rfl, rfl, rfl⟩ rfl rfl rfl rfl rfl (by kernel_rfl) Tryz.func9 (by kernel_rfl)
    (of_decide_eq_true (by kernel_rfl)) (by unfold Func.isWrapper; first | (rw [if_pos (by decide +kernel)]; kernel_rfl) | (rw [if_neg (by decide +kernel)]; exact ⟨rfl, rfl⟩))
    (fun os started H enc _ => lifted os started H enc)
theorem cardOver : Claim7.holds Tryz.pinned (.plain (OpenSpec.ofChange Rows.conditionLooseSpec)) Rows.conditionLooseCard :=
  Claim7.holds_tied_plain_at .later [] [.data, .pinned] true (true, "96aad5d6ec788910c62eb442e9514b868f8a2bf3206a7b35444e21c18eeaba3f") false over (fun _ h => by cases h) (by kernel_rfl) (fun _ h => by cases h) conditionLoose_row_tie rfl ⟨rfl, rfl⟩ (by kernel_rfl) rfl
    (fun f fn hf hfn => by
      obtain rfl : f = 9 := Option.some.inj ((show Tryz.prog.funcNamed "corpora/corporalaw22.ConditionLoose" = some 9 by kernel_rfl).symm.trans hf) |>.symm
      obtain rfl : fn = Tryz.f9 := (Option.some.inj (Tryz.func9.symm.trans hfn)).symm
      exact ⟨by kernel_rfl, fun j t ht => by
        rw [Tryz.params9] at ht
        have hm : t ∈ [22, 22] := by simpa using Array.mem_of_getElem? ht
        have hall : ([22, 22].all fun u => !Tryz.prog.wantsStandIn u) = true := by kernel_rfl
        exact (show Tryz.prog.wantsStandIn t = false by simpa using List.all_eq_true.1 hall t hm)⟩)
    (by kernel_rfl)
end Go.Gv.CLoo
namespace Go.Proofs.YticbieanhfdnoaaGreatDoor
/-- THE STATEMENT. -/
theorem conditionLoose_holds : Rows.ConditionLooseCardSaid := Go.Gv.CLoo.cardOver
#print axioms conditionLoose_holds
end Go.Proofs.YticbieanhfdnoaaGreatDoor
