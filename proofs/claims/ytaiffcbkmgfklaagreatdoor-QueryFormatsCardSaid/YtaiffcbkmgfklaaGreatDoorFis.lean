/-
  The program's Format writes the text that the document says for generated queries, and Parse reads the query from it: QueryFormats returns true for every input, and its argument reads as it did.
-/
import Derived.Test.YtaiffcbkmgfklaaGreatDoorRows
import Derived.Test.YtaiffcbkmgfklaaGreatDoorCards
import Derived.Test.YtaiffcbkmgfklaaGreatDoorTie
import Derived.LaidMore
import Derived.Lay
import Derived.SevenTiedAt
import Derived.Stop.Joined
import Derived.Test.YtaiffcbkmgfklaaGreatDoorGs49
set_option linter.unusedVariables false

namespace Go.Gv.QFormats
open Go.Proofs Go.Proofs.YtaiffcbkmgfklaaGreatDoor
open Go.ChangeShapes Go.WideShapes Go.ChangeAt Go.RowKit
open Go.Gv
theorem own : ownKnob Tryz.prog.godebug = none := by kernel_rfl
theorem laidOut : laidOutB Tryz.prog = true := by kernel_rfl
set_option maxRecDepth 100000 in
theorem lifted (os : Os) (started : os.Started) (H : Type) (enc : TypeId × Value → H) :
    ReturnsInHanded {} Tryz.checked os 5 .any (fun w args => (Rows.queryFormatsSpec.pre enc Tryz.prog Tryz.f5 Rows.queryFormatsRow.domain false w args ∧ laidMetH Tryz.prog Rows.queryFormatsRow.laid w) ∧ sizedMet enc Tryz.prog Tryz.f5 (OpenSpec.ofChange Rows.queryFormatsSpec) false w args) (Rows.queryFormatsSpec.post enc Tryz.prog Tryz.f5 false true false false) := by
  refine returnsInHanded_of_change_and (C := Tryz.checked) (X := fun w _ => laidMetH Tryz.prog Rows.queryFormatsRow.laid w) (fun _ _ _ hh h => h.of_heap hh) own started (by kernel_rfl) Tryz.func5
    (ChangeSpec.witness_shaped (enc := enc) (C := Tryz.checked) (os := os) (X := fun w _ => laidMetH Tryz.prog Rows.queryFormatsRow.laid w) false (World.laidAll Tryz.prog os Rows.queryFormatsRow.laid) #[.slice none 0 0] 8 (World.laidAll_os _ _ _)
      (World.shaped_of_ZipB (by kernel_rfl) (by kernel_rfl)) (by kernel_rfl) (by kernel_rfl) (by kernel_rfl)
      (by rw [MakeChecks.laidMetH_plain _ _ _ (by kernel_rfl)]; exact laidMet_laidAll _ (by kernel_rfl) (by kernel_rfl))) ?_
  intro W base args ds gs before hval0 hW _ _ hX _
  have hval : ∀ (j : Nat) t v, Tryz.f5.params[j]? = some t → args[j]? = some v → Value.okWide Tryz.prog W .any base t v := hval0
  have hW' := hW
  obtain ⟨p, q, hA0, hV, rfl, hfz, hnd⟩ := hW
  have hA : DataW.TrodAll enc Tryz.prog W 0 (fun _ => true) true Tryz.f5.params.toList args.toList ds p := hA0
  rw [Tryz.params5] at hA hval
  obtain ⟨v0, vs0, d0, ds0, p0, q0, hargs, rfl, rfl, h0, r0⟩ := trodAll_cons hA
  obtain ⟨rfl, rfl, rfl⟩ := trodAll_nil r0
  obtain rfl : args = #[v0] := by cases args; simp_all
  obtain ⟨rfl, rfl⟩ := trodVars_none hV
  obtain ⟨a0, len0, cap0, rfl⟩ := okWide_slice Tryz.underlying22 (hval 0 22 v0 rfl rfl)
  have k0 := h0
  have lt0 : ∀ x ∈ p0, x.block < W.heap.size := by obtain ⟨m, hm⟩ := k0; exact DataW.trod_lt m _ _ _ hm
  obtain ⟨l0, w0⟩ : ∃ l : List Int, OpR (fun _ => False) (qeV W) W [.slice a0 len0 cap0] (Cod.enc l) := by
    obtain ⟨fuel, hf⟩ := h0
    exact TG (Y := Int) Tryz.underlying22 (show Tryz.prog.cellsOf 3 = 1 from by kernel_rfl) (by decide) (fun n cs x h => Y8 Tryz.underlying3 h) (fun b hb => Zd hb) hf
  clear hA0 hval0
  have hG : GlW (fun _ => False) (fun _ => False) W := by
    rw [MakeChecks.laidMetH_plain _ _ _ (by kernel_rfl)] at hX
    have e : (Rows.laid_internal_strconv_uint64pow10 : DataW Unit) = Lib.tabData .u64 Lib.pow10Tab := by kernel_rfl
    have h3 : laidMet Tryz.prog (_ :: _ :: ("internal/strconv.uint64pow10", Rows.laid_internal_strconv_uint64pow10) :: _) W := hX
    rw [e] at h3
    exact RJ h3
  refine (OH Ds (fun _ _ h => h) (w := W) (vs := [.slice a0 len0 cap0]) (ds := [Cod.enc l0]) (x := l0) trivial rfl (fun k y c e1 e2 => ?_) (by simp) hG).mono fun e W' ⟨he, bel⟩ => ?_
  · rcases k with _ | k
    · cases e1; cases e2; exact w0.one rfl
    · simp at e1
  subst he
  exact ⟨_, rfl, _, _, _, [], _, [], hW', trodAll_mk1 (shut_bool Tryz.underlying4 _), (trodAll_cons_mk (Below.trod laidOut (by kernel_rfl) (of_decide_eq_true (by kernel_rfl)) k0 bel lt0) trodAll_mk0), rfl, bel.frame _, fun h => by cases h⟩

theorem over : Rows.queryFormatsRow.holds Tryz.pinned (OpenSpec.ofChange Rows.queryFormatsSpec) :=
  OpenClaim.holds_of_wide 5 Tryz.f5 rfl rfl rfl rfl rfl rfl rfl ⟨rfl, rfl, rfl, rfl, rfl⟩ rfl rfl rfl rfl rfl (by kernel_rfl) Tryz.func5 (by kernel_rfl)
    (of_decide_eq_true (by kernel_rfl)) (by unfold Func.isWrapper; first | (rw [if_pos (by decide +kernel)]; kernel_rfl) | (rw [if_neg (by decide +kernel)]; exact ⟨rfl, rfl⟩))
    (fun os started H enc _ => lifted os started H enc)
theorem cardOver : Claim7.holds Tryz.pinned (.plain (OpenSpec.ofChange Rows.queryFormatsSpec)) Rows.queryFormatsCard :=
  Claim7.holds_tied_plain_at .later [] [.data, .data, .data, .data, .pinned] true (true, "5e67148f32a35f4ce08c56954b8a108ed192c9a5276876fef77413cf1238a80d") true over (fun _ h => by cases h) (by kernel_rfl) (fun _ h => by cases h) queryFormats_row_tie rfl ⟨rfl, rfl⟩ (by kernel_rfl) rfl
    (fun f fn hf hfn => by
      obtain rfl : f = 5 := Option.some.inj ((show Tryz.prog.funcNamed "corpora/corporalaw23.QueryFormats" = some 5 by kernel_rfl).symm.trans hf) |>.symm
      obtain rfl : fn = Tryz.f5 := (Option.some.inj (Tryz.func5.symm.trans hfn)).symm
      exact ⟨by kernel_rfl, fun j t ht => by
        rw [Tryz.params5] at ht
        have hm : t ∈ [22] := by simpa using Array.mem_of_getElem? ht
        have hall : ([22].all fun u => !Tryz.prog.wantsStandIn u) = true := by kernel_rfl
        exact (show Tryz.prog.wantsStandIn t = false by simpa using List.all_eq_true.1 hall t hm)⟩)
    (by kernel_rfl)
end Go.Gv.QFormats
namespace Go.Proofs.YtaiffcbkmgfklaaGreatDoor
/-- THE STATEMENT. -/
theorem queryFormats_holds : Rows.QueryFormatsCardSaid := Go.Gv.QFormats.cardOver
#print axioms queryFormats_holds
end Go.Proofs.YtaiffcbkmgfklaaGreatDoor
