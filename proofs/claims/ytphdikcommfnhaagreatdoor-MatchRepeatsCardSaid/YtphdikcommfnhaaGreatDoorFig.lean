/-
  The law MatchRepeats of chapter 24 holds for all lists of numbers: one or more times a pattern is the pattern, or the pattern followed by one or more times it. No conditions.
-/
import Derived.Test.YtphdikcommfnhaaGreatDoorRows
import Derived.Test.YtphdikcommfnhaaGreatDoorCards
import Derived.Test.YtphdikcommfnhaaGreatDoorTie
import Derived.LaidMore
import Derived.Lay
import Derived.SevenTiedAt
import Derived.Stop.Joined
import Derived.Test.YtphdikcommfnhaaGreatDoorGg49
set_option linter.unusedSimpArgs false
set_option linter.unusedVariables false
set_option linter.unusedSectionVars false

namespace Go.Gv.NMrep
open Go.Proofs Go.Proofs.YtphdikcommfnhaaGreatDoor
open Go.ChangeShapes Go.WideShapes Go.ChangeAt Go.RowKit
open Go.Gv
theorem own : ownKnob Tryz.prog.godebug = none := by kernel_rfl
theorem laidOut : laidOutB Tryz.prog = true := by kernel_rfl
set_option maxRecDepth 100000 in
theorem lifted (os : Os) (started : os.Started) (H : Type) (enc : TypeId × Value → H) :
    ReturnsInHanded {} Tryz.checked os 6 .any (fun w args => (Rows.matchRepeatsSpec.pre enc Tryz.prog Tryz.f6 Rows.matchRepeatsRow.domain false w args ∧ laidMetH Tryz.prog Rows.matchRepeatsRow.laid w) ∧ sizedMet enc Tryz.prog Tryz.f6 (OpenSpec.ofChange Rows.matchRepeatsSpec) false w args) (Rows.matchRepeatsSpec.post enc Tryz.prog Tryz.f6 false true false false) := by
  refine returnsInHanded_of_change_and (C := Tryz.checked) (X := fun w _ => laidMetH Tryz.prog Rows.matchRepeatsRow.laid w) (fun _ _ _ hh h => h.of_heap hh) own started (by kernel_rfl) Tryz.func6
    (ChangeSpec.witness_shaped (enc := enc) (C := Tryz.checked) (os := os) (X := fun w _ => laidMetH Tryz.prog Rows.matchRepeatsRow.laid w) false (World.laidAll Tryz.prog os Rows.matchRepeatsRow.laid) #[.slice none 0 0, .slice none 0 0] 8 (World.laidAll_os _ _ _)
      (World.shaped_of_ZipB (by kernel_rfl) (by kernel_rfl)) (by kernel_rfl) (by kernel_rfl) (by kernel_rfl)
      (by rw [MakeChecks.laidMetH_plain _ _ _ (by kernel_rfl)]; exact laidMet_laidAll _ (by kernel_rfl) (by kernel_rfl))) ?_
  intro W base args ds gs before hval0 hW _ hS hX _
  have hval : ∀ (j : Nat) t v, Tryz.f6.params[j]? = some t → args[j]? = some v → Value.okWide Tryz.prog W .any base t v := hval0
  have hW' := hW
  obtain ⟨p, q, hA0, hV, rfl, hfz, hnd⟩ := hW
  have hA : DataW.TrodAll enc Tryz.prog W 0 (fun _ => true) true Tryz.f6.params.toList args.toList ds p := hA0
  rw [Tryz.params6] at hA hval hS
  obtain ⟨v0, vs0, d0, ds0, p0, q0, hargs, rfl, rfl, h0, r0⟩ := trodAll_cons hA
  obtain ⟨v1, vs1, d1, ds1, p1, q1, rfl, rfl, rfl, h1, r1⟩ := trodAll_cons r0
  obtain ⟨rfl, rfl, rfl⟩ := trodAll_nil r1
  obtain rfl : args = #[v0, v1] := by cases args; simp_all
  obtain ⟨rfl, rfl⟩ := trodVars_none hV
  obtain ⟨a0, len0, cap0, rfl⟩ := okWide_slice Tryz.underlying22 (hval 0 22 v0 rfl rfl)
  obtain ⟨a1, len1, cap1, rfl⟩ := okWide_slice Tryz.underlying22 (hval 1 22 v1 rfl rfl)
  have k0 := h0
  have k1 := h1
  have lt0 : ∀ x ∈ p0, x.block < W.heap.size := by obtain ⟨m, hm⟩ := k0; exact DataW.trod_lt m _ _ _ hm
  have lt1 : ∀ x ∈ p1, x.block < W.heap.size := by obtain ⟨m, hm⟩ := k1; exact DataW.trod_lt m _ _ _ hm
  obtain ⟨l0, w0⟩ : ∃ l : List Int, OpR (fun _ => False) (ql2 W) W [.slice a0 len0 cap0] (Cod.enc l) := by
    obtain ⟨fuel, hf⟩ := h0
    exact OG (Y := Int) Tryz.underlying22 (show Tryz.prog.cellsOf 3 = 1 from by kernel_rfl) (by decide) (fun n cs x h => YJ Tryz.underlying3 h) (fun b hb => YX hb) hf
  obtain ⟨l1, w1⟩ : ∃ l : List Int, OpR (fun _ => False) (ql2 W) W [.slice a1 len1 cap1] (Cod.enc l) := by
    obtain ⟨fuel, hf⟩ := h1
    exact OG (Y := Int) Tryz.underlying22 (show Tryz.prog.cellsOf 3 = 1 from by kernel_rfl) (by decide) (fun n cs x h => YJ Tryz.underlying3 h) (fun b hb => YX hb) hf
  clear hA0 hval0
  have hG : GlW (fun _ => False) (fun _ => False) W := fun p hp => by simp [rc] at hp
  refine (RJ N8 (fun _ _ h => h) (w := W) (vs := [.slice a0 len0 cap0, .slice a1 len1 cap1]) (ds := [Cod.enc l0, Cod.enc l1]) (x := (l0, l1)) trivial rfl (fun k y c e1 e2 => ?_) (by simp) hG).mono fun e W' ⟨he, bel⟩ => ?_
  · rcases k with _ | _ | k
    · cases e1; cases e2; exact w0.one rfl
    · cases e1; cases e2; exact w1.one rfl
    · simp at e1
  subst he
  exact ⟨_, rfl, _, _, _, [], _, [], hW', trodAll_mk1 (shut_bool Tryz.underlying4 _), (trodAll_cons_mk (Below.trod laidOut (by kernel_rfl) (of_decide_eq_true (by kernel_rfl)) k0 bel lt0) (trodAll_cons_mk (Below.trod laidOut (by kernel_rfl) (of_decide_eq_true (by kernel_rfl)) k1 bel lt1) trodAll_mk0)), rfl, bel.frame _, fun h => by cases h⟩
theorem and_mk {a b : Bool} (ha : a = true) (hb : b = true) : (a && b) = true := by rw [ha, hb]; rfl
theorem j0 : (Rows.matchRepeatsRow.wf (OpenSpec.ofChange Rows.matchRepeatsSpec)) = true := by kernel_rfl
theorem j1 : (laidOutB Tryz.prog) = true := by kernel_rfl
theorem j2 : (mapsRowed Tryz.prog) = true := by kernel_rfl
theorem j3 : (Tryz.f6.params.all (Tryz.prog.readableRec ·)) = true := by kernel_rfl
theorem j4 : (namedTie Tryz.prog Rows.matchRepeatsRow.named Rows.matchRepeatsSpec.vars) = true := by kernel_rfl
theorem j5 : ((Rows.matchRepeatsRow.stops == [])) = true := by kernel_rfl
theorem j6 : ((Tryz.prog.stops == [])) = true := by kernel_rfl
theorem j7 : ((Rows.matchRepeatsRow.knobs == [])) = true := by kernel_rfl
theorem j8 : ((Tryz.prog.stopKnobs == [])) = true := by kernel_rfl
theorem j9 : ((Rows.matchRepeatsRow.inPlace == Tryz.prog.inPlace 6)) = true := by kernel_rfl
theorem j10 : ((Rows.matchRepeatsRow.unfollowed == Tryz.prog.unfollowed 6)) = true := by kernel_rfl
theorem j11 : ((Rows.matchRepeatsRow.recurses == Tryz.prog.recurses 6)) = true := by kernel_rfl
theorem j12 : ((Rows.matchRepeatsRow.named == Tryz.prog.varsNamed 6)) = true := by kernel_rfl
theorem j13 : ((Rows.matchRepeatsRow.maps == (Tryz.f6.params.toList ++ Rows.matchRepeatsSpec.plain.varTypes Tryz.prog).any (Tryz.prog.mapsRec ·))) = true := by kernel_rfl
theorem j14 : ((Rows.matchRepeatsRow.ifaces == (Tryz.f6.params.toList ++ Rows.matchRepeatsSpec.plain.varTypes Tryz.prog).any (Tryz.prog.ifacesRec ·))) = true := by kernel_rfl
theorem j15 : ((Rows.matchRepeatsRow.mapsOut == Tryz.prog.mapsAmong Tryz.f6.resultTypes.toList)) = true := by kernel_rfl
theorem j16 : ((Rows.matchRepeatsRow.loops == (Tryz.f6.params.toList ++ Rows.matchRepeatsSpec.plain.varTypes Tryz.prog).any (Tryz.prog.loopsFrom ·))) = true := by kernel_rfl
theorem j17 : ((Rows.matchRepeatsRow.wideKeys == (Tryz.f6.params.toList ++ Rows.matchRepeatsSpec.plain.varTypes Tryz.prog ++ Tryz.f6.resultTypes.toList).any (Tryz.prog.wideKeysFrom ·))) = true := by kernel_rfl
theorem j18 : (Rows.matchRepeatsSpec.vars.all (Tryz.prog.varReadable ·)) = true := by kernel_rfl
theorem j19 : (Tryz.f6.resultTypes.all (fun t => Tryz.prog.readableRec t && decide (t < Tryz.prog.types.size))) = true := by kernel_rfl
theorem j20 : ((Rows.matchRepeatsRow.ifacesOut == Tryz.f6.resultTypes.toList.any (Tryz.prog.ifacesRec ·))) = true := by kernel_rfl
theorem j21 : ((Rows.matchRepeatsRow.loopsOut == Tryz.f6.resultTypes.toList.any (Tryz.prog.loopsFrom ·))) = true := by kernel_rfl
theorem j22 : ((Rows.matchRepeatsRow.plainKeys == Tryz.prog.plainKeys)) = true := by kernel_rfl
theorem j23 : (Rows.matchRepeatsRow.shortTexts.isNone) = true := by kernel_rfl
theorem j24 : (Tryz.prog.stopsHeard) = true := by kernel_rfl
theorem j25 : (Tryz.prog.mayEnter) = true := by kernel_rfl
theorem j26 : ((Rows.matchRepeatsRow.lifted == Tryz.prog.liftsFinal)) = true := by kernel_rfl
theorem j27 : ((Tryz.prog.make == some Rows.matchRepeatsRow.make)) = true := by kernel_rfl
theorem j29 : ((Rows.matchRepeatsRow.pinned == Rows.matchRepeatsRow.pinnedBy)) = true := by kernel_rfl
theorem j30 : ((Rows.matchRepeatsRow.veiled == (Tryz.f6.params.toList ++ Rows.matchRepeatsSpec.plain.varTypes Tryz.prog ++ Tryz.f6.resultTypes.toList).any (Tryz.prog.veiledRec ·))) = true := by kernel_rfl
theorem j31 : (Rows.matchRepeatsRow.veiledFits Tryz.prog Tryz.f6.params.toList (Tryz.f6.params.toList ++ Rows.matchRepeatsSpec.plain.varTypes Tryz.prog ++ Tryz.f6.resultTypes.toList)) = true := by kernel_rfl
set_option maxRecDepth 100000 in
theorem jf : joinedFacts Tryz.prog 6 Tryz.f6 Rows.matchRepeatsSpec Rows.matchRepeatsRow = true := (and_mk (and_mk (and_mk (and_mk (and_mk (and_mk (and_mk (and_mk (and_mk (and_mk (and_mk (and_mk (and_mk (and_mk (and_mk (and_mk (and_mk (and_mk (and_mk (and_mk (and_mk (and_mk (and_mk (and_mk (and_mk (and_mk (and_mk (and_mk (and_mk (and_mk (and_mk j0 j1) j2) j3) j4) j5) j6) j7) j8) j9) j10) j11) j12) j13) j14) j15) j16) j17) j18) j19) j20) j21) j22) j23) j24) j25) j26) j27) (by kernel_rfl)) j29) j30) j31)
theorem c1 : Rows.matchRepeatsRow.wfByText (OpenSpec.ofChange Rows.matchRepeatsSpec) = true := by kernel_rfl
theorem c2 : Tryz.prog.mainIs = some (true, "ac3cab6b512acf990440951b9fa28ec15358ddd4958af1852004d83725a7297a".toList) := by kernel_rfl
theorem c3 : true = Tryz.prog.looks [] := by kernel_rfl
theorem c4 : false = Rows.matchRepeatsRow.goesBy Tryz.prog := by kernel_rfl

theorem over : Rows.matchRepeatsRow.holds Tryz.pinned (OpenSpec.ofChange Rows.matchRepeatsSpec) :=
  OpenClaim.holds_of_wide 6 Tryz.f6 rfl rfl rfl rfl rfl rfl rfl ⟨rfl, rfl, rfl, rfl, rfl⟩ rfl rfl rfl rfl rfl (by kernel_rfl) Tryz.func6 jf
    (of_decide_eq_true (by kernel_rfl)) (by unfold Func.isWrapper; first | (rw [if_pos (by decide +kernel)]; kernel_rfl) | (rw [if_neg (by decide +kernel)]; exact ⟨rfl, rfl⟩))
    (fun os started H enc _ => lifted os started H enc)
theorem cardOver : Claim7.holds Tryz.pinned (.plain (OpenSpec.ofChange Rows.matchRepeatsSpec)) Rows.matchRepeatsCard :=
  Claim7.holds_tied_plain_at .later [] [.data, .pinned] true (true, "ac3cab6b512acf990440951b9fa28ec15358ddd4958af1852004d83725a7297a") true over (fun _ h => by cases h) c1 (fun _ h => by cases h) matchRepeats_row_tie rfl ⟨rfl, rfl⟩ c2 rfl
    (fun f fn hf hfn => by
      obtain rfl : f = 6 := Option.some.inj ((show Tryz.prog.funcNamed "corpora/corporalaw24.MatchRepeats" = some 6 by kernel_rfl).symm.trans hf) |>.symm
      obtain rfl : fn = Tryz.f6 := (Option.some.inj (Tryz.func6.symm.trans hfn)).symm
      exact ⟨c3, fun j t ht => by
        rw [Tryz.params6] at ht
        have hm : t ∈ [22, 22] := by simpa using Array.mem_of_getElem? ht
        have hall : ([22, 22].all fun u => !Tryz.prog.wantsStandIn u) = true := by kernel_rfl
        exact (show Tryz.prog.wantsStandIn t = false by simpa using List.all_eq_true.1 hall t hm)⟩)
    c4
end Go.Gv.NMrep
namespace Go.Proofs.YtphdikcommfnhaaGreatDoor
/-- THE STATEMENT. -/
theorem matchRepeats_holds : Rows.MatchRepeatsCardSaid := Go.Gv.NMrep.cardOver
#print axioms matchRepeats_holds
end Go.Proofs.YtphdikcommfnhaaGreatDoor
