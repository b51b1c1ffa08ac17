/-
  Count and Leaves return the numbers that the document's answer specifies for generated corpora and queries: EstimateCounts returns true for every input, and its arguments read as they did. No condition but that the tables of Go's library hold what their text lays.
-/
import Derived.Test.YtfpmgnnippjblaaGreatDoorRows
import Derived.Test.YtfpmgnnippjblaaGreatDoorCards
import Derived.Test.YtfpmgnnippjblaaGreatDoorTie
import Derived.LaidMore
import Derived.Lay
import Derived.SevenTiedAt
import Derived.Stop.Joined
import Derived.Test.YtfpmgnnippjblaaGreatDoorGa26
set_option linter.all false
namespace Go.Gv.ECnt
open Go.Proofs Go.Proofs.YtfpmgnnippjblaaGreatDoor
open Go.ChangeShapes Go.WideShapes Go.ChangeAt Go.RowKit
open Go.Gv
theorem own : ownKnob Tryz.prog.godebug = none := by kernel_rfl
theorem laidOut : laidOutB Tryz.prog = true := by kernel_rfl
set_option maxRecDepth 100000 in
theorem lifted (os : Os) (started : os.Started) (H : Type) (enc : TypeId × Value → H) :
    ReturnsInHanded {} Tryz.checked os 3 .any (fun w args => (Rows.estimateCountsSpec.pre enc Tryz.prog Tryz.f3 Rows.estimateCountsRow.domain false w args ∧ laidMetH Tryz.prog Rows.estimateCountsRow.laid w) ∧ sizedMet enc Tryz.prog Tryz.f3 (OpenSpec.ofChange Rows.estimateCountsSpec) false w args) (Rows.estimateCountsSpec.post enc Tryz.prog Tryz.f3 false true false false) := by
  refine returnsInHanded_of_change_and (C := Tryz.checked) (X := fun w _ => laidMetH Tryz.prog Rows.estimateCountsRow.laid w) (fun _ _ _ hh h => h.of_heap hh) own started (by kernel_rfl) Tryz.func3
    (ChangeSpec.witness_shaped (enc := enc) (C := Tryz.checked) (os := os) (X := fun w _ => laidMetH Tryz.prog Rows.estimateCountsRow.laid w) false (World.laidAll Tryz.prog os Rows.estimateCountsRow.laid) #[.slice none 0 0, .slice none 0 0] 8 (World.laidAll_os _ _ _)
      (World.shaped_of_ZipB (by kernel_rfl) (by kernel_rfl)) (by kernel_rfl) (by kernel_rfl) (by kernel_rfl)
      (by rw [MakeChecks.laidMetH_plain _ _ _ (by kernel_rfl)]; exact laidMet_laidAll _ (by kernel_rfl) (by kernel_rfl))) ?_
  intro W base args ds gs before hval0 hW _ hS hX _
  have hval : ∀ (j : Nat) t v, Tryz.f3.params[j]? = some t → args[j]? = some v → Value.okWide Tryz.prog W .any base t v := hval0
  have hW' := hW
  obtain ⟨p, q, hA0, hV, rfl, hfz, hnd⟩ := hW
  have hA : DataW.TrodAll enc Tryz.prog W 0 (fun _ => true) true Tryz.f3.params.toList args.toList ds p := hA0
  rw [Tryz.params3] at hA hval hS
  obtain ⟨v0, vs0, d0, ds0, p0, q0, hargs, rfl, rfl, h0, r0⟩ := trodAll_cons hA
  obtain ⟨v1, vs1, d1, ds1, p1, q1, rfl, rfl, rfl, h1, r1⟩ := trodAll_cons r0
  obtain ⟨rfl, rfl, rfl⟩ := trodAll_nil r1
  obtain rfl : args = #[v0, v1] := by cases args; simp_all
  obtain ⟨rfl, rfl⟩ := trodVars_none hV
  obtain ⟨a0, len0, cap0, rfl⟩ := okWide_slice Tryz.underlying22 (hval 0 22 v0 rfl rfl)
  obtain ⟨a1, len1, cap1, rfl⟩ := okWide_slice Tryz.underlying22 (hval 1 22 v1 rfl rfl)
  have k0 := h0
  have k1 := h1
  have lt0 : ∀ x ∈ p0, x.block < W.heap.size := by obtain ⟨m, hm⟩ := k0; exact DataW.trod_lt m _ _ _ hm
  have lt1 : ∀ x ∈ p1, x.block < W.heap.size := by obtain ⟨m, hm⟩ := k1; exact DataW.trod_lt m _ _ _ hm
  obtain ⟨l0, w0⟩ : ∃ l : List Int, OpR (fun _ => False) (qtG W) W [.slice a0 len0 cap0] (Cod.enc l) := by
    obtain ⟨fuel, hf⟩ := h0
    exact Wh (Y := Int) Tryz.underlying22 (show Tryz.prog.cellsOf 3 = 1 from by kernel_rfl) (by decide) (fun n cs x h => qfJ Tryz.underlying3 h) (fun b hb => qfX hb) hf
  obtain ⟨l1, w1⟩ : ∃ l : List Int, OpR (fun _ => False) (qtG W) W [.slice a1 len1 cap1] (Cod.enc l) := by
    obtain ⟨fuel, hf⟩ := h1
    exact Wh (Y := Int) Tryz.underlying22 (show Tryz.prog.cellsOf 3 = 1 from by kernel_rfl) (by decide) (fun n cs x h => qfJ Tryz.underlying3 h) (fun b hb => qfX hb) hf
  clear hA0 hval0
  have hG : GlW (fun _ => False) (fun _ => False) W := fun p hp => by simp [qW] at hp
  refine (ZB (dq := False) (Ve (dq := False)) (fun _ _ h => h) (w := W) (vs := [.slice a0 len0 cap0, .slice a1 len1 cap1]) (ds := [Cod.enc l0, Cod.enc l1]) (x := (l0, l1)) trivial rfl (fun k y c e1 e2 => ?_) (by simp) hG).mono fun e W' ⟨he, bel⟩ => ?_
  · rcases k with _ | _ | k
    · cases e1; cases e2; exact w0.one rfl
    · cases e1; cases e2; exact w1.one rfl
    · simp at e1
  subst he
  exact ⟨_, rfl, _, _, _, [], _, [], hW', trodAll_mk1 (shut_bool Tryz.underlying4 _), (trodAll_cons_mk (Below.trod laidOut (by kernel_rfl) (of_decide_eq_true (by kernel_rfl)) k0 bel lt0) (trodAll_cons_mk (Below.trod laidOut (by kernel_rfl) (of_decide_eq_true (by kernel_rfl)) k1 bel lt1) trodAll_mk0)), rfl, bel.frame _, fun h => by cases h⟩
theorem and_mk {a b : Bool} (ha : a = true) (hb : b = true) : (a && b) = true := by rw [ha, hb]; rfl
theorem j0 : (Rows.estimateCountsRow.wf (OpenSpec.ofChange Rows.estimateCountsSpec)) = true := by kernel_rfl
theorem j1 : (laidOutB Tryz.prog) = true := by kernel_rfl
theorem j2 : (mapsRowed Tryz.prog) = true := by kernel_rfl
theorem j3 : (Tryz.f3.params.all (Tryz.prog.readableRec ·)) = true := by kernel_rfl
theorem j4 : (namedTie Tryz.prog Rows.estimateCountsRow.named Rows.estimateCountsSpec.vars) = true := by kernel_rfl
theorem j5 : ((Rows.estimateCountsRow.stops == [])) = true := by kernel_rfl
theorem j6 : ((Tryz.prog.stops == [])) = true := by kernel_rfl
theorem j7 : ((Rows.estimateCountsRow.knobs == [])) = true := by kernel_rfl
theorem j8 : ((Tryz.prog.stopKnobs == [])) = true := by kernel_rfl
theorem j9 : ((Rows.estimateCountsRow.inPlace == Tryz.prog.inPlace 3)) = true := by kernel_rfl
theorem j10 : ((Rows.estimateCountsRow.unfollowed == Tryz.prog.unfollowed 3)) = true := by kernel_rfl
theorem j11 : ((Rows.estimateCountsRow.recurses == Tryz.prog.recurses 3)) = true := by kernel_rfl
theorem j12 : ((Rows.estimateCountsRow.named == Tryz.prog.varsNamed 3)) = true := by kernel_rfl
theorem j13 : ((Rows.estimateCountsRow.maps == (Tryz.f3.params.toList ++ Rows.estimateCountsSpec.plain.varTypes Tryz.prog).any (Tryz.prog.mapsRec ·))) = true := by kernel_rfl
theorem j14 : ((Rows.estimateCountsRow.ifaces == (Tryz.f3.params.toList ++ Rows.estimateCountsSpec.plain.varTypes Tryz.prog).any (Tryz.prog.ifacesRec ·))) = true := by kernel_rfl
theorem j15 : ((Rows.estimateCountsRow.mapsOut == Tryz.prog.mapsAmong Tryz.f3.resultTypes.toList)) = true := by kernel_rfl
theorem j16 : ((Rows.estimateCountsRow.loops == (Tryz.f3.params.toList ++ Rows.estimateCountsSpec.plain.varTypes Tryz.prog).any (Tryz.prog.loopsFrom ·))) = true := by kernel_rfl
theorem j17 : ((Rows.estimateCountsRow.wideKeys == (Tryz.f3.params.toList ++ Rows.estimateCountsSpec.plain.varTypes Tryz.prog ++ Tryz.f3.resultTypes.toList).any (Tryz.prog.wideKeysFrom ·))) = true := by kernel_rfl
theorem j18 : (Rows.estimateCountsSpec.vars.all (Tryz.prog.varReadable ·)) = true := by kernel_rfl
theorem j19 : (Tryz.f3.resultTypes.all (fun t => Tryz.prog.readableRec t && decide (t < Tryz.prog.types.size))) = true := by kernel_rfl
theorem j20 : ((Rows.estimateCountsRow.ifacesOut == Tryz.f3.resultTypes.toList.any (Tryz.prog.ifacesRec ·))) = true := by kernel_rfl
theorem j21 : ((Rows.estimateCountsRow.loopsOut == Tryz.f3.resultTypes.toList.any (Tryz.prog.loopsFrom ·))) = true := by kernel_rfl
theorem j22 : ((Rows.estimateCountsRow.plainKeys == Tryz.prog.plainKeys)) = true := by kernel_rfl
theorem j23 : (Rows.estimateCountsRow.shortTexts.isNone) = true := by kernel_rfl
theorem j24 : (Tryz.prog.stopsHeard) = true := by kernel_rfl
theorem j25 : (Tryz.prog.mayEnter) = true := by kernel_rfl
theorem j26 : ((Rows.estimateCountsRow.lifted == Tryz.prog.liftsFinal)) = true := by kernel_rfl
theorem j27 : ((Tryz.prog.make == some Rows.estimateCountsRow.make)) = true := by kernel_rfl
theorem j29 : ((Rows.estimateCountsRow.pinned == Rows.estimateCountsRow.pinnedBy)) = true := by kernel_rfl
theorem j30 : ((Rows.estimateCountsRow.veiled == (Tryz.f3.params.toList ++ Rows.estimateCountsSpec.plain.varTypes Tryz.prog ++ Tryz.f3.resultTypes.toList).any (Tryz.prog.veiledRec ·))) = true := by kernel_rfl
theorem j31 : (Rows.estimateCountsRow.veiledFits Tryz.prog Tryz.f3.params.toList (Tryz.f3.params.toList ++ Rows.estimateCountsSpec.plain.varTypes Tryz.prog ++ Tryz.f3.resultTypes.toList)) = true := by kernel_rfl
set_option maxRecDepth 100000 in
theorem jf : joinedFacts Tryz.prog 3 Tryz.f3 Rows.estimateCountsSpec Rows.estimateCountsRow = true := (and_mk (and_mk (and_mk (and_mk (and_mk (and_mk (and_mk (and_mk (and_mk (and_mk (and_mk (and_mk (and_mk (and_mk (and_mk (and_mk (and_mk (and_mk (and_mk (and_mk (and_mk (and_mk (and_mk (and_mk (and_mk (and_mk (and_mk (and_mk (and_mk (and_mk (and_mk j0 j1) j2) j3) j4) j5) j6) j7) j8) j9) j10) j11) j12) j13) j14) j15) j16) j17) j18) j19) j20) j21) j22) j23) j24) j25) j26) j27) (by kernel_rfl)) j29) j30) j31)
theorem c1 : Rows.estimateCountsRow.wfByText (OpenSpec.ofChange Rows.estimateCountsSpec) = true := by kernel_rfl
theorem c2 : Tryz.prog.mainIs = some (true, "e069a922c87679d1c1224c28e3e77485d5b1e04256c6b2e0a48b57143036e259".toList) := by kernel_rfl
theorem c3 : false = Tryz.prog.looks [] := by kernel_rfl
theorem goes_no {P : Program} (h : P.funcs.any Func.goes = false) (f : FuncId) : P.goes f = false := by
  unfold Program.goes
  rw [h, Bool.and_false, Bool.or_false, List.any_eq_false]
  intro g _ hg
  cases e : P.funcs[g]? with
  | none => rw [e] at hg; cases hg
  | some fn =>
    rw [e] at hg
    have := Array.any_eq_false.1 h g (Array.getElem?_eq_some_iff.1 e).1
    rw [(Array.getElem?_eq_some_iff.1 e).2] at this
    exact this hg
theorem goesBy_no {P : Program} (h : P.funcs.any Func.goes = false) (c : OpenClaim) : c.goesBy P = false := by
  unfold OpenClaim.goesBy Program.goesAt Program.goesFrom
  have h1 : ∀ o : Option FuncId, o.any P.goes = false := fun o => by
    cases o with
    | none => rfl
    | some f => exact goes_no h f
  have h2 : P.inits.toList.any P.goes = false := List.any_eq_false.2 fun f _ hf => by rw [goes_no h f] at hf; cases hf
  rw [h1, h2]
  cases c.start <;> rfl
theorem ng : Tryz.prog.funcs.any Func.goes = false := by kernel_rfl
theorem c4 : false = Rows.estimateCountsRow.goesBy Tryz.prog := (goesBy_no ng _).symm

theorem over : Rows.estimateCountsRow.holds Tryz.pinned (OpenSpec.ofChange Rows.estimateCountsSpec) :=
  OpenClaim.holds_of_wide 3 Tryz.f3 rfl rfl rfl rfl rfl rfl rfl ⟨rfl, rfl, rfl, rfl, rfl⟩ rfl rfl rfl rfl rfl (by kernel_rfl) Tryz.func3 jf
    (of_decide_eq_true (by kernel_rfl)) (by unfold Func.isWrapper; first | (rw [if_pos (by decide +kernel)]; kernel_rfl) | (rw [if_neg (by decide +kernel)]; exact ⟨rfl, rfl⟩))
    (fun os started H enc _ => lifted os started H enc)
theorem cardOver : Claim7.holds Tryz.pinned (.plain (OpenSpec.ofChange Rows.estimateCountsSpec)) Rows.estimateCountsCard :=
  Claim7.holds_tied_plain_at .later [] [.data, .pinned] true (true, "e069a922c87679d1c1224c28e3e77485d5b1e04256c6b2e0a48b57143036e259") false over (fun _ h => by cases h) c1 (fun _ h => by cases h) estimateCounts_row_tie rfl ⟨rfl, rfl⟩ c2 rfl
    (fun f fn hf hfn => by
      obtain rfl : f = 3 := Option.some.inj ((show Tryz.prog.funcNamed "corpora/corporalaw31.EstimateCounts" = some 3 by kernel_rfl).symm.trans hf) |>.symm
      obtain rfl : fn = Tryz.f3 := (Option.some.inj (Tryz.func3.symm.trans hfn)).symm
      exact ⟨c3, fun j t ht => by
        rw [Tryz.params3] at ht
        have hm : t ∈ [22, 22] := by simpa using Array.mem_of_getElem? ht
        have hall : ([22, 22].all fun u => !Tryz.prog.wantsStandIn u) = true := by kernel_rfl
        exact (show Tryz.prog.wantsStandIn t = false by simpa using List.all_eq_true.1 hall t hm)⟩)
    c4
end Go.Gv.ECnt
namespace Go.Proofs.YtfpmgnnippjblaaGreatDoor
/-- THE STATEMENT. -/
theorem estimateCounts_holds : Rows.EstimateCountsCardSaid := Go.Gv.ECnt.cardOver
#print axioms estimateCounts_holds
end Go.Proofs.YtfpmgnnippjblaaGreatDoor
