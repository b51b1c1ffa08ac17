/-
  Validate and Begins return the results that the document's answer specifies for generated queries and plans: PlanBegins returns true for every input, and its arguments read as they did. No condition but that the tables of Go's library hold what their text lays.
-/
import Derived.Test.YtfpmgnnippjblaaGreatDoorRows
import Derived.Test.YtfpmgnnippjblaaGreatDoorCards
import Derived.Test.YtfpmgnnippjblaaGreatDoorTie
import Derived.LaidMore
import Derived.Lay
import Derived.SevenTiedAt
import Derived.Stop.Joined
import Derived.Test.YtfpmgnnippjblaaGreatDoorGc30
set_option linter.all false
namespace Go.Gv.PBeg
open Go.Proofs Go.Proofs.YtfpmgnnippjblaaGreatDoor
open Go.ChangeShapes Go.WideShapes Go.ChangeAt Go.RowKit
open Go.Gv
theorem own : ownKnob Tryz.prog.godebug = none := by kernel_rfl
theorem laidOut : laidOutB Tryz.prog = true := by kernel_rfl
set_option maxRecDepth 100000 in
theorem lifted (os : Os) (started : os.Started) (H : Type) (enc : TypeId × Value → H) :
    ReturnsInHanded {} Tryz.checked os 4 .any (fun w args => (Rows.planBeginsSpec.pre enc Tryz.prog Tryz.f4 Rows.planBeginsRow.domain false w args ∧ laidMetH Tryz.prog Rows.planBeginsRow.laid w) ∧ sizedMet enc Tryz.prog Tryz.f4 (OpenSpec.ofChange Rows.planBeginsSpec) false w args) (Rows.planBeginsSpec.post enc Tryz.prog Tryz.f4 false true false false) := by
  refine returnsInHanded_of_change_and (C := Tryz.checked) (X := fun w _ => laidMetH Tryz.prog Rows.planBeginsRow.laid w) (fun _ _ _ hh h => h.of_heap hh) own started (by kernel_rfl) Tryz.func4
    (ChangeSpec.witness_shaped (enc := enc) (C := Tryz.checked) (os := os) (X := fun w _ => laidMetH Tryz.prog Rows.planBeginsRow.laid w) false (World.laidAll Tryz.prog os Rows.planBeginsRow.laid) #[.slice none 0 0, .slice none 0 0, .slice none 0 0] 8 (World.laidAll_os _ _ _)
      (World.shaped_of_ZipB (by kernel_rfl) (by kernel_rfl)) (by kernel_rfl) (by kernel_rfl) (by kernel_rfl)
      (by rw [MakeChecks.laidMetH_plain _ _ _ (by kernel_rfl)]; exact laidMet_laidAll _ (by kernel_rfl) (by kernel_rfl))) ?_
  intro W base args ds gs before hval0 hW _ hS hX _
  have hval : ∀ (j : Nat) t v, Tryz.f4.params[j]? = some t → args[j]? = some v → Value.okWide Tryz.prog W .any base t v := hval0
  have hW' := hW
  obtain ⟨p, q, hA0, hV, rfl, hfz, hnd⟩ := hW
  have hA : DataW.TrodAll enc Tryz.prog W 0 (fun _ => true) true Tryz.f4.params.toList args.toList ds p := hA0
  rw [Tryz.params4] at hA hval hS
  obtain ⟨v0, vs0, d0, ds0, p0, q0, hargs, rfl, rfl, h0, r0⟩ := trodAll_cons hA
  obtain ⟨v1, vs1, d1, ds1, p1, q1, rfl, rfl, rfl, h1, r1⟩ := trodAll_cons r0
  obtain ⟨v2, vs2, d2, ds2, p2, q2, rfl, rfl, rfl, h2, r2⟩ := trodAll_cons r1
  obtain ⟨rfl, rfl, rfl⟩ := trodAll_nil r2
  obtain rfl : args = #[v0, v1, v2] := by cases args; simp_all
  obtain ⟨rfl, rfl⟩ := trodVars_none hV
  obtain ⟨a0, len0, cap0, rfl⟩ := okWide_slice Tryz.underlying22 (hval 0 22 v0 rfl rfl)
  obtain ⟨a1, len1, cap1, rfl⟩ := okWide_slice Tryz.underlying22 (hval 1 22 v1 rfl rfl)
  obtain ⟨a2, len2, cap2, rfl⟩ := okWide_slice Tryz.underlying22 (hval 2 22 v2 rfl rfl)
  have k0 := h0
  have k1 := h1
  have k2 := h2
  have lt0 : ∀ x ∈ p0, x.block < W.heap.size := by obtain ⟨m, hm⟩ := k0; exact DataW.trod_lt m _ _ _ hm
  have lt1 : ∀ x ∈ p1, x.block < W.heap.size := by obtain ⟨m, hm⟩ := k1; exact DataW.trod_lt m _ _ _ hm
  have lt2 : ∀ x ∈ p2, x.block < W.heap.size := by obtain ⟨m, hm⟩ := k2; exact DataW.trod_lt m _ _ _ hm
  obtain ⟨l0, w0⟩ : ∃ l : List Int, OpR (fun _ => False) (quG W) W [.slice a0 len0 cap0] (Cod.enc l) := by
    obtain ⟨fuel, hf⟩ := h0
    exact Pa (Y := Int) Tryz.underlying22 (show Tryz.prog.cellsOf 3 = 1 from by kernel_rfl) (by decide) (fun n cs x h => qcK Tryz.underlying3 h) (fun b hb => qcP hb) hf
  obtain ⟨l1, w1⟩ : ∃ l : List Int, OpR (fun _ => False) (quG W) W [.slice a1 len1 cap1] (Cod.enc l) := by
    obtain ⟨fuel, hf⟩ := h1
    exact Pa (Y := Int) Tryz.underlying22 (show Tryz.prog.cellsOf 3 = 1 from by kernel_rfl) (by decide) (fun n cs x h => qcK Tryz.underlying3 h) (fun b hb => qcP hb) hf
  obtain ⟨l2, w2⟩ : ∃ l : List Int, OpR (fun _ => False) (quG W) W [.slice a2 len2 cap2] (Cod.enc l) := by
    obtain ⟨fuel, hf⟩ := h2
    exact Pa (Y := Int) Tryz.underlying22 (show Tryz.prog.cellsOf 3 = 1 from by kernel_rfl) (by decide) (fun n cs x h => qcK Tryz.underlying3 h) (fun b hb => qcP hb) hf
  clear hA0 hval0
  have hG : GlW (fun _ => False) (fun _ => False) W := fun p hp => by simp [sw] at hp
  refine (qcV (dq := False) (YS (dq := False) (fun h => h)) (fun _ _ h => h) (w := W) (vs := [.slice a0 len0 cap0, .slice a1 len1 cap1, .slice a2 len2 cap2]) (ds := [Cod.enc l0, Cod.enc l1, Cod.enc l2]) (x := (l0, l1, l2)) trivial rfl (fun k y c e1 e2 => ?_) (by simp) hG).mono fun e W' ⟨he, bel⟩ => ?_
  · rcases k with _ | _ | _ | k
    · cases e1; cases e2; exact w0.one rfl
    · cases e1; cases e2; exact w1.one rfl
    · cases e1; cases e2; exact w2.one rfl
    · simp at e1
  subst he
  exact ⟨_, rfl, _, _, _, [], _, [], hW', trodAll_mk1 (shut_bool Tryz.underlying4 _), (trodAll_cons_mk (Below.trod laidOut (by kernel_rfl) (of_decide_eq_true (by kernel_rfl)) k0 bel lt0) (trodAll_cons_mk (Below.trod laidOut (by kernel_rfl) (of_decide_eq_true (by kernel_rfl)) k1 bel lt1) (trodAll_cons_mk (Below.trod laidOut (by kernel_rfl) (of_decide_eq_true (by kernel_rfl)) k2 bel lt2) trodAll_mk0))), rfl, bel.frame _, fun h => by cases h⟩
theorem and_mk {a b : Bool} (ha : a = true) (hb : b = true) : (a && b) = true := by rw [ha, hb]; rfl
theorem j0 : (Rows.planBeginsRow.wf (OpenSpec.ofChange Rows.planBeginsSpec)) = true := by kernel_rfl
theorem j1 : (laidOutB Tryz.prog) = true := by kernel_rfl
theorem j2 : (mapsRowed Tryz.prog) = true := by kernel_rfl
theorem j3 : (Tryz.f4.params.all (Tryz.prog.readableRec ·)) = true := by kernel_rfl
theorem j4 : (namedTie Tryz.prog Rows.planBeginsRow.named Rows.planBeginsSpec.vars) = true := by kernel_rfl
theorem j5 : ((Rows.planBeginsRow.stops == [])) = true := by kernel_rfl
theorem j6 : ((Tryz.prog.stops == [])) = true := by kernel_rfl
theorem j7 : ((Rows.planBeginsRow.knobs == [])) = true := by kernel_rfl
theorem j8 : ((Tryz.prog.stopKnobs == [])) = true := by kernel_rfl
theorem j9 : ((Rows.planBeginsRow.inPlace == Tryz.prog.inPlace 4)) = true := by kernel_rfl
theorem j10 : ((Rows.planBeginsRow.unfollowed == Tryz.prog.unfollowed 4)) = true := by kernel_rfl
theorem j11 : ((Rows.planBeginsRow.recurses == Tryz.prog.recurses 4)) = true := by kernel_rfl
theorem j12 : ((Rows.planBeginsRow.named == Tryz.prog.varsNamed 4)) = true := by kernel_rfl
theorem j13 : ((Rows.planBeginsRow.maps == (Tryz.f4.params.toList ++ Rows.planBeginsSpec.plain.varTypes Tryz.prog).any (Tryz.prog.mapsRec ·))) = true := by kernel_rfl
theorem j14 : ((Rows.planBeginsRow.ifaces == (Tryz.f4.params.toList ++ Rows.planBeginsSpec.plain.varTypes Tryz.prog).any (Tryz.prog.ifacesRec ·))) = true := by kernel_rfl
theorem j15 : ((Rows.planBeginsRow.mapsOut == Tryz.prog.mapsAmong Tryz.f4.resultTypes.toList)) = true := by kernel_rfl
theorem j16 : ((Rows.planBeginsRow.loops == (Tryz.f4.params.toList ++ Rows.planBeginsSpec.plain.varTypes Tryz.prog).any (Tryz.prog.loopsFrom ·))) = true := by kernel_rfl
theorem j17 : ((Rows.planBeginsRow.wideKeys == (Tryz.f4.params.toList ++ Rows.planBeginsSpec.plain.varTypes Tryz.prog ++ Tryz.f4.resultTypes.toList).any (Tryz.prog.wideKeysFrom ·))) = true := by kernel_rfl
theorem j18 : (Rows.planBeginsSpec.vars.all (Tryz.prog.varReadable ·)) = true := by kernel_rfl
theorem j19 : (Tryz.f4.resultTypes.all (fun t => Tryz.prog.readableRec t && decide (t < Tryz.prog.types.size))) = true := by kernel_rfl
theorem j20 : ((Rows.planBeginsRow.ifacesOut == Tryz.f4.resultTypes.toList.any (Tryz.prog.ifacesRec ·))) = true := by kernel_rfl
theorem j21 : ((Rows.planBeginsRow.loopsOut == Tryz.f4.resultTypes.toList.any (Tryz.prog.loopsFrom ·))) = true := by kernel_rfl
theorem j22 : ((Rows.planBeginsRow.plainKeys == Tryz.prog.plainKeys)) = true := by kernel_rfl
theorem j23 : (Rows.planBeginsRow.shortTexts.isNone) = true := by kernel_rfl
theorem j24 : (Tryz.prog.stopsHeard) = true := by kernel_rfl
theorem j25 : (Tryz.prog.mayEnter) = true := by kernel_rfl
theorem j26 : ((Rows.planBeginsRow.lifted == Tryz.prog.liftsFinal)) = true := by kernel_rfl
theorem j27 : ((Tryz.prog.make == some Rows.planBeginsRow.make)) = true := by kernel_rfl
theorem j29 : ((Rows.planBeginsRow.pinned == Rows.planBeginsRow.pinnedBy)) = true := by kernel_rfl
theorem j30 : ((Rows.planBeginsRow.veiled == (Tryz.f4.params.toList ++ Rows.planBeginsSpec.plain.varTypes Tryz.prog ++ Tryz.f4.resultTypes.toList).any (Tryz.prog.veiledRec ·))) = true := by kernel_rfl
theorem j31 : (Rows.planBeginsRow.veiledFits Tryz.prog Tryz.f4.params.toList (Tryz.f4.params.toList ++ Rows.planBeginsSpec.plain.varTypes Tryz.prog ++ Tryz.f4.resultTypes.toList)) = true := by kernel_rfl
set_option maxRecDepth 100000 in
theorem jf : joinedFacts Tryz.prog 4 Tryz.f4 Rows.planBeginsSpec Rows.planBeginsRow = true := (and_mk (and_mk (and_mk (and_mk (and_mk (and_mk (and_mk (and_mk (and_mk (and_mk (and_mk (and_mk (and_mk (and_mk (and_mk (and_mk (and_mk (and_mk (and_mk (and_mk (and_mk (and_mk (and_mk (and_mk (and_mk (and_mk (and_mk (and_mk (and_mk (and_mk (and_mk j0 j1) j2) j3) j4) j5) j6) j7) j8) j9) j10) j11) j12) j13) j14) j15) j16) j17) j18) j19) j20) j21) j22) j23) j24) j25) j26) j27) (by kernel_rfl)) j29) j30) j31)
theorem c1 : Rows.planBeginsRow.wfByText (OpenSpec.ofChange Rows.planBeginsSpec) = true := by kernel_rfl
theorem c2 : Tryz.prog.mainIs = some (true, "e069a922c87679d1c1224c28e3e77485d5b1e04256c6b2e0a48b57143036e259".toList) := by kernel_rfl
theorem c3 : false = Tryz.prog.looks [] := by kernel_rfl
theorem goes_no {P : Program} (h : P.funcs.any Func.goes = false) (f : FuncId) : P.goes f = false := by
  unfold Program.goes
  rw [h, Bool.and_false, Bool.or_false, List.any_eq_false]
  intro g _ hg
  cases e : P.funcs[g]? with
  | none => rw [e] at hg; cases hg
  | some fn =>
    rw [e] at hg
    have := Array.any_eq_false.1 h g (Array.getElem?_eq_some_iff.1 e).1
    rw [(Array.getElem?_eq_some_iff.1 e).2] at this
    exact this hg
theorem goesBy_no {P : Program} (h : P.funcs.any Func.goes = false) (c : OpenClaim) : c.goesBy P = false := by
  unfold OpenClaim.goesBy Program.goesAt Program.goesFrom
  have h1 : ∀ o : Option FuncId, o.any P.goes = false := fun o => by
    cases o with
    | none => rfl
    | some f => exact goes_no h f
  have h2 : P.inits.toList.any P.goes = false := List.any_eq_false.2 fun f _ hf => by rw [goes_no h f] at hf; cases hf
  rw [h1, h2]
  cases c.start <;> rfl
theorem ng : Tryz.prog.funcs.any Func.goes = false := by kernel_rfl
theorem c4 : false = Rows.planBeginsRow.goesBy Tryz.prog := (goesBy_no ng _).symm

theorem over : Rows.planBeginsRow.holds Tryz.pinned (OpenSpec.ofChange Rows.planBeginsSpec) :=
  OpenClaim.holds_of_wide 4 Tryz.f4 rfl rfl rfl rfl rfl rfl rfl ⟨rfl, rfl, rfl, rfl, rfl⟩ rfl rfl rfl rfl rfl (by kernel_rfl) Tryz.func4 jf
    (of_decide_eq_true (by kernel_rfl)) (by unfold Func.isWrapper; first | (rw [if_pos (by decide +kernel)]; kernel_rfl) | (rw [if_neg (by decide +kernel)]; exact ⟨rfl, rfl⟩))
    (fun os started H enc _ => lifted os started H enc)
theorem cardOver : Claim7.holds Tryz.pinned (.plain (OpenSpec.ofChange Rows.planBeginsSpec)) Rows.planBeginsCard :=
  Claim7.holds_tied_plain_at .later [] [.data, .pinned] true (true, "e069a922c87679d1c1224c28e3e77485d5b1e04256c6b2e0a48b57143036e259") false over (fun _ h => by cases h) c1 (fun _ h => by cases h) planBegins_row_tie rfl ⟨rfl, rfl⟩ c2 rfl
    (fun f fn hf hfn => by
      obtain rfl : f = 4 := Option.some.inj ((show Tryz.prog.funcNamed "corpora/corporalaw32.PlanBegins" = some 4 by kernel_rfl).symm.trans hf) |>.symm
      obtain rfl : fn = Tryz.f4 := (Option.some.inj (Tryz.func4.symm.trans hfn)).symm
      exact ⟨c3, fun j t ht => by
        rw [Tryz.params4] at ht
        have hm : t ∈ [22, 22, 22] := by simpa using Array.mem_of_getElem? ht
        have hall : ([22, 22, 22].all fun u => !Tryz.prog.wantsStandIn u) = true := by kernel_rfl
        exact (show Tryz.prog.wantsStandIn t = false by simpa using List.all_eq_true.1 hall t hm)⟩)
    c4
end Go.Gv.PBeg
namespace Go.Proofs.YtfpmgnnippjblaaGreatDoor
/-- THE STATEMENT. -/
theorem planBegins_holds : Rows.PlanBeginsCardSaid := Go.Gv.PBeg.cardOver
#print axioms planBegins_holds
end Go.Proofs.YtfpmgnnippjblaaGreatDoor
