/-
  DERIVED. GIVEN WITH THE SEED: THE CARDS: each row of YtfbleenmepoodaaGreatDoorRows.lean that lists a variable, with what it lists TIED to the program's text (the seventh form; the later family's looks); each row that meets fmt, with fmt's text TOLD by the authors' own Lean function (tested against real Go, not proved from fmt's source: count such statements apart). THE CARD IS WHAT COUNTS. Prove the row's statement (the work); the ties are given (YtfbleenmepoodaaGreatDoorTie.lean); close each card by the builder's one call (the guide's Derived/Test/ToyasCard.lean, 'card_holds'). Laid BY PROGRAM, IN A SANDBOX (cutbox-door.mjs). By AI agents, Wed Nov 11 2026. No macro, syntax, notation, axiom, sorry.
-/
import Derived.Test.YtfbleenmepoodaaGreatDoorRows
import GoSem.ClaimSeven
namespace Go.Proofs.YtfbleenmepoodaaGreatDoor
namespace Rows

/-- THE TIED CARD OF 'corporalaw22.ConditionHolds'. -/
def conditionHoldsCard : Claim7 := { stood := { row := conditionHoldsRow, standIns := [], harness := (true, "2ecc3d85a647e673753d1fcb63909134ac736f8c1518962283cc87743d5d00ab"), looks := false }, kinds := [], alts := [], laidByText := true, laidKinds := [.data, .pinned], laidTests := true, laidLooks := .later }
def ConditionHoldsCardSaid : Prop := Claim7.holds Tryz.pinned (.plain (OpenSpec.ofChange conditionHoldsSpec)) conditionHoldsCard

/-- THE TIED CARD OF 'corporalaw22.ConditionSelects'. -/
def conditionSelectsCard : Claim7 := { stood := { row := conditionSelectsRow, standIns := [], harness := (true, "2ecc3d85a647e673753d1fcb63909134ac736f8c1518962283cc87743d5d00ab"), looks := false }, kinds := [], alts := [], laidByText := true, laidKinds := [.data, .pinned], laidTests := true, laidLooks := .later }
def ConditionSelectsCardSaid : Prop := Claim7.holds Tryz.pinned (.plain (OpenSpec.ofChange conditionSelectsSpec)) conditionSelectsCard

/-- THE SECOND FORM's CARD OF 'corporalaw22.ConditionHolds'. -/
def conditionHoldsUptoCard : Claim7 := { stood := { row := conditionHoldsUptoRow, standIns := [], harness := (true, "2ecc3d85a647e673753d1fcb63909134ac736f8c1518962283cc87743d5d00ab"), looks := false }, kinds := [], alts := [], laidByText := true, laidKinds := [.data, .pinned], laidTests := true, laidLooks := .later }
def ConditionHoldsUptoCardSaid : Prop := Claim7.holds Tryz.pinned (.plain (OpenSpec.upto conditionHoldsSpec)) conditionHoldsUptoCard

/-- THE SECOND FORM's CARD OF 'corporalaw22.ConditionSelects'. -/
def conditionSelectsUptoCard : Claim7 := { stood := { row := conditionSelectsUptoRow, standIns := [], harness := (true, "2ecc3d85a647e673753d1fcb63909134ac736f8c1518962283cc87743d5d00ab"), looks := false }, kinds := [], alts := [], laidByText := true, laidKinds := [.data, .pinned], laidTests := true, laidLooks := .later }
def ConditionSelectsUptoCardSaid : Prop := Claim7.holds Tryz.pinned (.plain (OpenSpec.upto conditionSelectsSpec)) conditionSelectsUptoCard
end Rows
end Go.Proofs.YtfbleenmepoodaaGreatDoor
