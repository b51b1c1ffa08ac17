/-
  DERIVED. GIVEN WITH THE SEED: THE CARDS: each row of YtmakafgajmnflaaGreatDoorRows.lean that lists a variable, with what it lists TIED to the program's text (the seventh form; the later family's looks); each row that meets fmt, with fmt's text TOLD by the authors' own Lean function (tested against real Go, not proved from fmt's source: count such statements apart). THE CARD IS WHAT COUNTS. Prove the row's statement (the work); the ties are given (YtmakafgajmnflaaGreatDoorTie.lean); close each card by the builder's one call (the guide's Derived/Test/ToyasCard.lean, 'card_holds'). Laid BY PROGRAM, IN A SANDBOX (cutbox-door.mjs). By AI agents, Wed Nov 11 2026. No macro, syntax, notation, axiom, sorry.
-/
import Derived.Test.YtmakafgajmnflaaGreatDoorRows
import GoSem.ClaimSeven
namespace Go.Proofs.YtmakafgajmnflaaGreatDoor
namespace Rows

/-- THE TIED CARD OF 'corporalaw31.EstimateProves'. -/
def estimateProvesCard : Claim7 := { stood := { row := estimateProvesRow, standIns := [], harness := (true, "ae4fa2eeb21b8b738172b1e12b1c047693dcfc5866856f29824d1697f7e28bc3"), looks := true }, kinds := [], alts := [], laidByText := true, laidKinds := [.data, .pinned], laidTests := true, laidLooks := .later }
def EstimateProvesCardSaid : Prop := Claim7.holds Tryz.pinned (.plain (OpenSpec.ofChange estimateProvesSpec)) estimateProvesCard

/-- THE SECOND FORM's CARD OF 'corporalaw31.EstimateProves'. -/
def estimateProvesUptoCard : Claim7 := { stood := { row := estimateProvesUptoRow, standIns := [], harness := (true, "ae4fa2eeb21b8b738172b1e12b1c047693dcfc5866856f29824d1697f7e28bc3"), looks := true }, kinds := [], alts := [], laidByText := true, laidKinds := [.data, .pinned], laidTests := true, laidLooks := .later }
def EstimateProvesUptoCardSaid : Prop := Claim7.holds Tryz.pinned (.plain (OpenSpec.upto estimateProvesSpec)) estimateProvesUptoCard
end Rows
end Go.Proofs.YtmakafgajmnflaaGreatDoor
