/-
  DERIVED. GIVEN WITH THE SEED: THE CARDS: each row of YtfpmgnnippjblaaGreatDoorRows.lean that lists a variable, with what it lists TIED to the program's text (the seventh form; the later family's looks); each row that meets fmt, with fmt's text TOLD by the authors' own Lean function (tested against real Go, not proved from fmt's source: count such statements apart). THE CARD IS WHAT COUNTS. Prove the row's statement (the work); the ties are given (YtfpmgnnippjblaaGreatDoorTie.lean); close each card by the builder's one call (the guide's Derived/Test/ToyasCard.lean, 'card_holds'). Laid BY PROGRAM, IN A SANDBOX (cutbox-door.mjs). By AI agents, Wed Nov 11 2026. No macro, syntax, notation, axiom, sorry.
-/
import Derived.Test.YtfpmgnnippjblaaGreatDoorRows
import GoSem.ClaimSeven
namespace Go.Proofs.YtfpmgnnippjblaaGreatDoor
namespace Rows

/-- THE TIED CARD OF 'corporalaw31.EstimateCounts'. -/
def estimateCountsCard : Claim7 := { stood := { row := estimateCountsRow, standIns := [], harness := (true, "e069a922c87679d1c1224c28e3e77485d5b1e04256c6b2e0a48b57143036e259"), looks := false }, kinds := [], alts := [], laidByText := true, laidKinds := [.data, .pinned], laidTests := true, laidLooks := .later }
def EstimateCountsCardSaid : Prop := Claim7.holds Tryz.pinned (.plain (OpenSpec.ofChange estimateCountsSpec)) estimateCountsCard

/-- THE TIED CARD OF 'corporalaw32.PlanBegins'. -/
def planBeginsCard : Claim7 := { stood := { row := planBeginsRow, standIns := [], harness := (true, "e069a922c87679d1c1224c28e3e77485d5b1e04256c6b2e0a48b57143036e259"), looks := false }, kinds := [], alts := [], laidByText := true, laidKinds := [.data, .pinned], laidTests := true, laidLooks := .later }
def PlanBeginsCardSaid : Prop := Claim7.holds Tryz.pinned (.plain (OpenSpec.ofChange planBeginsSpec)) planBeginsCard

/-- THE TIED CARD OF 'corporalaw32.PlanBest'. -/
def planBestCard : Claim7 := { stood := { row := planBestRow, standIns := [], harness := (true, "e069a922c87679d1c1224c28e3e77485d5b1e04256c6b2e0a48b57143036e259"), looks := false }, kinds := [], alts := [], laidByText := true, laidKinds := [.data, .pinned], laidTests := true, laidLooks := .later }
def PlanBestCardSaid : Prop := Claim7.holds Tryz.pinned (.plain (OpenSpec.ofChange planBestSpec)) planBestCard

/-- THE SECOND FORM's CARD OF 'corporalaw31.EstimateCounts'. -/
def estimateCountsUptoCard : Claim7 := { stood := { row := estimateCountsUptoRow, standIns := [], harness := (true, "e069a922c87679d1c1224c28e3e77485d5b1e04256c6b2e0a48b57143036e259"), looks := false }, kinds := [], alts := [], laidByText := true, laidKinds := [.data, .pinned], laidTests := true, laidLooks := .later }
def EstimateCountsUptoCardSaid : Prop := Claim7.holds Tryz.pinned (.plain (OpenSpec.upto estimateCountsSpec)) estimateCountsUptoCard

/-- THE SECOND FORM's CARD OF 'corporalaw32.PlanBegins'. -/
def planBeginsUptoCard : Claim7 := { stood := { row := planBeginsUptoRow, standIns := [], harness := (true, "e069a922c87679d1c1224c28e3e77485d5b1e04256c6b2e0a48b57143036e259"), looks := false }, kinds := [], alts := [], laidByText := true, laidKinds := [.data, .pinned], laidTests := true, laidLooks := .later }
def PlanBeginsUptoCardSaid : Prop := Claim7.holds Tryz.pinned (.plain (OpenSpec.upto planBeginsSpec)) planBeginsUptoCard

/-- THE SECOND FORM's CARD OF 'corporalaw32.PlanBest'. -/
def planBestUptoCard : Claim7 := { stood := { row := planBestUptoRow, standIns := [], harness := (true, "e069a922c87679d1c1224c28e3e77485d5b1e04256c6b2e0a48b57143036e259"), looks := false }, kinds := [], alts := [], laidByText := true, laidKinds := [.data, .pinned], laidTests := true, laidLooks := .later }
def PlanBestUptoCardSaid : Prop := Claim7.holds Tryz.pinned (.plain (OpenSpec.upto planBestSpec)) planBestUptoCard
end Rows
end Go.Proofs.YtfpmgnnippjblaaGreatDoor
