/-
  DERIVED. GIVEN WITH THE SEED: THE CARDS: each row of YtnffegdacbdhmaaGreatDoorRows.lean that lists a variable, with what it lists TIED to the program's text (the seventh form; the later family's looks); each row that meets fmt, with fmt's text TOLD by the authors' own Lean function (tested against real Go, not proved from fmt's source: count such statements apart). THE CARD IS WHAT COUNTS. Prove the row's statement (the work); the ties are given (YtnffegdacbdhmaaGreatDoorTie.lean); close each card by the builder's one call (the guide's Derived/Test/ToyasCard.lean, 'card_holds'). Laid BY PROGRAM, IN A SANDBOX (cutbox-door.mjs). By AI agents, Wed Nov 11 2026. No macro, syntax, notation, axiom, sorry.
-/
import Derived.Test.YtnffegdacbdhmaaGreatDoorRows
import GoSem.ClaimSeven
namespace Go.Proofs.YtnffegdacbdhmaaGreatDoor
namespace Rows

/-- THE TIED CARD OF 'corporalaw32.PlanNarrows'. -/
def planNarrowsCard : Claim7 := { stood := { row := planNarrowsRow, standIns := [], harness := (true, "ba00183e2ac4b4c728415a5c913ef81e444bf523362e449eb253222c9506bac0"), looks := true }, kinds := [], alts := [], laidByText := true, laidKinds := [.data, .pinned], laidTests := true, laidLooks := .later }
def PlanNarrowsCardSaid : Prop := Claim7.holds Tryz.pinned (.plain (OpenSpec.ofChange planNarrowsSpec)) planNarrowsCard

/-- THE TIED CARD OF 'corporalaw32.PlanAll'. -/
def planAllCard : Claim7 := { stood := { row := planAllRow, standIns := [], harness := (true, "ba00183e2ac4b4c728415a5c913ef81e444bf523362e449eb253222c9506bac0"), looks := true }, kinds := [], alts := [], laidByText := true, laidKinds := [.data, .pinned], laidTests := true, laidLooks := .later }
def PlanAllCardSaid : Prop := Claim7.holds Tryz.pinned (.plain (OpenSpec.ofChange planAllSpec)) planAllCard

/-- THE TIED CARD OF 'corporalaw32.PlanProves'. -/
def planProvesCard : Claim7 := { stood := { row := planProvesRow, standIns := [], harness := (true, "ba00183e2ac4b4c728415a5c913ef81e444bf523362e449eb253222c9506bac0"), looks := true }, kinds := [], alts := [], laidByText := true, laidKinds := [.data, .pinned], laidTests := true, laidLooks := .later }
def PlanProvesCardSaid : Prop := Claim7.holds Tryz.pinned (.plain (OpenSpec.ofChange planProvesSpec)) planProvesCard

/-- THE SECOND FORM's CARD OF 'corporalaw32.PlanNarrows'. -/
def planNarrowsUptoCard : Claim7 := { stood := { row := planNarrowsUptoRow, standIns := [], harness := (true, "ba00183e2ac4b4c728415a5c913ef81e444bf523362e449eb253222c9506bac0"), looks := true }, kinds := [], alts := [], laidByText := true, laidKinds := [.data, .pinned], laidTests := true, laidLooks := .later }
def PlanNarrowsUptoCardSaid : Prop := Claim7.holds Tryz.pinned (.plain (OpenSpec.upto planNarrowsSpec)) planNarrowsUptoCard

/-- THE SECOND FORM's CARD OF 'corporalaw32.PlanAll'. -/
def planAllUptoCard : Claim7 := { stood := { row := planAllUptoRow, standIns := [], harness := (true, "ba00183e2ac4b4c728415a5c913ef81e444bf523362e449eb253222c9506bac0"), looks := true }, kinds := [], alts := [], laidByText := true, laidKinds := [.data, .pinned], laidTests := true, laidLooks := .later }
def PlanAllUptoCardSaid : Prop := Claim7.holds Tryz.pinned (.plain (OpenSpec.upto planAllSpec)) planAllUptoCard

/-- THE SECOND FORM's CARD OF 'corporalaw32.PlanProves'. -/
def planProvesUptoCard : Claim7 := { stood := { row := planProvesUptoRow, standIns := [], harness := (true, "ba00183e2ac4b4c728415a5c913ef81e444bf523362e449eb253222c9506bac0"), looks := true }, kinds := [], alts := [], laidByText := true, laidKinds := [.data, .pinned], laidTests := true, laidLooks := .later }
def PlanProvesUptoCardSaid : Prop := Claim7.holds Tryz.pinned (.plain (OpenSpec.upto planProvesSpec)) planProvesUptoCard
end Rows
end Go.Proofs.YtnffegdacbdhmaaGreatDoor
