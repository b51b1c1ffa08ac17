/-
  DERIVED. GIVEN WITH THE SEED: THE CARDS: each row of YtaiffcbkmgfklaaGreatDoorRows.lean that lists a variable, with what it lists TIED to the program's text (the seventh form; the later family's looks); each row that meets fmt, with fmt's text TOLD by the authors' own Lean function (tested against real Go, not proved from fmt's source: count such statements apart). THE CARD IS WHAT COUNTS. Prove the row's statement (the work); the ties are given (YtaiffcbkmgfklaaGreatDoorTie.lean); close each card by the builder's one call (the guide's Derived/Test/ToyasCard.lean, 'card_holds'). Laid BY PROGRAM, IN A SANDBOX (cutbox-door.mjs). By AI agents, Wed Nov 11 2026. No macro, syntax, notation, axiom, sorry.
-/
import Derived.Test.YtaiffcbkmgfklaaGreatDoorRows
import GoSem.ClaimSeven
namespace Go.Proofs.YtaiffcbkmgfklaaGreatDoor
namespace Rows

/-- THE TIED CARD OF 'corporalaw23.QueryParses'. -/
def queryParsesCard : Claim7 := { stood := { row := queryParsesRow, standIns := [], harness := (true, "5e67148f32a35f4ce08c56954b8a108ed192c9a5276876fef77413cf1238a80d"), looks := true }, kinds := [], alts := [], laidByText := true, laidKinds := [.data, .data, .data, .data, .pinned], laidTests := true, laidLooks := .later }
def QueryParsesCardSaid : Prop := Claim7.holds Tryz.pinned (.plain (OpenSpec.ofChange queryParsesSpec)) queryParsesCard

/-- THE TIED CARD OF 'corporalaw23.QueryChanged'. -/
def queryChangedCard : Claim7 := { stood := { row := queryChangedRow, standIns := [], harness := (true, "5e67148f32a35f4ce08c56954b8a108ed192c9a5276876fef77413cf1238a80d"), looks := true }, kinds := [], alts := [], laidByText := true, laidKinds := [.data, .data, .data, .data, .pinned], laidTests := true, laidLooks := .later }
def QueryChangedCardSaid : Prop := Claim7.holds Tryz.pinned (.plain (OpenSpec.ofChange queryChangedSpec)) queryChangedCard

/-- THE TIED CARD OF 'corporalaw23.QueryFormats'. -/
def queryFormatsCard : Claim7 := { stood := { row := queryFormatsRow, standIns := [], harness := (true, "5e67148f32a35f4ce08c56954b8a108ed192c9a5276876fef77413cf1238a80d"), looks := true }, kinds := [], alts := [], laidByText := true, laidKinds := [.data, .data, .data, .data, .pinned], laidTests := true, laidLooks := .later }
def QueryFormatsCardSaid : Prop := Claim7.holds Tryz.pinned (.plain (OpenSpec.ofChange queryFormatsSpec)) queryFormatsCard

/-- THE TIED CARD OF 'corporalaw23.QueryBlanks'. -/
def queryBlanksCard : Claim7 := { stood := { row := queryBlanksRow, standIns := [], harness := (true, "5e67148f32a35f4ce08c56954b8a108ed192c9a5276876fef77413cf1238a80d"), looks := true }, kinds := [], alts := [], laidByText := true, laidKinds := [.data, .data, .data, .data, .pinned], laidTests := true, laidLooks := .later }
def QueryBlanksCardSaid : Prop := Claim7.holds Tryz.pinned (.plain (OpenSpec.ofChange queryBlanksSpec)) queryBlanksCard

/-- THE TIED CARD OF 'corporalaw23.QueryLeaves'. -/
def queryLeavesCard : Claim7 := { stood := { row := queryLeavesRow, standIns := [], harness := (true, "5e67148f32a35f4ce08c56954b8a108ed192c9a5276876fef77413cf1238a80d"), looks := true }, kinds := [], alts := [], laidByText := true, laidKinds := [.data, .data, .data, .data, .pinned], laidTests := true, laidLooks := .later }
def QueryLeavesCardSaid : Prop := Claim7.holds Tryz.pinned (.plain (OpenSpec.ofChange queryLeavesSpec)) queryLeavesCard

/-- THE TIED CARD OF 'corporalaw23.QuerySizes'. -/
def querySizesCard : Claim7 := { stood := { row := querySizesRow, standIns := [], harness := (true, "5e67148f32a35f4ce08c56954b8a108ed192c9a5276876fef77413cf1238a80d"), looks := true }, kinds := [], alts := [], laidByText := true, laidKinds := [.data, .data, .data, .data, .pinned], laidTests := true, laidLooks := .later }
def QuerySizesCardSaid : Prop := Claim7.holds Tryz.pinned (.plain (OpenSpec.ofChange querySizesSpec)) querySizesCard

/-- THE SECOND FORM's CARD OF 'corporalaw23.QueryParses'. -/
def queryParsesUptoCard : Claim7 := { stood := { row := queryParsesUptoRow, standIns := [], harness := (true, "5e67148f32a35f4ce08c56954b8a108ed192c9a5276876fef77413cf1238a80d"), looks := true }, kinds := [], alts := [], laidByText := true, laidKinds := [.data, .data, .data, .data, .pinned], laidTests := true, laidLooks := .later }
def QueryParsesUptoCardSaid : Prop := Claim7.holds Tryz.pinned (.plain (OpenSpec.upto queryParsesSpec)) queryParsesUptoCard

/-- THE SECOND FORM's CARD OF 'corporalaw23.QueryChanged'. -/
def queryChangedUptoCard : Claim7 := { stood := { row := queryChangedUptoRow, standIns := [], harness := (true, "5e67148f32a35f4ce08c56954b8a108ed192c9a5276876fef77413cf1238a80d"), looks := true }, kinds := [], alts := [], laidByText := true, laidKinds := [.data, .data, .data, .data, .pinned], laidTests := true, laidLooks := .later }
def QueryChangedUptoCardSaid : Prop := Claim7.holds Tryz.pinned (.plain (OpenSpec.upto queryChangedSpec)) queryChangedUptoCard

/-- THE SECOND FORM's CARD OF 'corporalaw23.QueryFormats'. -/
def queryFormatsUptoCard : Claim7 := { stood := { row := queryFormatsUptoRow, standIns := [], harness := (true, "5e67148f32a35f4ce08c56954b8a108ed192c9a5276876fef77413cf1238a80d"), looks := true }, kinds := [], alts := [], laidByText := true, laidKinds := [.data, .data, .data, .data, .pinned], laidTests := true, laidLooks := .later }
def QueryFormatsUptoCardSaid : Prop := Claim7.holds Tryz.pinned (.plain (OpenSpec.upto queryFormatsSpec)) queryFormatsUptoCard

/-- THE SECOND FORM's CARD OF 'corporalaw23.QueryBlanks'. -/
def queryBlanksUptoCard : Claim7 := { stood := { row := queryBlanksUptoRow, standIns := [], harness := (true, "5e67148f32a35f4ce08c56954b8a108ed192c9a5276876fef77413cf1238a80d"), looks := true }, kinds := [], alts := [], laidByText := true, laidKinds := [.data, .data, .data, .data, .pinned], laidTests := true, laidLooks := .later }
def QueryBlanksUptoCardSaid : Prop := Claim7.holds Tryz.pinned (.plain (OpenSpec.upto queryBlanksSpec)) queryBlanksUptoCard

/-- THE SECOND FORM's CARD OF 'corporalaw23.QueryLeaves'. -/
def queryLeavesUptoCard : Claim7 := { stood := { row := queryLeavesUptoRow, standIns := [], harness := (true, "5e67148f32a35f4ce08c56954b8a108ed192c9a5276876fef77413cf1238a80d"), looks := true }, kinds := [], alts := [], laidByText := true, laidKinds := [.data, .data, .data, .data, .pinned], laidTests := true, laidLooks := .later }
def QueryLeavesUptoCardSaid : Prop := Claim7.holds Tryz.pinned (.plain (OpenSpec.upto queryLeavesSpec)) queryLeavesUptoCard

/-- THE SECOND FORM's CARD OF 'corporalaw23.QuerySizes'. -/
def querySizesUptoCard : Claim7 := { stood := { row := querySizesUptoRow, standIns := [], harness := (true, "5e67148f32a35f4ce08c56954b8a108ed192c9a5276876fef77413cf1238a80d"), looks := true }, kinds := [], alts := [], laidByText := true, laidKinds := [.data, .data, .data, .data, .pinned], laidTests := true, laidLooks := .later }
def QuerySizesUptoCardSaid : Prop := Claim7.holds Tryz.pinned (.plain (OpenSpec.upto querySizesSpec)) querySizesUptoCard
end Rows
end Go.Proofs.YtaiffcbkmgfklaaGreatDoor
