/-
  DERIVED. GIVEN WITH THE SEED: THE CARDS: each row of YtphdikcommfnhaaGreatDoorRows.lean that lists a variable, with what it lists TIED to the program's text (the seventh form; the later family's looks); each row that meets fmt, with fmt's text TOLD by the authors' own Lean function (tested against real Go, not proved from fmt's source: count such statements apart). THE CARD IS WHAT COUNTS. Prove the row's statement (the work); the ties are given (YtphdikcommfnhaaGreatDoorTie.lean); close each card by the builder's one call (the guide's Derived/Test/ToyasCard.lean, 'card_holds'). Laid BY PROGRAM, IN A SANDBOX (cutbox-door.mjs). By AI agents, Wed Nov 11 2026. No macro, syntax, notation, axiom, sorry.
-/
import Derived.Test.YtphdikcommfnhaaGreatDoorRows
import GoSem.ClaimSeven
namespace Go.Proofs.YtphdikcommfnhaaGreatDoor
namespace Rows

/-- THE TIED CARD OF 'corporalaw24.MatchFinds'. -/
def matchFindsCard : Claim7 := { stood := { row := matchFindsRow, standIns := [], harness := (true, "ac3cab6b512acf990440951b9fa28ec15358ddd4958af1852004d83725a7297a"), looks := true }, kinds := [], alts := [], laidByText := true, laidKinds := [.data, .pinned], laidTests := true, laidLooks := .later }
def MatchFindsCardSaid : Prop := Claim7.holds Tryz.pinned (.plain (OpenSpec.ofChange matchFindsSpec)) matchFindsCard

/-- THE TIED CARD OF 'corporalaw24.MatchOrder'. -/
def matchOrderCard : Claim7 := { stood := { row := matchOrderRow, standIns := [], harness := (true, "ac3cab6b512acf990440951b9fa28ec15358ddd4958af1852004d83725a7297a"), looks := true }, kinds := [], alts := [], laidByText := true, laidKinds := [.data, .pinned], laidTests := true, laidLooks := .later }
def MatchOrderCardSaid : Prop := Claim7.holds Tryz.pinned (.plain (OpenSpec.ofChange matchOrderSpec)) matchOrderCard

/-- THE TIED CARD OF 'corporalaw24.MatchUnions'. -/
def matchUnionsCard : Claim7 := { stood := { row := matchUnionsRow, standIns := [], harness := (true, "ac3cab6b512acf990440951b9fa28ec15358ddd4958af1852004d83725a7297a"), looks := true }, kinds := [], alts := [], laidByText := true, laidKinds := [.data, .pinned], laidTests := true, laidLooks := .later }
def MatchUnionsCardSaid : Prop := Claim7.holds Tryz.pinned (.plain (OpenSpec.ofChange matchUnionsSpec)) matchUnionsCard

/-- THE TIED CARD OF 'corporalaw24.MatchRepeats'. -/
def matchRepeatsCard : Claim7 := { stood := { row := matchRepeatsRow, standIns := [], harness := (true, "ac3cab6b512acf990440951b9fa28ec15358ddd4958af1852004d83725a7297a"), looks := true }, kinds := [], alts := [], laidByText := true, laidKinds := [.data, .pinned], laidTests := true, laidLooks := .later }
def MatchRepeatsCardSaid : Prop := Claim7.holds Tryz.pinned (.plain (OpenSpec.ofChange matchRepeatsSpec)) matchRepeatsCard

/-- THE TIED CARD OF 'corporalaw24.MatchAll'. -/
def matchAllCard : Claim7 := { stood := { row := matchAllRow, standIns := [], harness := (true, "ac3cab6b512acf990440951b9fa28ec15358ddd4958af1852004d83725a7297a"), looks := true }, kinds := [], alts := [], laidByText := true, laidKinds := [.data, .pinned], laidTests := true, laidLooks := .later }
def MatchAllCardSaid : Prop := Claim7.holds Tryz.pinned (.plain (OpenSpec.ofChange matchAllSpec)) matchAllCard

/-- THE TIED CARD OF 'corporalaw24.MatchRuns'. -/
def matchRunsCard : Claim7 := { stood := { row := matchRunsRow, standIns := [], harness := (true, "ac3cab6b512acf990440951b9fa28ec15358ddd4958af1852004d83725a7297a"), looks := true }, kinds := [], alts := [], laidByText := true, laidKinds := [.data, .pinned], laidTests := true, laidLooks := .later }
def MatchRunsCardSaid : Prop := Claim7.holds Tryz.pinned (.plain (OpenSpec.ofChange matchRunsSpec)) matchRunsCard

/-- THE TIED CARD OF 'corporalaw24.MatchRaw'. -/
def matchRawCard : Claim7 := { stood := { row := matchRawRow, standIns := [], harness := (true, "ac3cab6b512acf990440951b9fa28ec15358ddd4958af1852004d83725a7297a"), looks := true }, kinds := [], alts := [], laidByText := true, laidKinds := [.data, .pinned], laidTests := true, laidLooks := .later }
def MatchRawCardSaid : Prop := Claim7.holds Tryz.pinned (.plain (OpenSpec.ofChange matchRawSpec)) matchRawCard

/-- THE TIED CARD OF 'corporalaw24.MatchTexts'. -/
def matchTextsCard : Claim7 := { stood := { row := matchTextsRow, standIns := [], harness := (true, "ac3cab6b512acf990440951b9fa28ec15358ddd4958af1852004d83725a7297a"), looks := true }, kinds := [], alts := [], laidByText := true, laidKinds := [.data, .pinned], laidTests := true, laidLooks := .later }
def MatchTextsCardSaid : Prop := Claim7.holds Tryz.pinned (.plain (OpenSpec.ofChange matchTextsSpec)) matchTextsCard

/-- THE TIED CARD OF 'corporalaw24.MatchSequences'. -/
def matchSequencesCard : Claim7 := { stood := { row := matchSequencesRow, standIns := [], harness := (true, "ac3cab6b512acf990440951b9fa28ec15358ddd4958af1852004d83725a7297a"), looks := true }, kinds := [], alts := [], laidByText := true, laidKinds := [.data, .pinned], laidTests := true, laidLooks := .later }
def MatchSequencesCardSaid : Prop := Claim7.holds Tryz.pinned (.plain (OpenSpec.ofChange matchSequencesSpec)) matchSequencesCard

/-- THE SECOND FORM's CARD OF 'corporalaw24.MatchFinds'. -/
def matchFindsUptoCard : Claim7 := { stood := { row := matchFindsUptoRow, standIns := [], harness := (true, "ac3cab6b512acf990440951b9fa28ec15358ddd4958af1852004d83725a7297a"), looks := true }, kinds := [], alts := [], laidByText := true, laidKinds := [.data, .pinned], laidTests := true, laidLooks := .later }
def MatchFindsUptoCardSaid : Prop := Claim7.holds Tryz.pinned (.plain (OpenSpec.upto matchFindsSpec)) matchFindsUptoCard

/-- THE SECOND FORM's CARD OF 'corporalaw24.MatchOrder'. -/
def matchOrderUptoCard : Claim7 := { stood := { row := matchOrderUptoRow, standIns := [], harness := (true, "ac3cab6b512acf990440951b9fa28ec15358ddd4958af1852004d83725a7297a"), looks := true }, kinds := [], alts := [], laidByText := true, laidKinds := [.data, .pinned], laidTests := true, laidLooks := .later }
def MatchOrderUptoCardSaid : Prop := Claim7.holds Tryz.pinned (.plain (OpenSpec.upto matchOrderSpec)) matchOrderUptoCard

/-- THE SECOND FORM's CARD OF 'corporalaw24.MatchUnions'. -/
def matchUnionsUptoCard : Claim7 := { stood := { row := matchUnionsUptoRow, standIns := [], harness := (true, "ac3cab6b512acf990440951b9fa28ec15358ddd4958af1852004d83725a7297a"), looks := true }, kinds := [], alts := [], laidByText := true, laidKinds := [.data, .pinned], laidTests := true, laidLooks := .later }
def MatchUnionsUptoCardSaid : Prop := Claim7.holds Tryz.pinned (.plain (OpenSpec.upto matchUnionsSpec)) matchUnionsUptoCard

/-- THE SECOND FORM's CARD OF 'corporalaw24.MatchRepeats'. -/
def matchRepeatsUptoCard : Claim7 := { stood := { row := matchRepeatsUptoRow, standIns := [], harness := (true, "ac3cab6b512acf990440951b9fa28ec15358ddd4958af1852004d83725a7297a"), looks := true }, kinds := [], alts := [], laidByText := true, laidKinds := [.data, .pinned], laidTests := true, laidLooks := .later }
def MatchRepeatsUptoCardSaid : Prop := Claim7.holds Tryz.pinned (.plain (OpenSpec.upto matchRepeatsSpec)) matchRepeatsUptoCard

/-- THE SECOND FORM's CARD OF 'corporalaw24.MatchAll'. -/
def matchAllUptoCard : Claim7 := { stood := { row := matchAllUptoRow, standIns := [], harness := (true, "ac3cab6b512acf990440951b9fa28ec15358ddd4958af1852004d83725a7297a"), looks := true }, kinds := [], alts := [], laidByText := true, laidKinds := [.data, .pinned], laidTests := true, laidLooks := .later }
def MatchAllUptoCardSaid : Prop := Claim7.holds Tryz.pinned (.plain (OpenSpec.upto matchAllSpec)) matchAllUptoCard

/-- THE SECOND FORM's CARD OF 'corporalaw24.MatchRuns'. -/
def matchRunsUptoCard : Claim7 := { stood := { row := matchRunsUptoRow, standIns := [], harness := (true, "ac3cab6b512acf990440951b9fa28ec15358ddd4958af1852004d83725a7297a"), looks := true }, kinds := [], alts := [], laidByText := true, laidKinds := [.data, .pinned], laidTests := true, laidLooks := .later }
def MatchRunsUptoCardSaid : Prop := Claim7.holds Tryz.pinned (.plain (OpenSpec.upto matchRunsSpec)) matchRunsUptoCard

/-- THE SECOND FORM's CARD OF 'corporalaw24.MatchRaw'. -/
def matchRawUptoCard : Claim7 := { stood := { row := matchRawUptoRow, standIns := [], harness := (true, "ac3cab6b512acf990440951b9fa28ec15358ddd4958af1852004d83725a7297a"), looks := true }, kinds := [], alts := [], laidByText := true, laidKinds := [.data, .pinned], laidTests := true, laidLooks := .later }
def MatchRawUptoCardSaid : Prop := Claim7.holds Tryz.pinned (.plain (OpenSpec.upto matchRawSpec)) matchRawUptoCard

/-- THE SECOND FORM's CARD OF 'corporalaw24.MatchTexts'. -/
def matchTextsUptoCard : Claim7 := { stood := { row := matchTextsUptoRow, standIns := [], harness := (true, "ac3cab6b512acf990440951b9fa28ec15358ddd4958af1852004d83725a7297a"), looks := true }, kinds := [], alts := [], laidByText := true, laidKinds := [.data, .pinned], laidTests := true, laidLooks := .later }
def MatchTextsUptoCardSaid : Prop := Claim7.holds Tryz.pinned (.plain (OpenSpec.upto matchTextsSpec)) matchTextsUptoCard

/-- THE SECOND FORM's CARD OF 'corporalaw24.MatchSequences'. -/
def matchSequencesUptoCard : Claim7 := { stood := { row := matchSequencesUptoRow, standIns := [], harness := (true, "ac3cab6b512acf990440951b9fa28ec15358ddd4958af1852004d83725a7297a"), looks := true }, kinds := [], alts := [], laidByText := true, laidKinds := [.data, .pinned], laidTests := true, laidLooks := .later }
def MatchSequencesUptoCardSaid : Prop := Claim7.holds Tryz.pinned (.plain (OpenSpec.upto matchSequencesSpec)) matchSequencesUptoCard
end Rows
end Go.Proofs.YtphdikcommfnhaaGreatDoor
