/-
  DERIVED. GIVEN WITH THE SEED: THE CARDS: each row of YticbieanhfdnoaaGreatDoorRows.lean that lists a variable, with what it lists TIED to the program's text (the seventh form; the later family's looks); each row that meets fmt, with fmt's text TOLD by the authors' own Lean function (tested against real Go, not proved from fmt's source: count such statements apart). THE CARD IS WHAT COUNTS. Prove the row's statement (the work); the ties are given (YticbieanhfdnoaaGreatDoorTie.lean); close each card by the builder's one call (the guide's Derived/Test/ToyasCard.lean, 'card_holds'). Laid BY PROGRAM, IN A SANDBOX (cutbox-door.mjs). By AI agents, Wed Nov 11 2026. No macro, syntax, notation, axiom, sorry.
-/
import Derived.Test.YticbieanhfdnoaaGreatDoorRows
import GoSem.ClaimSeven
namespace Go.Proofs.YticbieanhfdnoaaGreatDoor
namespace Rows

/-- THE TIED CARD OF 'corporalaw22.ConditionSpoilt'. -/
def conditionSpoiltCard : Claim7 := { stood := { row := conditionSpoiltRow, standIns := [], harness := (true, "96aad5d6ec788910c62eb442e9514b868f8a2bf3206a7b35444e21c18eeaba3f"), looks := false }, kinds := [], alts := [], laidByText := true, laidKinds := [.data, .pinned], laidTests := true, laidLooks := .later }
def ConditionSpoiltCardSaid : Prop := Claim7.holds Tryz.pinned (.plain (OpenSpec.ofChange conditionSpoiltSpec)) conditionSpoiltCard

/-- THE TIED CARD OF 'corporalaw22.ConditionHolds'. -/
def conditionHoldsCard : Claim7 := { stood := { row := conditionHoldsRow, standIns := [], harness := (true, "96aad5d6ec788910c62eb442e9514b868f8a2bf3206a7b35444e21c18eeaba3f"), looks := false }, kinds := [], alts := [], laidByText := true, laidKinds := [.data, .pinned], laidTests := true, laidLooks := .later }
def ConditionHoldsCardSaid : Prop := Claim7.holds Tryz.pinned (.plain (OpenSpec.ofChange conditionHoldsSpec)) conditionHoldsCard

/-- THE TIED CARD OF 'corporalaw22.ConditionBoolean'. -/
def conditionBooleanCard : Claim7 := { stood := { row := conditionBooleanRow, standIns := [], harness := (true, "96aad5d6ec788910c62eb442e9514b868f8a2bf3206a7b35444e21c18eeaba3f"), looks := false }, kinds := [], alts := [], laidByText := true, laidKinds := [.data, .pinned], laidTests := true, laidLooks := .later }
def ConditionBooleanCardSaid : Prop := Claim7.holds Tryz.pinned (.plain (OpenSpec.ofChange conditionBooleanSpec)) conditionBooleanCard

/-- THE TIED CARD OF 'corporalaw22.ConditionUnbound'. -/
def conditionUnboundCard : Claim7 := { stood := { row := conditionUnboundRow, standIns := [], harness := (true, "96aad5d6ec788910c62eb442e9514b868f8a2bf3206a7b35444e21c18eeaba3f"), looks := false }, kinds := [], alts := [], laidByText := true, laidKinds := [.data, .pinned], laidTests := true, laidLooks := .later }
def ConditionUnboundCardSaid : Prop := Claim7.holds Tryz.pinned (.plain (OpenSpec.ofChange conditionUnboundSpec)) conditionUnboundCard

/-- THE TIED CARD OF 'corporalaw22.ConditionValues'. -/
def conditionValuesCard : Claim7 := { stood := { row := conditionValuesRow, standIns := [], harness := (true, "96aad5d6ec788910c62eb442e9514b868f8a2bf3206a7b35444e21c18eeaba3f"), looks := false }, kinds := [], alts := [], laidByText := true, laidKinds := [.data, .pinned], laidTests := true, laidLooks := .later }
def ConditionValuesCardSaid : Prop := Claim7.holds Tryz.pinned (.plain (OpenSpec.ofChange conditionValuesSpec)) conditionValuesCard

/-- THE TIED CARD OF 'corporalaw22.ConditionSelects'. -/
def conditionSelectsCard : Claim7 := { stood := { row := conditionSelectsRow, standIns := [], harness := (true, "96aad5d6ec788910c62eb442e9514b868f8a2bf3206a7b35444e21c18eeaba3f"), looks := false }, kinds := [], alts := [], laidByText := true, laidKinds := [.data, .pinned], laidTests := true, laidLooks := .later }
def ConditionSelectsCardSaid : Prop := Claim7.holds Tryz.pinned (.plain (OpenSpec.ofChange conditionSelectsSpec)) conditionSelectsCard

/-- THE TIED CARD OF 'corporalaw22.ConditionLoose'. -/
def conditionLooseCard : Claim7 := { stood := { row := conditionLooseRow, standIns := [], harness := (true, "96aad5d6ec788910c62eb442e9514b868f8a2bf3206a7b35444e21c18eeaba3f"), looks := false }, kinds := [], alts := [], laidByText := true, laidKinds := [.data, .pinned], laidTests := true, laidLooks := .later }
def ConditionLooseCardSaid : Prop := Claim7.holds Tryz.pinned (.plain (OpenSpec.ofChange conditionLooseSpec)) conditionLooseCard

/-- THE SECOND FORM's CARD OF 'corporalaw22.ConditionSpoilt'. -/
def conditionSpoiltUptoCard : Claim7 := { stood := { row := conditionSpoiltUptoRow, standIns := [], harness := (true, "96aad5d6ec788910c62eb442e9514b868f8a2bf3206a7b35444e21c18eeaba3f"), looks := false }, kinds := [], alts := [], laidByText := true, laidKinds := [.data, .pinned], laidTests := true, laidLooks := .later }
def ConditionSpoiltUptoCardSaid : Prop := Claim7.holds Tryz.pinned (.plain (OpenSpec.upto conditionSpoiltSpec)) conditionSpoiltUptoCard

/-- THE SECOND FORM's CARD OF 'corporalaw22.ConditionHolds'. -/
def conditionHoldsUptoCard : Claim7 := { stood := { row := conditionHoldsUptoRow, standIns := [], harness := (true, "96aad5d6ec788910c62eb442e9514b868f8a2bf3206a7b35444e21c18eeaba3f"), looks := false }, kinds := [], alts := [], laidByText := true, laidKinds := [.data, .pinned], laidTests := true, laidLooks := .later }
def ConditionHoldsUptoCardSaid : Prop := Claim7.holds Tryz.pinned (.plain (OpenSpec.upto conditionHoldsSpec)) conditionHoldsUptoCard

/-- THE SECOND FORM's CARD OF 'corporalaw22.ConditionBoolean'. -/
def conditionBooleanUptoCard : Claim7 := { stood := { row := conditionBooleanUptoRow, standIns := [], harness := (true, "96aad5d6ec788910c62eb442e9514b868f8a2bf3206a7b35444e21c18eeaba3f"), looks := false }, kinds := [], alts := [], laidByText := true, laidKinds := [.data, .pinned], laidTests := true, laidLooks := .later }
def ConditionBooleanUptoCardSaid : Prop := Claim7.holds Tryz.pinned (.plain (OpenSpec.upto conditionBooleanSpec)) conditionBooleanUptoCard

/-- THE SECOND FORM's CARD OF 'corporalaw22.ConditionUnbound'. -/
def conditionUnboundUptoCard : Claim7 := { stood := { row := conditionUnboundUptoRow, standIns := [], harness := (true, "96aad5d6ec788910c62eb442e9514b868f8a2bf3206a7b35444e21c18eeaba3f"), looks := false }, kinds := [], alts := [], laidByText := true, laidKinds := [.data, .pinned], laidTests := true, laidLooks := .later }
def ConditionUnboundUptoCardSaid : Prop := Claim7.holds Tryz.pinned (.plain (OpenSpec.upto conditionUnboundSpec)) conditionUnboundUptoCard

/-- THE SECOND FORM's CARD OF 'corporalaw22.ConditionValues'. -/
def conditionValuesUptoCard : Claim7 := { stood := { row := conditionValuesUptoRow, standIns := [], harness := (true, "96aad5d6ec788910c62eb442e9514b868f8a2bf3206a7b35444e21c18eeaba3f"), looks := false }, kinds := [], alts := [], laidByText := true, laidKinds := [.data, .pinned], laidTests := true, laidLooks := .later }
def ConditionValuesUptoCardSaid : Prop := Claim7.holds Tryz.pinned (.plain (OpenSpec.upto conditionValuesSpec)) conditionValuesUptoCard

/-- THE SECOND FORM's CARD OF 'corporalaw22.ConditionSelects'. -/
def conditionSelectsUptoCard : Claim7 := { stood := { row := conditionSelectsUptoRow, standIns := [], harness := (true, "96aad5d6ec788910c62eb442e9514b868f8a2bf3206a7b35444e21c18eeaba3f"), looks := false }, kinds := [], alts := [], laidByText := true, laidKinds := [.data, .pinned], laidTests := true, laidLooks := .later }
def ConditionSelectsUptoCardSaid : Prop := Claim7.holds Tryz.pinned (.plain (OpenSpec.upto conditionSelectsSpec)) conditionSelectsUptoCard

/-- THE SECOND FORM's CARD OF 'corporalaw22.ConditionLoose'. -/
def conditionLooseUptoCard : Claim7 := { stood := { row := conditionLooseUptoRow, standIns := [], harness := (true, "96aad5d6ec788910c62eb442e9514b868f8a2bf3206a7b35444e21c18eeaba3f"), looks := false }, kinds := [], alts := [], laidByText := true, laidKinds := [.data, .pinned], laidTests := true, laidLooks := .later }
def ConditionLooseUptoCardSaid : Prop := Claim7.holds Tryz.pinned (.plain (OpenSpec.upto conditionLooseSpec)) conditionLooseUptoCard
end Rows
end Go.Proofs.YticbieanhfdnoaaGreatDoor
