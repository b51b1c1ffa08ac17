/-
  NARROWER THAN 'FOR EVERY INPUT', by the rows' own cells (each row's printed sentence says how): ConditionSpoilt: laid · ConditionHolds: laid · ConditionBoolean: laid · ConditionUnbound: laid · ConditionValues: laid · ConditionSelects: laid · ConditionLoose: laid.
  DERIVED. THE GIVEN ROWS OF THIS SEAT. 7 by the template 'for every input the law returns true; each argument reads behind the call as it read before'; 0 by the template 'total and deterministic' (their statements: YticbieanhfdnoaaGreatDoorTotals.lean).
  GIVEN WITH THE SEED: the statements are not yours to turn. If you find one false, say at which input.
  Laid BY PROGRAM, IN A SANDBOX (cutbox-rows.mjs): the forced cells as the released guide's own fill.sh prints them over the translation 2c0e753616ba3dc2… (all of the seat's roots in one cut). By AI agents, Wed Nov 11 2026. No macro, syntax, notation, axiom, sorry.
-/
import Derived.Test.YticbieanhfdnoaaGreatDoorChecked
import GoSem.PinnedTables
import GoSem.Claim
import GoSem.ClaimJoined
import GoSem.ClaimMapViews
import Derived.JoinedTies
import Derived.KernelRfl
namespace Go.Proofs.YticbieanhfdnoaaGreatDoor
/- THE CELL 'sum', in the pinned program and in every row, IS THE sha256 OF THE DUMP (.gsa) THAT YticbieanhfdnoaaGreatDoorProg.lean LOADS. Nothing in Lean hashes anything: it is a label: what it is worth is what the hold of that sum in a sandbox is worth. -/
noncomputable def Tryz.pinned : Pinned := { name := "yticbieanhfdnoaagreatdoor", sum := "2c0e753616ba3dc2487bf4448f3054f929d3b52b30987ee259b5ee279244e5b0", checked := Tryz.checked }
namespace Rows
def none {H : Type} : Left H := { results := [], args := [] }

/- WHAT THE LISTED PACKAGE-LEVEL VARIABLES READ AS WHEN THE CALL BEGINS. Each datum BY PROGRAM (the guide's laid-datum.mjs) off the statement by which the dump's own 'gosem.cut.vars' lays the variable. In a bare row this is a premise. The card (YticbieanhfdnoaaGreatDoorCards.lean) ties it to the program's text. -/
def laid_unicode_utf8_acceptRanges {H : Type} : DataW H := .agg [.agg [.lit (.int .u8 128), .lit (.int .u8 191)], .agg [.lit (.int .u8 160), .lit (.int .u8 191)], .agg [.lit (.int .u8 128), .lit (.int .u8 159)], .agg [.lit (.int .u8 144), .lit (.int .u8 191)], .agg [.lit (.int .u8 128), .lit (.int .u8 143)], .agg [.lit (.int .u8 0), .lit (.int .u8 0)], .agg [.lit (.int .u8 0), .lit (.int .u8 0)], .agg [.lit (.int .u8 0), .lit (.int .u8 0)], .agg [.lit (.int .u8 0), .lit (.int .u8 0)], .agg [.lit (.int .u8 0), .lit (.int .u8 0)], .agg [.lit (.int .u8 0), .lit (.int .u8 0)], .agg [.lit (.int .u8 0), .lit (.int .u8 0)], .agg [.lit (.int .u8 0), .lit (.int .u8 0)], .agg [.lit (.int .u8 0), .lit (.int .u8 0)], .agg [.lit (.int .u8 0), .lit (.int .u8 0)], .agg [.lit (.int .u8 0), .lit (.int .u8 0)]]
/-- One of Go's own tables, pinned by name: the form's constant. -/
def laid_unicode_utf8_first : DataW Unit := Go.Pinned.utf8First

/-- 'corporalaw22.ConditionSpoilt': WHATEVER THE INPUT: true; the input reads as it did. -/
def conditionSpoiltSpec : ChangeSpec := { name := "conditionSpoilt", fn := fun _ => fun
  | [d1, d2, d3] => { results := [.lit (.bool true)], args := [d1, d2, d3] }
  | _ => none }
def conditionSpoiltRow : OpenClaim := { program := "yticbieanhfdnoaagreatdoor", sum := "2c0e753616ba3dc2487bf4448f3054f929d3b52b30987ee259b5ee279244e5b0", func := "corpora/corporalaw22.ConditionSpoilt", spec := "conditionSpoilt", inPlace := ["internal/bytealg.IndexByteString", "internal/bytealg.IndexString"], unfollowed := true, recurses := true, named := ["unicode/utf8.first", "unicode/utf8.acceptRanges", "internal/bytealg.MaxLen"], apart := false, laid := [("unicode/utf8.acceptRanges", laid_unicode_utf8_acceptRanges), ("unicode/utf8.first", laid_unicode_utf8_first)] }
def ConditionSpoiltSaid : Prop := conditionSpoiltRow.holds Tryz.pinned (OpenSpec.ofChange conditionSpoiltSpec)

/-- ITS FALSE NEIGHBOUR: 'it returns false'. Refute it at one input. -/
def conditionSpoiltWrong : ChangeSpec := { name := "conditionSpoilt", fn := fun _ => fun
  | [d1, d2, d3] => { results := [.lit (.bool false)], args := [d1, d2, d3] }
  | _ => none }
def ConditionSpoiltWrongFalsely : Prop := conditionSpoiltRow.holds Tryz.pinned (OpenSpec.ofChange conditionSpoiltWrong)

/-- 'corporalaw22.ConditionHolds': WHATEVER THE INPUT: true; the input reads as it did. -/
def conditionHoldsSpec : ChangeSpec := { name := "conditionHolds", fn := fun _ => fun
  | [d1, d2] => { results := [.lit (.bool true)], args := [d1, d2] }
  | _ => none }
def conditionHoldsRow : OpenClaim := { program := "yticbieanhfdnoaagreatdoor", sum := "2c0e753616ba3dc2487bf4448f3054f929d3b52b30987ee259b5ee279244e5b0", func := "corpora/corporalaw22.ConditionHolds", spec := "conditionHolds", inPlace := ["internal/bytealg.IndexByteString", "internal/bytealg.IndexString"], unfollowed := true, recurses := true, named := ["unicode/utf8.first", "unicode/utf8.acceptRanges", "internal/bytealg.MaxLen"], apart := false, laid := [("unicode/utf8.acceptRanges", laid_unicode_utf8_acceptRanges), ("unicode/utf8.first", laid_unicode_utf8_first)] }
def ConditionHoldsSaid : Prop := conditionHoldsRow.holds Tryz.pinned (OpenSpec.ofChange conditionHoldsSpec)

/-- ITS FALSE NEIGHBOUR: 'it returns false'. Refute it at one input. -/
def conditionHoldsWrong : ChangeSpec := { name := "conditionHolds", fn := fun _ => fun
  | [d1, d2] => { results := [.lit (.bool false)], args := [d1, d2] }
  | _ => none }
def ConditionHoldsWrongFalsely : Prop := conditionHoldsRow.holds Tryz.pinned (OpenSpec.ofChange conditionHoldsWrong)

/-- 'corporalaw22.ConditionBoolean': WHATEVER THE INPUT: true; the input reads as it did. -/
def conditionBooleanSpec : ChangeSpec := { name := "conditionBoolean", fn := fun _ => fun
  | [d1, d2] => { results := [.lit (.bool true)], args := [d1, d2] }
  | _ => none }
def conditionBooleanRow : OpenClaim := { program := "yticbieanhfdnoaagreatdoor", sum := "2c0e753616ba3dc2487bf4448f3054f929d3b52b30987ee259b5ee279244e5b0", func := "corpora/corporalaw22.ConditionBoolean", spec := "conditionBoolean", inPlace := ["internal/bytealg.IndexByteString", "internal/bytealg.IndexString"], unfollowed := true, recurses := true, named := ["unicode/utf8.first", "unicode/utf8.acceptRanges", "internal/bytealg.MaxLen"], apart := false, laid := [("unicode/utf8.acceptRanges", laid_unicode_utf8_acceptRanges), ("unicode/utf8.first", laid_unicode_utf8_first)] }
def ConditionBooleanSaid : Prop := conditionBooleanRow.holds Tryz.pinned (OpenSpec.ofChange conditionBooleanSpec)

/-- ITS FALSE NEIGHBOUR: 'it returns false'. Refute it at one input. -/
def conditionBooleanWrong : ChangeSpec := { name := "conditionBoolean", fn := fun _ => fun
  | [d1, d2] => { results := [.lit (.bool false)], args := [d1, d2] }
  | _ => none }
def ConditionBooleanWrongFalsely : Prop := conditionBooleanRow.holds Tryz.pinned (OpenSpec.ofChange conditionBooleanWrong)

/-- 'corporalaw22.ConditionUnbound': WHATEVER THE INPUT: true; the input reads as it did. -/
def conditionUnboundSpec : ChangeSpec := { name := "conditionUnbound", fn := fun _ => fun
  | [d1, d2] => { results := [.lit (.bool true)], args := [d1, d2] }
  | _ => none }
def conditionUnboundRow : OpenClaim := { program := "yticbieanhfdnoaagreatdoor", sum := "2c0e753616ba3dc2487bf4448f3054f929d3b52b30987ee259b5ee279244e5b0", func := "corpora/corporalaw22.ConditionUnbound", spec := "conditionUnbound", inPlace := ["internal/bytealg.IndexByteString", "internal/bytealg.IndexString"], unfollowed := true, recurses := true, named := ["unicode/utf8.first", "unicode/utf8.acceptRanges", "internal/bytealg.MaxLen"], apart := false, laid := [("unicode/utf8.acceptRanges", laid_unicode_utf8_acceptRanges), ("unicode/utf8.first", laid_unicode_utf8_first)] }
def ConditionUnboundSaid : Prop := conditionUnboundRow.holds Tryz.pinned (OpenSpec.ofChange conditionUnboundSpec)

/-- ITS FALSE NEIGHBOUR: 'it returns false'. Refute it at one input. -/
def conditionUnboundWrong : ChangeSpec := { name := "conditionUnbound", fn := fun _ => fun
  | [d1, d2] => { results := [.lit (.bool false)], args := [d1, d2] }
  | _ => none }
def ConditionUnboundWrongFalsely : Prop := conditionUnboundRow.holds Tryz.pinned (OpenSpec.ofChange conditionUnboundWrong)

/-- 'corporalaw22.ConditionValues': WHATEVER THE INPUT: true; the input reads as it did. -/
def conditionValuesSpec : ChangeSpec := { name := "conditionValues", fn := fun _ => fun
  | [d1, d2, d3] => { results := [.lit (.bool true)], args := [d1, d2, d3] }
  | _ => none }
def conditionValuesRow : OpenClaim := { program := "yticbieanhfdnoaagreatdoor", sum := "2c0e753616ba3dc2487bf4448f3054f929d3b52b30987ee259b5ee279244e5b0", func := "corpora/corporalaw22.ConditionValues", spec := "conditionValues", inPlace := ["internal/bytealg.IndexByteString", "internal/bytealg.IndexString"], unfollowed := true, recurses := true, named := ["unicode/utf8.first", "unicode/utf8.acceptRanges", "internal/bytealg.MaxLen"], apart := false, laid := [("unicode/utf8.acceptRanges", laid_unicode_utf8_acceptRanges), ("unicode/utf8.first", laid_unicode_utf8_first)] }
def ConditionValuesSaid : Prop := conditionValuesRow.holds Tryz.pinned (OpenSpec.ofChange conditionValuesSpec)

/-- ITS FALSE NEIGHBOUR: 'it returns false'. Refute it at one input. -/
def conditionValuesWrong : ChangeSpec := { name := "conditionValues", fn := fun _ => fun
  | [d1, d2, d3] => { results := [.lit (.bool false)], args := [d1, d2, d3] }
  | _ => none }
def ConditionValuesWrongFalsely : Prop := conditionValuesRow.holds Tryz.pinned (OpenSpec.ofChange conditionValuesWrong)

/-- 'corporalaw22.ConditionSelects': WHATEVER THE INPUT: true; the input reads as it did. -/
def conditionSelectsSpec : ChangeSpec := { name := "conditionSelects", fn := fun _ => fun
  | [d1, d2] => { results := [.lit (.bool true)], args := [d1, d2] }
  | _ => none }
def conditionSelectsRow : OpenClaim := { program := "yticbieanhfdnoaagreatdoor", sum := "2c0e753616ba3dc2487bf4448f3054f929d3b52b30987ee259b5ee279244e5b0", func := "corpora/corporalaw22.ConditionSelects", spec := "conditionSelects", inPlace := ["internal/bytealg.IndexByteString", "internal/bytealg.IndexString"], unfollowed := true, recurses := true, named := ["unicode/utf8.first", "unicode/utf8.acceptRanges", "internal/bytealg.MaxLen"], apart := false, laid := [("unicode/utf8.acceptRanges", laid_unicode_utf8_acceptRanges), ("unicode/utf8.first", laid_unicode_utf8_first)] }
def ConditionSelectsSaid : Prop := conditionSelectsRow.holds Tryz.pinned (OpenSpec.ofChange conditionSelectsSpec)

/-- ITS FALSE NEIGHBOUR: 'it returns false'. Refute it at one input. -/
def conditionSelectsWrong : ChangeSpec := { name := "conditionSelects", fn := fun _ => fun
  | [d1, d2] => { results := [.lit (.bool false)], args := [d1, d2] }
  | _ => none }
def ConditionSelectsWrongFalsely : Prop := conditionSelectsRow.holds Tryz.pinned (OpenSpec.ofChange conditionSelectsWrong)

/-- 'corporalaw22.ConditionLoose': WHATEVER THE INPUT: true; the input reads as it did. -/
def conditionLooseSpec : ChangeSpec := { name := "conditionLoose", fn := fun _ => fun
  | [d1, d2] => { results := [.lit (.bool true)], args := [d1, d2] }
  | _ => none }
def conditionLooseRow : OpenClaim := { program := "yticbieanhfdnoaagreatdoor", sum := "2c0e753616ba3dc2487bf4448f3054f929d3b52b30987ee259b5ee279244e5b0", func := "corpora/corporalaw22.ConditionLoose", spec := "conditionLoose", inPlace := ["internal/bytealg.IndexByteString", "internal/bytealg.IndexString"], unfollowed := true, recurses := true, named := ["unicode/utf8.first", "unicode/utf8.acceptRanges", "internal/bytealg.MaxLen"], apart := false, laid := [("unicode/utf8.acceptRanges", laid_unicode_utf8_acceptRanges), ("unicode/utf8.first", laid_unicode_utf8_first)] }
def ConditionLooseSaid : Prop := conditionLooseRow.holds Tryz.pinned (OpenSpec.ofChange conditionLooseSpec)

/-- ITS FALSE NEIGHBOUR: 'it returns false'. Refute it at one input. -/
def conditionLooseWrong : ChangeSpec := { name := "conditionLoose", fn := fun _ => fun
  | [d1, d2] => { results := [.lit (.bool false)], args := [d1, d2] }
  | _ => none }
def ConditionLooseWrongFalsely : Prop := conditionLooseRow.holds Tryz.pinned (OpenSpec.ofChange conditionLooseWrong)

/- THE SECOND FORM. 'bulk': how many values and letters a reading holds, each counted each time it is reached (what is shared counts as often as it is met; a slice's spare places count too). A statement '..UptoSaid' is the law's where the arguments, and the package variables that the reading takes, are together of bulk at most 1048576: NARROWER than '..Said'. Prove '..Said' where nothing that the law and all that it calls make is longer than what came in: it says more and counts as full. Else prove '..UptoSaid'. A law counts once. -/
mutual
def uptoBulk {H : Type} : DataW H → Nat
  | .lit (.string bytes) => bytes.length + 1
  | .lit _ => 1
  | .nil => 1
  | .ptr d => uptoBulk d + 1
  | .slice elems spare => uptoBulkAll elems + uptoBulkAll spare + 1
  | .agg parts => uptoBulkAll parts + 1
  | .iface _ d => uptoBulk d + 1
  | .map entries => uptoBulkEntries entries + 1
  | .held _ => 1
def uptoBulkAll {H : Type} : List (DataW H) → Nat
  | [] => 0
  | d :: r => uptoBulk d + uptoBulkAll r
def uptoBulkEntries {H : Type} : List (Lit × DataW H) → Nat
  | [] => 0
  | x :: r => uptoBulkEntry x + uptoBulkEntries r
def uptoBulkEntry {H : Type} : Lit × DataW H → Nat
  | (.string bytes, d) => bytes.length + uptoBulk d + 1
  | (_, d) => uptoBulk d + 1
 end
def uptoSmall : (H : Type) → List (DataW H) → Bool := fun _ ds => decide (uptoBulkAll ds ≤ 1048576)
def OpenSpec.upto (s : _root_.Go.ChangeSpec) : _root_.Go.OpenSpec := { _root_.Go.OpenSpec.ofChange s with cond := some uptoSmall }

/-- 'corporalaw22.ConditionSpoilt', WHERE WHAT IT READS IS OF BULK AT MOST 1048576: true; the input reads as it did. -/
def conditionSpoiltUptoRow : OpenClaim := { program := "yticbieanhfdnoaagreatdoor", sum := "2c0e753616ba3dc2487bf4448f3054f929d3b52b30987ee259b5ee279244e5b0", func := "corpora/corporalaw22.ConditionSpoilt", spec := "conditionSpoilt", inPlace := ["internal/bytealg.IndexByteString", "internal/bytealg.IndexString"], unfollowed := true, recurses := true, named := ["unicode/utf8.first", "unicode/utf8.acceptRanges", "internal/bytealg.MaxLen"], apart := false, laid := [("unicode/utf8.acceptRanges", laid_unicode_utf8_acceptRanges), ("unicode/utf8.first", laid_unicode_utf8_first)], narrowed := true }
def ConditionSpoiltUptoSaid : Prop := conditionSpoiltUptoRow.holds Tryz.pinned (OpenSpec.upto conditionSpoiltSpec)

/-- 'corporalaw22.ConditionHolds', WHERE WHAT IT READS IS OF BULK AT MOST 1048576: true; the input reads as it did. -/
def conditionHoldsUptoRow : OpenClaim := { program := "yticbieanhfdnoaagreatdoor", sum := "2c0e753616ba3dc2487bf4448f3054f929d3b52b30987ee259b5ee279244e5b0", func := "corpora/corporalaw22.ConditionHolds", spec := "conditionHolds", inPlace := ["internal/bytealg.IndexByteString", "internal/bytealg.IndexString"], unfollowed := true, recurses := true, named := ["unicode/utf8.first", "unicode/utf8.acceptRanges", "internal/bytealg.MaxLen"], apart := false, laid := [("unicode/utf8.acceptRanges", laid_unicode_utf8_acceptRanges), ("unicode/utf8.first", laid_unicode_utf8_first)], narrowed := true }
def ConditionHoldsUptoSaid : Prop := conditionHoldsUptoRow.holds Tryz.pinned (OpenSpec.upto conditionHoldsSpec)

/-- 'corporalaw22.ConditionBoolean', WHERE WHAT IT READS IS OF BULK AT MOST 1048576: true; the input reads as it did. -/
def conditionBooleanUptoRow : OpenClaim := { program := "yticbieanhfdnoaagreatdoor", sum := "2c0e753616ba3dc2487bf4448f3054f929d3b52b30987ee259b5ee279244e5b0", func := "corpora/corporalaw22.ConditionBoolean", spec := "conditionBoolean", inPlace := ["internal/bytealg.IndexByteString", "internal/bytealg.IndexString"], unfollowed := true, recurses := true, named := ["unicode/utf8.first", "unicode/utf8.acceptRanges", "internal/bytealg.MaxLen"], apart := false, laid := [("unicode/utf8.acceptRanges", laid_unicode_utf8_acceptRanges), ("unicode/utf8.first", laid_unicode_utf8_first)], narrowed := true }
def ConditionBooleanUptoSaid : Prop := conditionBooleanUptoRow.holds Tryz.pinned (OpenSpec.upto conditionBooleanSpec)

/-- 'corporalaw22.ConditionUnbound', WHERE WHAT IT READS IS OF BULK AT MOST 1048576: true; the input reads as it did. -/
def conditionUnboundUptoRow : OpenClaim := { program := "yticbieanhfdnoaagreatdoor", sum := "2c0e753616ba3dc2487bf4448f3054f929d3b52b30987ee259b5ee279244e5b0", func := "corpora/corporalaw22.ConditionUnbound", spec := "conditionUnbound", inPlace := ["internal/bytealg.IndexByteString", "internal/bytealg.IndexString"], unfollowed := true, recurses := true, named := ["unicode/utf8.first", "unicode/utf8.acceptRanges", "internal/bytealg.MaxLen"], apart := false, laid := [("unicode/utf8.acceptRanges", laid_unicode_utf8_acceptRanges), ("unicode/utf8.first", laid_unicode_utf8_first)], narrowed := true }
def ConditionUnboundUptoSaid : Prop := conditionUnboundUptoRow.holds Tryz.pinned (OpenSpec.upto conditionUnboundSpec)

/-- 'corporalaw22.ConditionValues', WHERE WHAT IT READS IS OF BULK AT MOST 1048576: true; the input reads as it did. -/
def conditionValuesUptoRow : OpenClaim := { program := "yticbieanhfdnoaagreatdoor", sum := "2c0e753616ba3dc2487bf4448f3054f929d3b52b30987ee259b5ee279244e5b0", func := "corpora/corporalaw22.ConditionValues", spec := "conditionValues", inPlace := ["internal/bytealg.IndexByteString", "internal/bytealg.IndexString"], unfollowed := true, recurses := true, named := ["unicode/utf8.first", "unicode/utf8.acceptRanges", "internal/bytealg.MaxLen"], apart := false, laid := [("unicode/utf8.acceptRanges", laid_unicode_utf8_acceptRanges), ("unicode/utf8.first", laid_unicode_utf8_first)], narrowed := true }
def ConditionValuesUptoSaid : Prop := conditionValuesUptoRow.holds Tryz.pinned (OpenSpec.upto conditionValuesSpec)

/-- 'corporalaw22.ConditionSelects', WHERE WHAT IT READS IS OF BULK AT MOST 1048576: true; the input reads as it did. -/
def conditionSelectsUptoRow : OpenClaim := { program := "yticbieanhfdnoaagreatdoor", sum := "2c0e753616ba3dc2487bf4448f3054f929d3b52b30987ee259b5ee279244e5b0", func := "corpora/corporalaw22.ConditionSelects", spec := "conditionSelects", inPlace := ["internal/bytealg.IndexByteString", "internal/bytealg.IndexString"], unfollowed := true, recurses := true, named := ["unicode/utf8.first", "unicode/utf8.acceptRanges", "internal/bytealg.MaxLen"], apart := false, laid := [("unicode/utf8.acceptRanges", laid_unicode_utf8_acceptRanges), ("unicode/utf8.first", laid_unicode_utf8_first)], narrowed := true }
def ConditionSelectsUptoSaid : Prop := conditionSelectsUptoRow.holds Tryz.pinned (OpenSpec.upto conditionSelectsSpec)

/-- 'corporalaw22.ConditionLoose', WHERE WHAT IT READS IS OF BULK AT MOST 1048576: true; the input reads as it did. -/
def conditionLooseUptoRow : OpenClaim := { program := "yticbieanhfdnoaagreatdoor", sum := "2c0e753616ba3dc2487bf4448f3054f929d3b52b30987ee259b5ee279244e5b0", func := "corpora/corporalaw22.ConditionLoose", spec := "conditionLoose", inPlace := ["internal/bytealg.IndexByteString", "internal/bytealg.IndexString"], unfollowed := true, recurses := true, named := ["unicode/utf8.first", "unicode/utf8.acceptRanges", "internal/bytealg.MaxLen"], apart := false, laid := [("unicode/utf8.acceptRanges", laid_unicode_utf8_acceptRanges), ("unicode/utf8.first", laid_unicode_utf8_first)], narrowed := true }
def ConditionLooseUptoSaid : Prop := conditionLooseUptoRow.holds Tryz.pinned (OpenSpec.upto conditionLooseSpec)

end Rows
end Go.Proofs.YticbieanhfdnoaaGreatDoor
