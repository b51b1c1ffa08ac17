/-
  No cell of these rows narrows 'for every input' (looked for: loops, veiled, ifaces, maps, wideKeys, modest, calm, conditions, laid).
  DERIVED. THE GIVEN ROWS OF THIS SEAT. 4 by the template 'for every input the law returns true; each argument reads behind the call as it read before'; 0 by the template 'total and deterministic' (their statements: YtblcfloekekefaaGreatTotals.lean).
  GIVEN WITH THE SEED: the statements are not yours to turn. If you find one false, say at which input.
  Laid BY PROGRAM, IN A SANDBOX (cutbox-rows.mjs): the forced cells as the released guide's own fill.sh prints them over the translation 4975ab9d0b2ecbbd… (all of the seat's roots in one cut). By AI agents, Wed Nov 11 2026. No macro, syntax, notation, axiom, sorry.
-/
import Derived.Test.YtblcfloekekefaaGreatChecked
import GoSem.Claim
import GoSem.ClaimJoined
import GoSem.ClaimMapViews
import Derived.JoinedTies
import Derived.KernelRfl
namespace Go.Proofs.YtblcfloekekefaaGreat
/- THE CELL 'sum', in the pinned program and in every row, IS THE sha256 OF THE DUMP (.gsa) THAT YtblcfloekekefaaGreatProg.lean LOADS. Nothing in Lean hashes anything: it is a label: what it is worth is what the hold of that sum in a sandbox is worth. -/
noncomputable def Tryz.pinned : Pinned := { name := "ytblcfloekekefaagreat", sum := "4975ab9d0b2ecbbd8c21e49083365b147c0ec5932c6a647ffe142c561c06d478", checked := Tryz.checked }
namespace Rows
def none {H : Type} : Left H := { results := [], args := [] }

/-- 'corporalaw30.SubcorpusSets': WHATEVER THE INPUT: true; the input reads as it did. -/
def subcorpusSetsSpec : ChangeSpec := { name := "subcorpusSets", fn := fun _ => fun
  | [d1, d2] => { results := [.lit (.bool true)], args := [d1, d2] }
  | _ => none }
def subcorpusSetsRow : OpenClaim := { program := "ytblcfloekekefaagreat", sum := "4975ab9d0b2ecbbd8c21e49083365b147c0ec5932c6a647ffe142c561c06d478", func := "corpora/corporalaw30.SubcorpusSets", spec := "subcorpusSets", unfollowed := true, recurses := true, apart := false }
def SubcorpusSetsSaid : Prop := subcorpusSetsRow.holds Tryz.pinned (OpenSpec.ofChange subcorpusSetsSpec)

/-- ITS FALSE NEIGHBOUR: 'it returns false'. Refute it at one input. -/
def subcorpusSetsWrong : ChangeSpec := { name := "subcorpusSets", fn := fun _ => fun
  | [d1, d2] => { results := [.lit (.bool false)], args := [d1, d2] }
  | _ => none }
def SubcorpusSetsWrongFalsely : Prop := subcorpusSetsRow.holds Tryz.pinned (OpenSpec.ofChange subcorpusSetsWrong)

/-- 'corporalaw31.EstimateFixed': WHATEVER THE INPUT: true; the input reads as it did. -/
def estimateFixedSpec : ChangeSpec := { name := "estimateFixed", fn := fun _ => fun
  | [d] => { results := [.lit (.bool true)], args := [d] }
  | _ => none }
def estimateFixedRow : OpenClaim := { program := "ytblcfloekekefaagreat", sum := "4975ab9d0b2ecbbd8c21e49083365b147c0ec5932c6a647ffe142c561c06d478", func := "corpora/corporalaw31.EstimateFixed", spec := "estimateFixed", unfollowed := true, recurses := true, apart := false }
def EstimateFixedSaid : Prop := estimateFixedRow.holds Tryz.pinned (OpenSpec.ofChange estimateFixedSpec)

/-- ITS FALSE NEIGHBOUR: 'it returns false'. Refute it at one input. -/
def estimateFixedWrong : ChangeSpec := { name := "estimateFixed", fn := fun _ => fun
  | [d] => { results := [.lit (.bool false)], args := [d] }
  | _ => none }
def EstimateFixedWrongFalsely : Prop := estimateFixedRow.holds Tryz.pinned (OpenSpec.ofChange estimateFixedWrong)

/-- 'corporalaw31.EstimateSequences': WHATEVER THE INPUT: true; the input reads as it did. -/
def estimateSequencesSpec : ChangeSpec := { name := "estimateSequences", fn := fun _ => fun
  | [d1, d2] => { results := [.lit (.bool true)], args := [d1, d2] }
  | _ => none }
def estimateSequencesRow : OpenClaim := { program := "ytblcfloekekefaagreat", sum := "4975ab9d0b2ecbbd8c21e49083365b147c0ec5932c6a647ffe142c561c06d478", func := "corpora/corporalaw31.EstimateSequences", spec := "estimateSequences", unfollowed := true, recurses := true, apart := false }
def EstimateSequencesSaid : Prop := estimateSequencesRow.holds Tryz.pinned (OpenSpec.ofChange estimateSequencesSpec)

/-- ITS FALSE NEIGHBOUR: 'it returns false'. Refute it at one input. -/
def estimateSequencesWrong : ChangeSpec := { name := "estimateSequences", fn := fun _ => fun
  | [d1, d2] => { results := [.lit (.bool false)], args := [d1, d2] }
  | _ => none }
def EstimateSequencesWrongFalsely : Prop := estimateSequencesRow.holds Tryz.pinned (OpenSpec.ofChange estimateSequencesWrong)

/-- 'corporalaw31.EstimateShifts': WHATEVER THE INPUT: true; the input reads as it did. -/
def estimateShiftsSpec : ChangeSpec := { name := "estimateShifts", fn := fun _ => fun
  | [d] => { results := [.lit (.bool true)], args := [d] }
  | _ => none }
def estimateShiftsRow : OpenClaim := { program := "ytblcfloekekefaagreat", sum := "4975ab9d0b2ecbbd8c21e49083365b147c0ec5932c6a647ffe142c561c06d478", func := "corpora/corporalaw31.EstimateShifts", spec := "estimateShifts", unfollowed := true, recurses := true, apart := false }
def EstimateShiftsSaid : Prop := estimateShiftsRow.holds Tryz.pinned (OpenSpec.ofChange estimateShiftsSpec)

/-- ITS FALSE NEIGHBOUR: 'it returns false'. Refute it at one input. -/
def estimateShiftsWrong : ChangeSpec := { name := "estimateShifts", fn := fun _ => fun
  | [d] => { results := [.lit (.bool false)], args := [d] }
  | _ => none }
def EstimateShiftsWrongFalsely : Prop := estimateShiftsRow.holds Tryz.pinned (OpenSpec.ofChange estimateShiftsWrong)

/- THE SECOND FORM. 'bulk': how many values and letters a reading holds, each counted each time it is reached (what is shared counts as often as it is met; a slice's spare places count too). A statement '..UptoSaid' is the law's where the arguments, and the package variables that the reading takes, are together of bulk at most 1048576: NARROWER than '..Said'. Prove '..Said' where nothing that the law and all that it calls make is longer than what came in: it says more and counts as full. Else prove '..UptoSaid'. A law counts once. -/
mutual
def uptoBulk {H : Type} : DataW H → Nat
  | .lit (.string bytes) => bytes.length + 1
  | .lit _ => 1
  | .nil => 1
  | .ptr d => uptoBulk d + 1
  | .slice elems spare => uptoBulkAll elems + uptoBulkAll spare + 1
  | .agg parts => uptoBulkAll parts + 1
  | .iface _ d => uptoBulk d + 1
  | .map entries => uptoBulkEntries entries + 1
  | .held _ => 1
def uptoBulkAll {H : Type} : List (DataW H) → Nat
  | [] => 0
  | d :: r => uptoBulk d + uptoBulkAll r
def uptoBulkEntries {H : Type} : List (Lit × DataW H) → Nat
  | [] => 0
  | x :: r => uptoBulkEntry x + uptoBulkEntries r
def uptoBulkEntry {H : Type} : Lit × DataW H → Nat
  | (.string bytes, d) => bytes.length + uptoBulk d + 1
  | (_, d) => uptoBulk d + 1
 end
def uptoSmall : (H : Type) → List (DataW H) → Bool := fun _ ds => decide (uptoBulkAll ds ≤ 1048576)
def OpenSpec.upto (s : _root_.Go.ChangeSpec) : _root_.Go.OpenSpec := { _root_.Go.OpenSpec.ofChange s with cond := some uptoSmall }

/-- 'corporalaw30.SubcorpusSets', WHERE WHAT IT READS IS OF BULK AT MOST 1048576: true; the input reads as it did. -/
def subcorpusSetsUptoRow : OpenClaim := { program := "ytblcfloekekefaagreat", sum := "4975ab9d0b2ecbbd8c21e49083365b147c0ec5932c6a647ffe142c561c06d478", func := "corpora/corporalaw30.SubcorpusSets", spec := "subcorpusSets", unfollowed := true, recurses := true, apart := false, narrowed := true }
def SubcorpusSetsUptoSaid : Prop := subcorpusSetsUptoRow.holds Tryz.pinned (OpenSpec.upto subcorpusSetsSpec)

/-- 'corporalaw31.EstimateFixed', WHERE WHAT IT READS IS OF BULK AT MOST 1048576: true; the input reads as it did. -/
def estimateFixedUptoRow : OpenClaim := { program := "ytblcfloekekefaagreat", sum := "4975ab9d0b2ecbbd8c21e49083365b147c0ec5932c6a647ffe142c561c06d478", func := "corpora/corporalaw31.EstimateFixed", spec := "estimateFixed", unfollowed := true, recurses := true, apart := false, narrowed := true }
def EstimateFixedUptoSaid : Prop := estimateFixedUptoRow.holds Tryz.pinned (OpenSpec.upto estimateFixedSpec)

/-- 'corporalaw31.EstimateSequences', WHERE WHAT IT READS IS OF BULK AT MOST 1048576: true; the input reads as it did. -/
def estimateSequencesUptoRow : OpenClaim := { program := "ytblcfloekekefaagreat", sum := "4975ab9d0b2ecbbd8c21e49083365b147c0ec5932c6a647ffe142c561c06d478", func := "corpora/corporalaw31.EstimateSequences", spec := "estimateSequences", unfollowed := true, recurses := true, apart := false, narrowed := true }
def EstimateSequencesUptoSaid : Prop := estimateSequencesUptoRow.holds Tryz.pinned (OpenSpec.upto estimateSequencesSpec)

/-- 'corporalaw31.EstimateShifts', WHERE WHAT IT READS IS OF BULK AT MOST 1048576: true; the input reads as it did. -/
def estimateShiftsUptoRow : OpenClaim := { program := "ytblcfloekekefaagreat", sum := "4975ab9d0b2ecbbd8c21e49083365b147c0ec5932c6a647ffe142c561c06d478", func := "corpora/corporalaw31.EstimateShifts", spec := "estimateShifts", unfollowed := true, recurses := true, apart := false, narrowed := true }
def EstimateShiftsUptoSaid : Prop := estimateShiftsUptoRow.holds Tryz.pinned (OpenSpec.upto estimateShiftsSpec)

end Rows
end Go.Proofs.YtblcfloekekefaaGreat
