/-
  NARROWER THAN 'FOR EVERY INPUT', by the rows' own cells (each row's printed sentence says how): MatchFinds: laid · MatchOrder: laid · MatchUnions: laid · MatchRepeats: laid · MatchAll: laid · MatchRuns: laid · MatchRaw: loops, laid · MatchTexts: laid · MatchSequences: laid.
  DERIVED. THE GIVEN ROWS OF THIS SEAT. 9 by the template 'for every input the law returns true; each argument reads behind the call as it read before'; 0 by the template 'total and deterministic' (their statements: YtphdikcommfnhaaGreatDoorTotals.lean).
  GIVEN WITH THE SEED: the statements are not yours to turn. If you find one false, say at which input.
  Laid BY PROGRAM, IN A SANDBOX (cutbox-rows.mjs): the forced cells as the released guide's own fill.sh prints them over the translation 96ab67ca8519fd35… (all of the seat's roots in one cut). By AI agents, Wed Nov 11 2026. No macro, syntax, notation, axiom, sorry.
-/
import Derived.Test.YtphdikcommfnhaaGreatDoorChecked
import GoSem.PinnedTables
import GoSem.Claim
import GoSem.ClaimJoined
import GoSem.ClaimMapViews
import Derived.JoinedTies
import Derived.KernelRfl
namespace Go.Proofs.YtphdikcommfnhaaGreatDoor
/- THE CELL 'sum', in the pinned program and in every row, IS THE sha256 OF THE DUMP (.gsa) THAT YtphdikcommfnhaaGreatDoorProg.lean LOADS. Nothing in Lean hashes anything: it is a label: what it is worth is what the hold of that sum in a sandbox is worth. -/
noncomputable def Tryz.pinned : Pinned := { name := "ytphdikcommfnhaagreatdoor", sum := "96ab67ca8519fd3530c3f48e8b4669bd33f18405fb44a008aebdeddf35c17baa", checked := Tryz.checked }
namespace Rows
def none {H : Type} : Left H := { results := [], args := [] }

/- WHAT THE LISTED PACKAGE-LEVEL VARIABLES READ AS WHEN THE CALL BEGINS. Each datum BY PROGRAM (the guide's laid-datum.mjs) off the statement by which the dump's own 'gosem.cut.vars' lays the variable. In a bare row this is a premise. The card (YtphdikcommfnhaaGreatDoorCards.lean) ties it to the program's text. -/
def laid_unicode_utf8_acceptRanges {H : Type} : DataW H := .agg [.agg [.lit (.int .u8 128), .lit (.int .u8 191)], .agg [.lit (.int .u8 160), .lit (.int .u8 191)], .agg [.lit (.int .u8 128), .lit (.int .u8 159)], .agg [.lit (.int .u8 144), .lit (.int .u8 191)], .agg [.lit (.int .u8 128), .lit (.int .u8 143)], .agg [.lit (.int .u8 0), .lit (.int .u8 0)], .agg [.lit (.int .u8 0), .lit (.int .u8 0)], .agg [.lit (.int .u8 0), .lit (.int .u8 0)], .agg [.lit (.int .u8 0), .lit (.int .u8 0)], .agg [.lit (.int .u8 0), .lit (.int .u8 0)], .agg [.lit (.int .u8 0), .lit (.int .u8 0)], .agg [.lit (.int .u8 0), .lit (.int .u8 0)], .agg [.lit (.int .u8 0), .lit (.int .u8 0)], .agg [.lit (.int .u8 0), .lit (.int .u8 0)], .agg [.lit (.int .u8 0), .lit (.int .u8 0)], .agg [.lit (.int .u8 0), .lit (.int .u8 0)]]
/-- One of Go's own tables, pinned by name: the form's constant. -/
def laid_unicode_utf8_first : DataW Unit := Go.Pinned.utf8First

/-- 'corporalaw24.MatchFinds': WHATEVER THE INPUT: true; the input reads as it did. -/
def matchFindsSpec : ChangeSpec := { name := "matchFinds", fn := fun _ => fun
  | [d1, d2] => { results := [.lit (.bool true)], args := [d1, d2] }
  | _ => none }
def matchFindsRow : OpenClaim := { program := "ytphdikcommfnhaagreatdoor", sum := "96ab67ca8519fd3530c3f48e8b4669bd33f18405fb44a008aebdeddf35c17baa", func := "corpora/corporalaw24.MatchFinds", spec := "matchFinds", inPlace := ["internal/bytealg.IndexByteString", "internal/bytealg.IndexString", "maps.clone"], unfollowed := true, recurses := true, named := ["unicode/utf8.first", "unicode/utf8.acceptRanges", "internal/bytealg.MaxLen"], plainKeys := false, apart := false, laid := [("unicode/utf8.acceptRanges", laid_unicode_utf8_acceptRanges), ("unicode/utf8.first", laid_unicode_utf8_first)] }
def MatchFindsSaid : Prop := matchFindsRow.holds Tryz.pinned (OpenSpec.ofChange matchFindsSpec)

/-- ITS FALSE NEIGHBOUR: 'it returns false'. Refute it at one input. -/
def matchFindsWrong : ChangeSpec := { name := "matchFinds", fn := fun _ => fun
  | [d1, d2] => { results := [.lit (.bool false)], args := [d1, d2] }
  | _ => none }
def MatchFindsWrongFalsely : Prop := matchFindsRow.holds Tryz.pinned (OpenSpec.ofChange matchFindsWrong)

/-- 'corporalaw24.MatchOrder': WHATEVER THE INPUT: true; the input reads as it did. -/
def matchOrderSpec : ChangeSpec := { name := "matchOrder", fn := fun _ => fun
  | [d1, d2] => { results := [.lit (.bool true)], args := [d1, d2] }
  | _ => none }
def matchOrderRow : OpenClaim := { program := "ytphdikcommfnhaagreatdoor", sum := "96ab67ca8519fd3530c3f48e8b4669bd33f18405fb44a008aebdeddf35c17baa", func := "corpora/corporalaw24.MatchOrder", spec := "matchOrder", inPlace := ["internal/bytealg.IndexByteString", "internal/bytealg.IndexString", "maps.clone"], unfollowed := true, recurses := true, named := ["unicode/utf8.first", "unicode/utf8.acceptRanges", "internal/bytealg.MaxLen"], plainKeys := false, apart := false, laid := [("unicode/utf8.acceptRanges", laid_unicode_utf8_acceptRanges), ("unicode/utf8.first", laid_unicode_utf8_first)] }
def MatchOrderSaid : Prop := matchOrderRow.holds Tryz.pinned (OpenSpec.ofChange matchOrderSpec)

/-- ITS FALSE NEIGHBOUR: 'it returns false'. Refute it at one input. -/
def matchOrderWrong : ChangeSpec := { name := "matchOrder", fn := fun _ => fun
  | [d1, d2] => { results := [.lit (.bool false)], args := [d1, d2] }
  | _ => none }
def MatchOrderWrongFalsely : Prop := matchOrderRow.holds Tryz.pinned (OpenSpec.ofChange matchOrderWrong)

/-- 'corporalaw24.MatchUnions': WHATEVER THE INPUT: true; the input reads as it did. -/
def matchUnionsSpec : ChangeSpec := { name := "matchUnions", fn := fun _ => fun
  | [d1, d2] => { results := [.lit (.bool true)], args := [d1, d2] }
  | _ => none }
def matchUnionsRow : OpenClaim := { program := "ytphdikcommfnhaagreatdoor", sum := "96ab67ca8519fd3530c3f48e8b4669bd33f18405fb44a008aebdeddf35c17baa", func := "corpora/corporalaw24.MatchUnions", spec := "matchUnions", inPlace := ["internal/bytealg.IndexByteString", "internal/bytealg.IndexString", "maps.clone"], unfollowed := true, recurses := true, named := ["unicode/utf8.first", "unicode/utf8.acceptRanges", "internal/bytealg.MaxLen"], plainKeys := false, apart := false, laid := [("unicode/utf8.acceptRanges", laid_unicode_utf8_acceptRanges), ("unicode/utf8.first", laid_unicode_utf8_first)] }
def MatchUnionsSaid : Prop := matchUnionsRow.holds Tryz.pinned (OpenSpec.ofChange matchUnionsSpec)

/-- ITS FALSE NEIGHBOUR: 'it returns false'. Refute it at one input. -/
def matchUnionsWrong : ChangeSpec := { name := "matchUnions", fn := fun _ => fun
  | [d1, d2] => { results := [.lit (.bool false)], args := [d1, d2] }
  | _ => none }
def MatchUnionsWrongFalsely : Prop := matchUnionsRow.holds Tryz.pinned (OpenSpec.ofChange matchUnionsWrong)

/-- 'corporalaw24.MatchRepeats': WHATEVER THE INPUT: true; the input reads as it did. -/
def matchRepeatsSpec : ChangeSpec := { name := "matchRepeats", fn := fun _ => fun
  | [d1, d2] => { results := [.lit (.bool true)], args := [d1, d2] }
  | _ => none }
def matchRepeatsRow : OpenClaim := { program := "ytphdikcommfnhaagreatdoor", sum := "96ab67ca8519fd3530c3f48e8b4669bd33f18405fb44a008aebdeddf35c17baa", func := "corpora/corporalaw24.MatchRepeats", spec := "matchRepeats", inPlace := ["internal/bytealg.IndexByteString", "internal/bytealg.IndexString", "maps.clone"], unfollowed := true, recurses := true, named := ["unicode/utf8.first", "unicode/utf8.acceptRanges", "internal/bytealg.MaxLen"], plainKeys := false, apart := false, laid := [("unicode/utf8.acceptRanges", laid_unicode_utf8_acceptRanges), ("unicode/utf8.first", laid_unicode_utf8_first)] }
def MatchRepeatsSaid : Prop := matchRepeatsRow.holds Tryz.pinned (OpenSpec.ofChange matchRepeatsSpec)

/-- ITS FALSE NEIGHBOUR: 'it returns false'. Refute it at one input. -/
def matchRepeatsWrong : ChangeSpec := { name := "matchRepeats", fn := fun _ => fun
  | [d1, d2] => { results := [.lit (.bool false)], args := [d1, d2] }
  | _ => none }
def MatchRepeatsWrongFalsely : Prop := matchRepeatsRow.holds Tryz.pinned (OpenSpec.ofChange matchRepeatsWrong)

/-- 'corporalaw24.MatchAll': WHATEVER THE INPUT: true; the input reads as it did. -/
def matchAllSpec : ChangeSpec := { name := "matchAll", fn := fun _ => fun
  | [d1, d2] => { results := [.lit (.bool true)], args := [d1, d2] }
  | _ => none }
def matchAllRow : OpenClaim := { program := "ytphdikcommfnhaagreatdoor", sum := "96ab67ca8519fd3530c3f48e8b4669bd33f18405fb44a008aebdeddf35c17baa", func := "corpora/corporalaw24.MatchAll", spec := "matchAll", inPlace := ["internal/bytealg.IndexByteString", "internal/bytealg.IndexString", "maps.clone"], unfollowed := true, recurses := true, named := ["unicode/utf8.first", "unicode/utf8.acceptRanges", "internal/bytealg.MaxLen"], plainKeys := false, apart := false, laid := [("unicode/utf8.acceptRanges", laid_unicode_utf8_acceptRanges), ("unicode/utf8.first", laid_unicode_utf8_first)] }
def MatchAllSaid : Prop := matchAllRow.holds Tryz.pinned (OpenSpec.ofChange matchAllSpec)

/-- ITS FALSE NEIGHBOUR: 'it returns false'. Refute it at one input. -/
def matchAllWrong : ChangeSpec := { name := "matchAll", fn := fun _ => fun
  | [d1, d2] => { results := [.lit (.bool false)], args := [d1, d2] }
  | _ => none }
def MatchAllWrongFalsely : Prop := matchAllRow.holds Tryz.pinned (OpenSpec.ofChange matchAllWrong)

/-- 'corporalaw24.MatchRuns': WHATEVER THE INPUT: true; the input reads as it did. -/
def matchRunsSpec : ChangeSpec := { name := "matchRuns", fn := fun _ => fun
  | [d1, d2, d3] => { results := [.lit (.bool true)], args := [d1, d2, d3] }
  | _ => none }
def matchRunsRow : OpenClaim := { program := "ytphdikcommfnhaagreatdoor", sum := "96ab67ca8519fd3530c3f48e8b4669bd33f18405fb44a008aebdeddf35c17baa", func := "corpora/corporalaw24.MatchRuns", spec := "matchRuns", inPlace := ["internal/bytealg.IndexByteString", "internal/bytealg.IndexString", "maps.clone"], unfollowed := true, recurses := true, named := ["unicode/utf8.first", "unicode/utf8.acceptRanges", "internal/bytealg.MaxLen"], plainKeys := false, apart := false, laid := [("unicode/utf8.acceptRanges", laid_unicode_utf8_acceptRanges), ("unicode/utf8.first", laid_unicode_utf8_first)] }
def MatchRunsSaid : Prop := matchRunsRow.holds Tryz.pinned (OpenSpec.ofChange matchRunsSpec)

/-- ITS FALSE NEIGHBOUR: 'it returns false'. Refute it at one input. -/
def matchRunsWrong : ChangeSpec := { name := "matchRuns", fn := fun _ => fun
  | [d1, d2, d3] => { results := [.lit (.bool false)], args := [d1, d2, d3] }
  | _ => none }
def MatchRunsWrongFalsely : Prop := matchRunsRow.holds Tryz.pinned (OpenSpec.ofChange matchRunsWrong)

/-- 'corporalaw24.MatchRaw': WHATEVER THE INPUT: true; the input reads as it did. -/
def matchRawSpec : ChangeSpec := { name := "matchRaw", fn := fun _ => fun
  | [d1, d2, d3] => { results := [.lit (.bool true)], args := [d1, d2, d3] }
  | _ => none }
def matchRawRow : OpenClaim := { program := "ytphdikcommfnhaagreatdoor", sum := "96ab67ca8519fd3530c3f48e8b4669bd33f18405fb44a008aebdeddf35c17baa", func := "corpora/corporalaw24.MatchRaw", spec := "matchRaw", inPlace := ["internal/bytealg.IndexByteString", "internal/bytealg.IndexString", "maps.clone"], unfollowed := true, recurses := true, named := ["unicode/utf8.first", "unicode/utf8.acceptRanges", "internal/bytealg.MaxLen"], loops := true, plainKeys := false, apart := false, laid := [("unicode/utf8.acceptRanges", laid_unicode_utf8_acceptRanges), ("unicode/utf8.first", laid_unicode_utf8_first)] }
def MatchRawSaid : Prop := matchRawRow.holds Tryz.pinned (OpenSpec.ofChange matchRawSpec)

/-- ITS FALSE NEIGHBOUR: 'it returns false'. Refute it at one input. -/
def matchRawWrong : ChangeSpec := { name := "matchRaw", fn := fun _ => fun
  | [d1, d2, d3] => { results := [.lit (.bool false)], args := [d1, d2, d3] }
  | _ => none }
def MatchRawWrongFalsely : Prop := matchRawRow.holds Tryz.pinned (OpenSpec.ofChange matchRawWrong)

/-- 'corporalaw24.MatchTexts': WHATEVER THE INPUT: true; the input reads as it did. -/
def matchTextsSpec : ChangeSpec := { name := "matchTexts", fn := fun _ => fun
  | [d1, d2] => { results := [.lit (.bool true)], args := [d1, d2] }
  | _ => none }
def matchTextsRow : OpenClaim := { program := "ytphdikcommfnhaagreatdoor", sum := "96ab67ca8519fd3530c3f48e8b4669bd33f18405fb44a008aebdeddf35c17baa", func := "corpora/corporalaw24.MatchTexts", spec := "matchTexts", inPlace := ["internal/bytealg.IndexByteString", "internal/bytealg.IndexString", "maps.clone"], unfollowed := true, recurses := true, named := ["unicode/utf8.first", "unicode/utf8.acceptRanges", "internal/bytealg.MaxLen"], plainKeys := false, apart := false, laid := [("unicode/utf8.acceptRanges", laid_unicode_utf8_acceptRanges), ("unicode/utf8.first", laid_unicode_utf8_first)] }
def MatchTextsSaid : Prop := matchTextsRow.holds Tryz.pinned (OpenSpec.ofChange matchTextsSpec)

/-- ITS FALSE NEIGHBOUR: 'it returns false'. Refute it at one input. -/
def matchTextsWrong : ChangeSpec := { name := "matchTexts", fn := fun _ => fun
  | [d1, d2] => { results := [.lit (.bool false)], args := [d1, d2] }
  | _ => none }
def MatchTextsWrongFalsely : Prop := matchTextsRow.holds Tryz.pinned (OpenSpec.ofChange matchTextsWrong)

/-- 'corporalaw24.MatchSequences': WHATEVER THE INPUT: true; the input reads as it did. -/
def matchSequencesSpec : ChangeSpec := { name := "matchSequences", fn := fun _ => fun
  | [d1, d2] => { results := [.lit (.bool true)], args := [d1, d2] }
  | _ => none }
def matchSequencesRow : OpenClaim := { program := "ytphdikcommfnhaagreatdoor", sum := "96ab67ca8519fd3530c3f48e8b4669bd33f18405fb44a008aebdeddf35c17baa", func := "corpora/corporalaw24.MatchSequences", spec := "matchSequences", inPlace := ["internal/bytealg.IndexByteString", "internal/bytealg.IndexString", "maps.clone"], unfollowed := true, recurses := true, named := ["unicode/utf8.first", "unicode/utf8.acceptRanges", "internal/bytealg.MaxLen"], plainKeys := false, apart := false, laid := [("unicode/utf8.acceptRanges", laid_unicode_utf8_acceptRanges), ("unicode/utf8.first", laid_unicode_utf8_first)] }
def MatchSequencesSaid : Prop := matchSequencesRow.holds Tryz.pinned (OpenSpec.ofChange matchSequencesSpec)

/-- ITS FALSE NEIGHBOUR: 'it returns false'. Refute it at one input. -/
def matchSequencesWrong : ChangeSpec := { name := "matchSequences", fn := fun _ => fun
  | [d1, d2] => { results := [.lit (.bool false)], args := [d1, d2] }
  | _ => none }
def MatchSequencesWrongFalsely : Prop := matchSequencesRow.holds Tryz.pinned (OpenSpec.ofChange matchSequencesWrong)

/- THE SECOND FORM. 'bulk': how many values and letters a reading holds, each counted each time it is reached (what is shared counts as often as it is met; a slice's spare places count too). A statement '..UptoSaid' is the law's where the arguments, and the package variables that the reading takes, are together of bulk at most 1048576: NARROWER than '..Said'. Prove '..Said' where nothing that the law and all that it calls make is longer than what came in: it says more and counts as full. Else prove '..UptoSaid'. A law counts once. -/
mutual
def uptoBulk {H : Type} : DataW H → Nat
  | .lit (.string bytes) => bytes.length + 1
  | .lit _ => 1
  | .nil => 1
  | .ptr d => uptoBulk d + 1
  | .slice elems spare => uptoBulkAll elems + uptoBulkAll spare + 1
  | .agg parts => uptoBulkAll parts + 1
  | .iface _ d => uptoBulk d + 1
  | .map entries => uptoBulkEntries entries + 1
  | .held _ => 1
def uptoBulkAll {H : Type} : List (DataW H) → Nat
  | [] => 0
  | d :: r => uptoBulk d + uptoBulkAll r
def uptoBulkEntries {H : Type} : List (Lit × DataW H) → Nat
  | [] => 0
  | x :: r => uptoBulkEntry x + uptoBulkEntries r
def uptoBulkEntry {H : Type} : Lit × DataW H → Nat
  | (.string bytes, d) => bytes.length + uptoBulk d + 1
  | (_, d) => uptoBulk d + 1
 end
def uptoSmall : (H : Type) → List (DataW H) → Bool := fun _ ds => decide (uptoBulkAll ds ≤ 1048576)
def OpenSpec.upto (s : _root_.Go.ChangeSpec) : _root_.Go.OpenSpec := { _root_.Go.OpenSpec.ofChange s with cond := some uptoSmall }

/-- 'corporalaw24.MatchFinds', WHERE WHAT IT READS IS OF BULK AT MOST 1048576: true; the input reads as it did. -/
def matchFindsUptoRow : OpenClaim := { program := "ytphdikcommfnhaagreatdoor", sum := "96ab67ca8519fd3530c3f48e8b4669bd33f18405fb44a008aebdeddf35c17baa", func := "corpora/corporalaw24.MatchFinds", spec := "matchFinds", inPlace := ["internal/bytealg.IndexByteString", "internal/bytealg.IndexString", "maps.clone"], unfollowed := true, recurses := true, named := ["unicode/utf8.first", "unicode/utf8.acceptRanges", "internal/bytealg.MaxLen"], plainKeys := false, apart := false, laid := [("unicode/utf8.acceptRanges", laid_unicode_utf8_acceptRanges), ("unicode/utf8.first", laid_unicode_utf8_first)], narrowed := true }
def MatchFindsUptoSaid : Prop := matchFindsUptoRow.holds Tryz.pinned (OpenSpec.upto matchFindsSpec)

/-- 'corporalaw24.MatchOrder', WHERE WHAT IT READS IS OF BULK AT MOST 1048576: true; the input reads as it did. -/
def matchOrderUptoRow : OpenClaim := { program := "ytphdikcommfnhaagreatdoor", sum := "96ab67ca8519fd3530c3f48e8b4669bd33f18405fb44a008aebdeddf35c17baa", func := "corpora/corporalaw24.MatchOrder", spec := "matchOrder", inPlace := ["internal/bytealg.IndexByteString", "internal/bytealg.IndexString", "maps.clone"], unfollowed := true, recurses := true, named := ["unicode/utf8.first", "unicode/utf8.acceptRanges", "internal/bytealg.MaxLen"], plainKeys := false, apart := false, laid := [("unicode/utf8.acceptRanges", laid_unicode_utf8_acceptRanges), ("unicode/utf8.first", laid_unicode_utf8_first)], narrowed := true }
def MatchOrderUptoSaid : Prop := matchOrderUptoRow.holds Tryz.pinned (OpenSpec.upto matchOrderSpec)

/-- 'corporalaw24.MatchUnions', WHERE WHAT IT READS IS OF BULK AT MOST 1048576: true; the input reads as it did. -/
def matchUnionsUptoRow : OpenClaim := { program := "ytphdikcommfnhaagreatdoor", sum := "96ab67ca8519fd3530c3f48e8b4669bd33f18405fb44a008aebdeddf35c17baa", func := "corpora/corporalaw24.MatchUnions", spec := "matchUnions", inPlace := ["internal/bytealg.IndexByteString", "internal/bytealg.IndexString", "maps.clone"], unfollowed := true, recurses := true, named := ["unicode/utf8.first", "unicode/utf8.acceptRanges", "internal/bytealg.MaxLen"], plainKeys := false, apart := false, laid := [("unicode/utf8.acceptRanges", laid_unicode_utf8_acceptRanges), ("unicode/utf8.first", laid_unicode_utf8_first)], narrowed := true }
def MatchUnionsUptoSaid : Prop := matchUnionsUptoRow.holds Tryz.pinned (OpenSpec.upto matchUnionsSpec)

/-- 'corporalaw24.MatchRepeats', WHERE WHAT IT READS IS OF BULK AT MOST 1048576: true; the input reads as it did. -/
def matchRepeatsUptoRow : OpenClaim := { program := "ytphdikcommfnhaagreatdoor", sum := "96ab67ca8519fd3530c3f48e8b4669bd33f18405fb44a008aebdeddf35c17baa", func := "corpora/corporalaw24.MatchRepeats", spec := "matchRepeats", inPlace := ["internal/bytealg.IndexByteString", "internal/bytealg.IndexString", "maps.clone"], unfollowed := true, recurses := true, named := ["unicode/utf8.first", "unicode/utf8.acceptRanges", "internal/bytealg.MaxLen"], plainKeys := false, apart := false, laid := [("unicode/utf8.acceptRanges", laid_unicode_utf8_acceptRanges), ("unicode/utf8.first", laid_unicode_utf8_first)], narrowed := true }
def MatchRepeatsUptoSaid : Prop := matchRepeatsUptoRow.holds Tryz.pinned (OpenSpec.upto matchRepeatsSpec)

/-- 'corporalaw24.MatchAll', WHERE WHAT IT READS IS OF BULK AT MOST 1048576: true; the input reads as it did. -/
def matchAllUptoRow : OpenClaim := { program := "ytphdikcommfnhaagreatdoor", sum := "96ab67ca8519fd3530c3f48e8b4669bd33f18405fb44a008aebdeddf35c17baa", func := "corpora/corporalaw24.MatchAll", spec := "matchAll", inPlace := ["internal/bytealg.IndexByteString", "internal/bytealg.IndexString", "maps.clone"], unfollowed := true, recurses := true, named := ["unicode/utf8.first", "unicode/utf8.acceptRanges", "internal/bytealg.MaxLen"], plainKeys := false, apart := false, laid := [("unicode/utf8.acceptRanges", laid_unicode_utf8_acceptRanges), ("unicode/utf8.first", laid_unicode_utf8_first)], narrowed := true }
def MatchAllUptoSaid : Prop := matchAllUptoRow.holds Tryz.pinned (OpenSpec.upto matchAllSpec)

/-- 'corporalaw24.MatchRuns', WHERE WHAT IT READS IS OF BULK AT MOST 1048576: true; the input reads as it did. -/
def matchRunsUptoRow : OpenClaim := { program := "ytphdikcommfnhaagreatdoor", sum := "96ab67ca8519fd3530c3f48e8b4669bd33f18405fb44a008aebdeddf35c17baa", func := "corpora/corporalaw24.MatchRuns", spec := "matchRuns", inPlace := ["internal/bytealg.IndexByteString", "internal/bytealg.IndexString", "maps.clone"], unfollowed := true, recurses := true, named := ["unicode/utf8.first", "unicode/utf8.acceptRanges", "internal/bytealg.MaxLen"], plainKeys := false, apart := false, laid := [("unicode/utf8.acceptRanges", laid_unicode_utf8_acceptRanges), ("unicode/utf8.first", laid_unicode_utf8_first)], narrowed := true }
def MatchRunsUptoSaid : Prop := matchRunsUptoRow.holds Tryz.pinned (OpenSpec.upto matchRunsSpec)

/-- 'corporalaw24.MatchRaw', WHERE WHAT IT READS IS OF BULK AT MOST 1048576: true; the input reads as it did. -/
def matchRawUptoRow : OpenClaim := { program := "ytphdikcommfnhaagreatdoor", sum := "96ab67ca8519fd3530c3f48e8b4669bd33f18405fb44a008aebdeddf35c17baa", func := "corpora/corporalaw24.MatchRaw", spec := "matchRaw", inPlace := ["internal/bytealg.IndexByteString", "internal/bytealg.IndexString", "maps.clone"], unfollowed := true, recurses := true, named := ["unicode/utf8.first", "unicode/utf8.acceptRanges", "internal/bytealg.MaxLen"], loops := true, plainKeys := false, apart := false, laid := [("unicode/utf8.acceptRanges", laid_unicode_utf8_acceptRanges), ("unicode/utf8.first", laid_unicode_utf8_first)], narrowed := true }
def MatchRawUptoSaid : Prop := matchRawUptoRow.holds Tryz.pinned (OpenSpec.upto matchRawSpec)

/-- 'corporalaw24.MatchTexts', WHERE WHAT IT READS IS OF BULK AT MOST 1048576: true; the input reads as it did. -/
def matchTextsUptoRow : OpenClaim := { program := "ytphdikcommfnhaagreatdoor", sum := "96ab67ca8519fd3530c3f48e8b4669bd33f18405fb44a008aebdeddf35c17baa", func := "corpora/corporalaw24.MatchTexts", spec := "matchTexts", inPlace := ["internal/bytealg.IndexByteString", "internal/bytealg.IndexString", "maps.clone"], unfollowed := true, recurses := true, named := ["unicode/utf8.first", "unicode/utf8.acceptRanges", "internal/bytealg.MaxLen"], plainKeys := false, apart := false, laid := [("unicode/utf8.acceptRanges", laid_unicode_utf8_acceptRanges), ("unicode/utf8.first", laid_unicode_utf8_first)], narrowed := true }
def MatchTextsUptoSaid : Prop := matchTextsUptoRow.holds Tryz.pinned (OpenSpec.upto matchTextsSpec)

/-- 'corporalaw24.MatchSequences', WHERE WHAT IT READS IS OF BULK AT MOST 1048576: true; the input reads as it did. -/
def matchSequencesUptoRow : OpenClaim := { program := "ytphdikcommfnhaagreatdoor", sum := "96ab67ca8519fd3530c3f48e8b4669bd33f18405fb44a008aebdeddf35c17baa", func := "corpora/corporalaw24.MatchSequences", spec := "matchSequences", inPlace := ["internal/bytealg.IndexByteString", "internal/bytealg.IndexString", "maps.clone"], unfollowed := true, recurses := true, named := ["unicode/utf8.first", "unicode/utf8.acceptRanges", "internal/bytealg.MaxLen"], plainKeys := false, apart := false, laid := [("unicode/utf8.acceptRanges", laid_unicode_utf8_acceptRanges), ("unicode/utf8.first", laid_unicode_utf8_first)], narrowed := true }
def MatchSequencesUptoSaid : Prop := matchSequencesUptoRow.holds Tryz.pinned (OpenSpec.upto matchSequencesSpec)

end Rows
end Go.Proofs.YtphdikcommfnhaaGreatDoor
