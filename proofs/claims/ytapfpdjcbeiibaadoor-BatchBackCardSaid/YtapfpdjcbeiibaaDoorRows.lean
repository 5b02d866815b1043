/-
  NARROWER THAN 'FOR EVERY INPUT', by the rows' own cells (each row's printed sentence says how): BatchLimits: laid · BatchTells: laid · BatchRuns: laid · BatchNames: laid · BatchBack: laid · BatchBytes: laid · BatchCut: laid.
  DERIVED. THE GIVEN ROWS OF THIS SEAT. 7 by the template 'for every input the law returns true; each argument reads behind the call as it read before'; 0 by the template 'total and deterministic' (their statements: YtapfpdjcbeiibaaDoorTotals.lean).
  GIVEN WITH THE SEED: the statements are not yours to turn. If you find one false, say at which input.
  Laid BY PROGRAM, IN A SANDBOX (cutbox-rows.mjs): the forced cells as the released guide's own fill.sh prints them over the translation 1773e6d25664d6cf… (all of the seat's roots in one cut). By AI agents, Wed Nov 11 2026. No macro, syntax, notation, axiom, sorry.
-/
import Derived.Test.YtapfpdjcbeiibaaDoorChecked
import GoSem.PinnedTables
import GoSem.Claim
import GoSem.ClaimJoined
import GoSem.ClaimMapViews
import Derived.JoinedTies
import Derived.KernelRfl
namespace Go.Proofs.YtapfpdjcbeiibaaDoor
/- THE CELL 'sum', in the pinned program and in every row, IS THE sha256 OF THE DUMP (.gsa) THAT YtapfpdjcbeiibaaDoorProg.lean LOADS. Nothing in Lean hashes anything: it is a label: what it is worth is what the hold of that sum in a sandbox is worth. -/
noncomputable def Tryd.pinned : Pinned := { name := "ytapfpdjcbeiibaadoor", sum := "1773e6d25664d6cf13e3db422fbeee1cdd20116316e776bb5aa78891a0901c4a", checked := Tryd.checked }
namespace Rows
def none {H : Type} : Left H := { results := [], args := [] }

/- WHAT THE LISTED PACKAGE-LEVEL VARIABLES READ AS WHEN THE CALL BEGINS. Each datum BY PROGRAM (the guide's laid-datum.mjs) off the statement by which the dump's own 'gosem.cut.vars' lays the variable. In a bare row this is a premise. The card (YtapfpdjcbeiibaaDoorCards.lean) ties it to the program's text. -/
def laid_unicode_utf8_acceptRanges {H : Type} : DataW H := .agg [.agg [.lit (.int .u8 128), .lit (.int .u8 191)], .agg [.lit (.int .u8 160), .lit (.int .u8 191)], .agg [.lit (.int .u8 128), .lit (.int .u8 159)], .agg [.lit (.int .u8 144), .lit (.int .u8 191)], .agg [.lit (.int .u8 128), .lit (.int .u8 143)], .agg [.lit (.int .u8 0), .lit (.int .u8 0)], .agg [.lit (.int .u8 0), .lit (.int .u8 0)], .agg [.lit (.int .u8 0), .lit (.int .u8 0)], .agg [.lit (.int .u8 0), .lit (.int .u8 0)], .agg [.lit (.int .u8 0), .lit (.int .u8 0)], .agg [.lit (.int .u8 0), .lit (.int .u8 0)], .agg [.lit (.int .u8 0), .lit (.int .u8 0)], .agg [.lit (.int .u8 0), .lit (.int .u8 0)], .agg [.lit (.int .u8 0), .lit (.int .u8 0)], .agg [.lit (.int .u8 0), .lit (.int .u8 0)], .agg [.lit (.int .u8 0), .lit (.int .u8 0)]]
/-- One of Go's own tables, pinned by name: the form's constant. -/
def laid_unicode_utf8_first : DataW Unit := Go.Pinned.utf8First

/-- 'packhorselaw11.BatchLimits': WHATEVER THE INPUT: true; the input reads as it did. -/
def batchLimitsSpec : ChangeSpec := { name := "batchLimits", fn := fun _ => fun
  | [d1, d2, d3] => { results := [.lit (.bool true)], args := [d1, d2, d3] }
  | _ => none }
def batchLimitsRow : OpenClaim := { program := "ytapfpdjcbeiibaadoor", sum := "1773e6d25664d6cf13e3db422fbeee1cdd20116316e776bb5aa78891a0901c4a", func := "packhorse/packhorselaw11.BatchLimits", spec := "batchLimits", named := ["unicode/utf8.first", "unicode/utf8.acceptRanges"], apart := false, laid := [("unicode/utf8.acceptRanges", laid_unicode_utf8_acceptRanges), ("unicode/utf8.first", laid_unicode_utf8_first)] }
def BatchLimitsSaid : Prop := batchLimitsRow.holds Tryd.pinned (OpenSpec.ofChange batchLimitsSpec)

/-- ITS FALSE NEIGHBOUR: 'it returns false'. Refute it at one input. -/
def batchLimitsWrong : ChangeSpec := { name := "batchLimits", fn := fun _ => fun
  | [d1, d2, d3] => { results := [.lit (.bool false)], args := [d1, d2, d3] }
  | _ => none }
def BatchLimitsWrongFalsely : Prop := batchLimitsRow.holds Tryd.pinned (OpenSpec.ofChange batchLimitsWrong)

/-- 'packhorselaw11.BatchTells': WHATEVER THE INPUT: true; the input reads as it did. -/
def batchTellsSpec : ChangeSpec := { name := "batchTells", fn := fun _ => fun
  | [d1, d2, d3] => { results := [.lit (.bool true)], args := [d1, d2, d3] }
  | _ => none }
def batchTellsRow : OpenClaim := { program := "ytapfpdjcbeiibaadoor", sum := "1773e6d25664d6cf13e3db422fbeee1cdd20116316e776bb5aa78891a0901c4a", func := "packhorse/packhorselaw11.BatchTells", spec := "batchTells", named := ["unicode/utf8.first", "unicode/utf8.acceptRanges"], apart := false, laid := [("unicode/utf8.acceptRanges", laid_unicode_utf8_acceptRanges), ("unicode/utf8.first", laid_unicode_utf8_first)] }
def BatchTellsSaid : Prop := batchTellsRow.holds Tryd.pinned (OpenSpec.ofChange batchTellsSpec)

/-- ITS FALSE NEIGHBOUR: 'it returns false'. Refute it at one input. -/
def batchTellsWrong : ChangeSpec := { name := "batchTells", fn := fun _ => fun
  | [d1, d2, d3] => { results := [.lit (.bool false)], args := [d1, d2, d3] }
  | _ => none }
def BatchTellsWrongFalsely : Prop := batchTellsRow.holds Tryd.pinned (OpenSpec.ofChange batchTellsWrong)

/-- 'packhorselaw11.BatchRuns': WHATEVER THE INPUT: true; the input reads as it did. -/
def batchRunsSpec : ChangeSpec := { name := "batchRuns", fn := fun _ => fun
  | [d1, d2, d3] => { results := [.lit (.bool true)], args := [d1, d2, d3] }
  | _ => none }
def batchRunsRow : OpenClaim := { program := "ytapfpdjcbeiibaadoor", sum := "1773e6d25664d6cf13e3db422fbeee1cdd20116316e776bb5aa78891a0901c4a", func := "packhorse/packhorselaw11.BatchRuns", spec := "batchRuns", named := ["unicode/utf8.first", "unicode/utf8.acceptRanges"], apart := false, laid := [("unicode/utf8.acceptRanges", laid_unicode_utf8_acceptRanges), ("unicode/utf8.first", laid_unicode_utf8_first)] }
def BatchRunsSaid : Prop := batchRunsRow.holds Tryd.pinned (OpenSpec.ofChange batchRunsSpec)

/-- ITS FALSE NEIGHBOUR: 'it returns false'. Refute it at one input. -/
def batchRunsWrong : ChangeSpec := { name := "batchRuns", fn := fun _ => fun
  | [d1, d2, d3] => { results := [.lit (.bool false)], args := [d1, d2, d3] }
  | _ => none }
def BatchRunsWrongFalsely : Prop := batchRunsRow.holds Tryd.pinned (OpenSpec.ofChange batchRunsWrong)

/-- 'packhorselaw11.BatchNames': WHATEVER THE INPUT: true; the input reads as it did. -/
def batchNamesSpec : ChangeSpec := { name := "batchNames", fn := fun _ => fun
  | [] => { results := [.lit (.bool true)], args := [] }
  | _ => none }
def batchNamesRow : OpenClaim := { program := "ytapfpdjcbeiibaadoor", sum := "1773e6d25664d6cf13e3db422fbeee1cdd20116316e776bb5aa78891a0901c4a", func := "packhorse/packhorselaw11.BatchNames", spec := "batchNames", named := ["unicode/utf8.first", "unicode/utf8.acceptRanges"], apart := false, laid := [("unicode/utf8.acceptRanges", laid_unicode_utf8_acceptRanges), ("unicode/utf8.first", laid_unicode_utf8_first)] }
def BatchNamesSaid : Prop := batchNamesRow.holds Tryd.pinned (OpenSpec.ofChange batchNamesSpec)

/-- ITS FALSE NEIGHBOUR: 'it returns false'. Refute it at one input. -/
def batchNamesWrong : ChangeSpec := { name := "batchNames", fn := fun _ => fun
  | [] => { results := [.lit (.bool false)], args := [] }
  | _ => none }
def BatchNamesWrongFalsely : Prop := batchNamesRow.holds Tryd.pinned (OpenSpec.ofChange batchNamesWrong)

/-- 'packhorselaw11.BatchBack': WHATEVER THE INPUT: true; the input reads as it did. -/
def batchBackSpec : ChangeSpec := { name := "batchBack", fn := fun _ => fun
  | [d1, d2, d3] => { results := [.lit (.bool true)], args := [d1, d2, d3] }
  | _ => none }
def batchBackRow : OpenClaim := { program := "ytapfpdjcbeiibaadoor", sum := "1773e6d25664d6cf13e3db422fbeee1cdd20116316e776bb5aa78891a0901c4a", func := "packhorse/packhorselaw11.BatchBack", spec := "batchBack", named := ["unicode/utf8.first", "unicode/utf8.acceptRanges"], apart := false, laid := [("unicode/utf8.acceptRanges", laid_unicode_utf8_acceptRanges), ("unicode/utf8.first", laid_unicode_utf8_first)] }
def BatchBackSaid : Prop := batchBackRow.holds Tryd.pinned (OpenSpec.ofChange batchBackSpec)

/-- ITS FALSE NEIGHBOUR: 'it returns false'. Refute it at one input. -/
def batchBackWrong : ChangeSpec := { name := "batchBack", fn := fun _ => fun
  | [d1, d2, d3] => { results := [.lit (.bool false)], args := [d1, d2, d3] }
  | _ => none }
def BatchBackWrongFalsely : Prop := batchBackRow.holds Tryd.pinned (OpenSpec.ofChange batchBackWrong)

/-- 'packhorselaw11.BatchBytes': WHATEVER THE INPUT: true; the input reads as it did. -/
def batchBytesSpec : ChangeSpec := { name := "batchBytes", fn := fun _ => fun
  | [d1, d2] => { results := [.lit (.bool true)], args := [d1, d2] }
  | _ => none }
def batchBytesRow : OpenClaim := { program := "ytapfpdjcbeiibaadoor", sum := "1773e6d25664d6cf13e3db422fbeee1cdd20116316e776bb5aa78891a0901c4a", func := "packhorse/packhorselaw11.BatchBytes", spec := "batchBytes", named := ["unicode/utf8.first", "unicode/utf8.acceptRanges"], apart := false, laid := [("unicode/utf8.acceptRanges", laid_unicode_utf8_acceptRanges), ("unicode/utf8.first", laid_unicode_utf8_first)] }
def BatchBytesSaid : Prop := batchBytesRow.holds Tryd.pinned (OpenSpec.ofChange batchBytesSpec)

/-- ITS FALSE NEIGHBOUR: 'it returns false'. Refute it at one input. -/
def batchBytesWrong : ChangeSpec := { name := "batchBytes", fn := fun _ => fun
  | [d1, d2] => { results := [.lit (.bool false)], args := [d1, d2] }
  | _ => none }
def BatchBytesWrongFalsely : Prop := batchBytesRow.holds Tryd.pinned (OpenSpec.ofChange batchBytesWrong)

/-- 'packhorselaw11.BatchCut': WHATEVER THE INPUT: true; the input reads as it did. -/
def batchCutSpec : ChangeSpec := { name := "batchCut", fn := fun _ => fun
  | [d1, d2, d3] => { results := [.lit (.bool true)], args := [d1, d2, d3] }
  | _ => none }
def batchCutRow : OpenClaim := { program := "ytapfpdjcbeiibaadoor", sum := "1773e6d25664d6cf13e3db422fbeee1cdd20116316e776bb5aa78891a0901c4a", func := "packhorse/packhorselaw11.BatchCut", spec := "batchCut", named := ["unicode/utf8.first", "unicode/utf8.acceptRanges"], apart := false, laid := [("unicode/utf8.acceptRanges", laid_unicode_utf8_acceptRanges), ("unicode/utf8.first", laid_unicode_utf8_first)] }
def BatchCutSaid : Prop := batchCutRow.holds Tryd.pinned (OpenSpec.ofChange batchCutSpec)

/-- ITS FALSE NEIGHBOUR: 'it returns false'. Refute it at one input. -/
def batchCutWrong : ChangeSpec := { name := "batchCut", fn := fun _ => fun
  | [d1, d2, d3] => { results := [.lit (.bool false)], args := [d1, d2, d3] }
  | _ => none }
def BatchCutWrongFalsely : Prop := batchCutRow.holds Tryd.pinned (OpenSpec.ofChange batchCutWrong)

/- THE SECOND FORM. 'bulk': how many values and letters a reading holds, each counted each time it is reached (what is shared counts as often as it is met; a slice's spare places count too). A statement '..UptoSaid' is the law's where the arguments, and the package variables that the reading takes, are together of bulk at most 1048576: NARROWER than '..Said'. Prove '..Said' where nothing that the law and all that it calls make is longer than what came in: it says more and counts as full. Else prove '..UptoSaid'. A law counts once. -/
mutual
def uptoBulk {H : Type} : DataW H → Nat
  | .lit (.string bytes) => bytes.length + 1
  | .lit _ => 1
  | .nil => 1
  | .ptr d => uptoBulk d + 1
  | .slice elems spare => uptoBulkAll elems + uptoBulkAll spare + 1
  | .agg parts => uptoBulkAll parts + 1
  | .iface _ d => uptoBulk d + 1
  | .map entries => uptoBulkEntries entries + 1
  | .held _ => 1
def uptoBulkAll {H : Type} : List (DataW H) → Nat
  | [] => 0
  | d :: r => uptoBulk d + uptoBulkAll r
def uptoBulkEntries {H : Type} : List (Lit × DataW H) → Nat
  | [] => 0
  | x :: r => uptoBulkEntry x + uptoBulkEntries r
def uptoBulkEntry {H : Type} : Lit × DataW H → Nat
  | (.string bytes, d) => bytes.length + uptoBulk d + 1
  | (_, d) => uptoBulk d + 1
 end
def uptoSmall : (H : Type) → List (DataW H) → Bool := fun _ ds => decide (uptoBulkAll ds ≤ 1048576)
def OpenSpec.upto (s : _root_.Go.ChangeSpec) : _root_.Go.OpenSpec := { _root_.Go.OpenSpec.ofChange s with cond := some uptoSmall }

/-- 'packhorselaw11.BatchLimits', WHERE WHAT IT READS IS OF BULK AT MOST 1048576: true; the input reads as it did. -/
def batchLimitsUptoRow : OpenClaim := { program := "ytapfpdjcbeiibaadoor", sum := "1773e6d25664d6cf13e3db422fbeee1cdd20116316e776bb5aa78891a0901c4a", func := "packhorse/packhorselaw11.BatchLimits", spec := "batchLimits", named := ["unicode/utf8.first", "unicode/utf8.acceptRanges"], apart := false, laid := [("unicode/utf8.acceptRanges", laid_unicode_utf8_acceptRanges), ("unicode/utf8.first", laid_unicode_utf8_first)], narrowed := true }
def BatchLimitsUptoSaid : Prop := batchLimitsUptoRow.holds Tryd.pinned (OpenSpec.upto batchLimitsSpec)

/-- 'packhorselaw11.BatchTells', WHERE WHAT IT READS IS OF BULK AT MOST 1048576: true; the input reads as it did. -/
def batchTellsUptoRow : OpenClaim := { program := "ytapfpdjcbeiibaadoor", sum := "1773e6d25664d6cf13e3db422fbeee1cdd20116316e776bb5aa78891a0901c4a", func := "packhorse/packhorselaw11.BatchTells", spec := "batchTells", named := ["unicode/utf8.first", "unicode/utf8.acceptRanges"], apart := false, laid := [("unicode/utf8.acceptRanges", laid_unicode_utf8_acceptRanges), ("unicode/utf8.first", laid_unicode_utf8_first)], narrowed := true }
def BatchTellsUptoSaid : Prop := batchTellsUptoRow.holds Tryd.pinned (OpenSpec.upto batchTellsSpec)

/-- 'packhorselaw11.BatchRuns', WHERE WHAT IT READS IS OF BULK AT MOST 1048576: true; the input reads as it did. -/
def batchRunsUptoRow : OpenClaim := { program := "ytapfpdjcbeiibaadoor", sum := "1773e6d25664d6cf13e3db422fbeee1cdd20116316e776bb5aa78891a0901c4a", func := "packhorse/packhorselaw11.BatchRuns", spec := "batchRuns", named := ["unicode/utf8.first", "unicode/utf8.acceptRanges"], apart := false, laid := [("unicode/utf8.acceptRanges", laid_unicode_utf8_acceptRanges), ("unicode/utf8.first", laid_unicode_utf8_first)], narrowed := true }
def BatchRunsUptoSaid : Prop := batchRunsUptoRow.holds Tryd.pinned (OpenSpec.upto batchRunsSpec)

/-- 'packhorselaw11.BatchNames', WHERE WHAT IT READS IS OF BULK AT MOST 1048576: true; the input reads as it did. -/
def batchNamesUptoRow : OpenClaim := { program := "ytapfpdjcbeiibaadoor", sum := "1773e6d25664d6cf13e3db422fbeee1cdd20116316e776bb5aa78891a0901c4a", func := "packhorse/packhorselaw11.BatchNames", spec := "batchNames", named := ["unicode/utf8.first", "unicode/utf8.acceptRanges"], apart := false, laid := [("unicode/utf8.acceptRanges", laid_unicode_utf8_acceptRanges), ("unicode/utf8.first", laid_unicode_utf8_first)], narrowed := true }
def BatchNamesUptoSaid : Prop := batchNamesUptoRow.holds Tryd.pinned (OpenSpec.upto batchNamesSpec)

/-- 'packhorselaw11.BatchBack', WHERE WHAT IT READS IS OF BULK AT MOST 1048576: true; the input reads as it did. -/
def batchBackUptoRow : OpenClaim := { program := "ytapfpdjcbeiibaadoor", sum := "1773e6d25664d6cf13e3db422fbeee1cdd20116316e776bb5aa78891a0901c4a", func := "packhorse/packhorselaw11.BatchBack", spec := "batchBack", named := ["unicode/utf8.first", "unicode/utf8.acceptRanges"], apart := false, laid := [("unicode/utf8.acceptRanges", laid_unicode_utf8_acceptRanges), ("unicode/utf8.first", laid_unicode_utf8_first)], narrowed := true }
def BatchBackUptoSaid : Prop := batchBackUptoRow.holds Tryd.pinned (OpenSpec.upto batchBackSpec)

/-- 'packhorselaw11.BatchBytes', WHERE WHAT IT READS IS OF BULK AT MOST 1048576: true; the input reads as it did. -/
def batchBytesUptoRow : OpenClaim := { program := "ytapfpdjcbeiibaadoor", sum := "1773e6d25664d6cf13e3db422fbeee1cdd20116316e776bb5aa78891a0901c4a", func := "packhorse/packhorselaw11.BatchBytes", spec := "batchBytes", named := ["unicode/utf8.first", "unicode/utf8.acceptRanges"], apart := false, laid := [("unicode/utf8.acceptRanges", laid_unicode_utf8_acceptRanges), ("unicode/utf8.first", laid_unicode_utf8_first)], narrowed := true }
def BatchBytesUptoSaid : Prop := batchBytesUptoRow.holds Tryd.pinned (OpenSpec.upto batchBytesSpec)

/-- 'packhorselaw11.BatchCut', WHERE WHAT IT READS IS OF BULK AT MOST 1048576: true; the input reads as it did. -/
def batchCutUptoRow : OpenClaim := { program := "ytapfpdjcbeiibaadoor", sum := "1773e6d25664d6cf13e3db422fbeee1cdd20116316e776bb5aa78891a0901c4a", func := "packhorse/packhorselaw11.BatchCut", spec := "batchCut", named := ["unicode/utf8.first", "unicode/utf8.acceptRanges"], apart := false, laid := [("unicode/utf8.acceptRanges", laid_unicode_utf8_acceptRanges), ("unicode/utf8.first", laid_unicode_utf8_first)], narrowed := true }
def BatchCutUptoSaid : Prop := batchCutUptoRow.holds Tryd.pinned (OpenSpec.upto batchCutSpec)

end Rows
end Go.Proofs.YtapfpdjcbeiibaaDoor
