/-
  NARROWER THAN 'FOR EVERY INPUT', by the rows' own cells (each row's printed sentence says how): LinesMerge: laid · LinesMerged: laid · LinesTell: laid · LinesTake: laid · LinesNames: laid · LinesBack: laid · LinesWeigh: laid.
  DERIVED. THE GIVEN ROWS OF THIS SEAT. 7 by the template 'for every input the law returns true; each argument reads behind the call as it read before'; 0 by the template 'total and deterministic' (their statements: YtalcopjlofbfaaaDoorTotals.lean).
  GIVEN WITH THE SEED: the statements are not yours to turn. If you find one false, say at which input.
  Laid BY PROGRAM, IN A SANDBOX (cutbox-rows.mjs): the forced cells as the released guide's own fill.sh prints them over the translation c026315c8766627f… (all of the seat's roots in one cut). By AI agents, Wed Nov 11 2026. No macro, syntax, notation, axiom, sorry.
-/
import Derived.Test.YtalcopjlofbfaaaDoorChecked
import GoSem.PinnedTables
import GoSem.Claim
import GoSem.ClaimJoined
import GoSem.ClaimMapViews
import Derived.JoinedTies
import Derived.KernelRfl
namespace Go.Proofs.YtalcopjlofbfaaaDoor
/- THE CELL 'sum', in the pinned program and in every row, IS THE sha256 OF THE DUMP (.gsa) THAT YtalcopjlofbfaaaDoorProg.lean LOADS. Nothing in Lean hashes anything: it is a label: what it is worth is what the hold of that sum in a sandbox is worth. -/
noncomputable def Tryd.pinned : Pinned := { name := "ytalcopjlofbfaaadoor", sum := "c026315c8766627f1176c97efa574b288f28653ec347328c045714c33a3e23b8", checked := Tryd.checked }
namespace Rows
def none {H : Type} : Left H := { results := [], args := [] }

/- WHAT THE LISTED PACKAGE-LEVEL VARIABLES READ AS WHEN THE CALL BEGINS. Each datum BY PROGRAM (the guide's laid-datum.mjs) off the statement by which the dump's own 'gosem.cut.vars' lays the variable. In a bare row this is a premise. The card (YtalcopjlofbfaaaDoorCards.lean) ties it to the program's text. -/
def laid_unicode_utf8_acceptRanges {H : Type} : DataW H := .agg [.agg [.lit (.int .u8 128), .lit (.int .u8 191)], .agg [.lit (.int .u8 160), .lit (.int .u8 191)], .agg [.lit (.int .u8 128), .lit (.int .u8 159)], .agg [.lit (.int .u8 144), .lit (.int .u8 191)], .agg [.lit (.int .u8 128), .lit (.int .u8 143)], .agg [.lit (.int .u8 0), .lit (.int .u8 0)], .agg [.lit (.int .u8 0), .lit (.int .u8 0)], .agg [.lit (.int .u8 0), .lit (.int .u8 0)], .agg [.lit (.int .u8 0), .lit (.int .u8 0)], .agg [.lit (.int .u8 0), .lit (.int .u8 0)], .agg [.lit (.int .u8 0), .lit (.int .u8 0)], .agg [.lit (.int .u8 0), .lit (.int .u8 0)], .agg [.lit (.int .u8 0), .lit (.int .u8 0)], .agg [.lit (.int .u8 0), .lit (.int .u8 0)], .agg [.lit (.int .u8 0), .lit (.int .u8 0)], .agg [.lit (.int .u8 0), .lit (.int .u8 0)]]
/-- One of Go's own tables, pinned by name: the form's constant. -/
def laid_unicode_utf8_first : DataW Unit := Go.Pinned.utf8First

/-- 'packhorselaw04.LinesMerge': WHATEVER THE INPUT: true; the input reads as it did. -/
def linesMergeSpec : ChangeSpec := { name := "linesMerge", fn := fun _ => fun
  | [d] => { results := [.lit (.bool true)], args := [d] }
  | _ => none }
def linesMergeRow : OpenClaim := { program := "ytalcopjlofbfaaadoor", sum := "c026315c8766627f1176c97efa574b288f28653ec347328c045714c33a3e23b8", func := "packhorse/packhorselaw04.LinesMerge", spec := "linesMerge", inPlace := ["internal/bytealg.abigen_runtime_cmpstring", "slices.overlaps[packhorse/api.Line]"], unfollowed := true, recurses := true, named := ["unicode/utf8.first", "unicode/utf8.acceptRanges"], apart := false, laid := [("unicode/utf8.acceptRanges", laid_unicode_utf8_acceptRanges), ("unicode/utf8.first", laid_unicode_utf8_first)] }
def LinesMergeSaid : Prop := linesMergeRow.holds Tryd.pinned (OpenSpec.ofChange linesMergeSpec)

/-- ITS FALSE NEIGHBOUR: 'it returns false'. Refute it at one input. -/
def linesMergeWrong : ChangeSpec := { name := "linesMerge", fn := fun _ => fun
  | [d] => { results := [.lit (.bool false)], args := [d] }
  | _ => none }
def LinesMergeWrongFalsely : Prop := linesMergeRow.holds Tryd.pinned (OpenSpec.ofChange linesMergeWrong)

/-- 'packhorselaw04.LinesMerged': WHATEVER THE INPUT: true; the input reads as it did. -/
def linesMergedSpec : ChangeSpec := { name := "linesMerged", fn := fun _ => fun
  | [d1, d2] => { results := [.lit (.bool true)], args := [d1, d2] }
  | _ => none }
def linesMergedRow : OpenClaim := { program := "ytalcopjlofbfaaadoor", sum := "c026315c8766627f1176c97efa574b288f28653ec347328c045714c33a3e23b8", func := "packhorse/packhorselaw04.LinesMerged", spec := "linesMerged", inPlace := ["internal/bytealg.abigen_runtime_cmpstring", "slices.overlaps[packhorse/api.Line]"], unfollowed := true, recurses := true, named := ["unicode/utf8.first", "unicode/utf8.acceptRanges"], apart := false, laid := [("unicode/utf8.acceptRanges", laid_unicode_utf8_acceptRanges), ("unicode/utf8.first", laid_unicode_utf8_first)] }
def LinesMergedSaid : Prop := linesMergedRow.holds Tryd.pinned (OpenSpec.ofChange linesMergedSpec)

/-- ITS FALSE NEIGHBOUR: 'it returns false'. Refute it at one input. -/
def linesMergedWrong : ChangeSpec := { name := "linesMerged", fn := fun _ => fun
  | [d1, d2] => { results := [.lit (.bool false)], args := [d1, d2] }
  | _ => none }
def LinesMergedWrongFalsely : Prop := linesMergedRow.holds Tryd.pinned (OpenSpec.ofChange linesMergedWrong)

/-- 'packhorselaw04.LinesTell': WHATEVER THE INPUT: true; the input reads as it did. -/
def linesTellSpec : ChangeSpec := { name := "linesTell", fn := fun _ => fun
  | [d] => { results := [.lit (.bool true)], args := [d] }
  | _ => none }
def linesTellRow : OpenClaim := { program := "ytalcopjlofbfaaadoor", sum := "c026315c8766627f1176c97efa574b288f28653ec347328c045714c33a3e23b8", func := "packhorse/packhorselaw04.LinesTell", spec := "linesTell", inPlace := ["internal/bytealg.abigen_runtime_cmpstring", "slices.overlaps[packhorse/api.Line]"], unfollowed := true, recurses := true, named := ["unicode/utf8.first", "unicode/utf8.acceptRanges"], apart := false, laid := [("unicode/utf8.acceptRanges", laid_unicode_utf8_acceptRanges), ("unicode/utf8.first", laid_unicode_utf8_first)] }
def LinesTellSaid : Prop := linesTellRow.holds Tryd.pinned (OpenSpec.ofChange linesTellSpec)

/-- ITS FALSE NEIGHBOUR: 'it returns false'. Refute it at one input. -/
def linesTellWrong : ChangeSpec := { name := "linesTell", fn := fun _ => fun
  | [d] => { results := [.lit (.bool false)], args := [d] }
  | _ => none }
def LinesTellWrongFalsely : Prop := linesTellRow.holds Tryd.pinned (OpenSpec.ofChange linesTellWrong)

/-- 'packhorselaw04.LinesTake': WHATEVER THE INPUT: true; the input reads as it did. -/
def linesTakeSpec : ChangeSpec := { name := "linesTake", fn := fun _ => fun
  | [d1, d2, d3] => { results := [.lit (.bool true)], args := [d1, d2, d3] }
  | _ => none }
def linesTakeRow : OpenClaim := { program := "ytalcopjlofbfaaadoor", sum := "c026315c8766627f1176c97efa574b288f28653ec347328c045714c33a3e23b8", func := "packhorse/packhorselaw04.LinesTake", spec := "linesTake", inPlace := ["internal/bytealg.abigen_runtime_cmpstring", "slices.overlaps[packhorse/api.Line]"], unfollowed := true, recurses := true, named := ["unicode/utf8.first", "unicode/utf8.acceptRanges"], apart := false, laid := [("unicode/utf8.acceptRanges", laid_unicode_utf8_acceptRanges), ("unicode/utf8.first", laid_unicode_utf8_first)] }
def LinesTakeSaid : Prop := linesTakeRow.holds Tryd.pinned (OpenSpec.ofChange linesTakeSpec)

/-- ITS FALSE NEIGHBOUR: 'it returns false'. Refute it at one input. -/
def linesTakeWrong : ChangeSpec := { name := "linesTake", fn := fun _ => fun
  | [d1, d2, d3] => { results := [.lit (.bool false)], args := [d1, d2, d3] }
  | _ => none }
def LinesTakeWrongFalsely : Prop := linesTakeRow.holds Tryd.pinned (OpenSpec.ofChange linesTakeWrong)

/-- 'packhorselaw04.LinesNames': WHATEVER THE INPUT: true; the input reads as it did. -/
def linesNamesSpec : ChangeSpec := { name := "linesNames", fn := fun _ => fun
  | [] => { results := [.lit (.bool true)], args := [] }
  | _ => none }
def linesNamesRow : OpenClaim := { program := "ytalcopjlofbfaaadoor", sum := "c026315c8766627f1176c97efa574b288f28653ec347328c045714c33a3e23b8", func := "packhorse/packhorselaw04.LinesNames", spec := "linesNames", inPlace := ["internal/bytealg.abigen_runtime_cmpstring", "slices.overlaps[packhorse/api.Line]"], unfollowed := true, recurses := true, named := ["unicode/utf8.first", "unicode/utf8.acceptRanges"], apart := false, laid := [("unicode/utf8.acceptRanges", laid_unicode_utf8_acceptRanges), ("unicode/utf8.first", laid_unicode_utf8_first)] }
def LinesNamesSaid : Prop := linesNamesRow.holds Tryd.pinned (OpenSpec.ofChange linesNamesSpec)

/-- ITS FALSE NEIGHBOUR: 'it returns false'. Refute it at one input. -/
def linesNamesWrong : ChangeSpec := { name := "linesNames", fn := fun _ => fun
  | [] => { results := [.lit (.bool false)], args := [] }
  | _ => none }
def LinesNamesWrongFalsely : Prop := linesNamesRow.holds Tryd.pinned (OpenSpec.ofChange linesNamesWrong)

/-- 'packhorselaw04.LinesBack': WHATEVER THE INPUT: true; the input reads as it did. -/
def linesBackSpec : ChangeSpec := { name := "linesBack", fn := fun _ => fun
  | [d1, d2, d3] => { results := [.lit (.bool true)], args := [d1, d2, d3] }
  | _ => none }
def linesBackRow : OpenClaim := { program := "ytalcopjlofbfaaadoor", sum := "c026315c8766627f1176c97efa574b288f28653ec347328c045714c33a3e23b8", func := "packhorse/packhorselaw04.LinesBack", spec := "linesBack", inPlace := ["internal/bytealg.abigen_runtime_cmpstring", "slices.overlaps[packhorse/api.Line]"], unfollowed := true, recurses := true, named := ["unicode/utf8.first", "unicode/utf8.acceptRanges"], apart := false, laid := [("unicode/utf8.acceptRanges", laid_unicode_utf8_acceptRanges), ("unicode/utf8.first", laid_unicode_utf8_first)] }
def LinesBackSaid : Prop := linesBackRow.holds Tryd.pinned (OpenSpec.ofChange linesBackSpec)

/-- ITS FALSE NEIGHBOUR: 'it returns false'. Refute it at one input. -/
def linesBackWrong : ChangeSpec := { name := "linesBack", fn := fun _ => fun
  | [d1, d2, d3] => { results := [.lit (.bool false)], args := [d1, d2, d3] }
  | _ => none }
def LinesBackWrongFalsely : Prop := linesBackRow.holds Tryd.pinned (OpenSpec.ofChange linesBackWrong)

/-- 'packhorselaw04.LinesWeigh': WHATEVER THE INPUT: true; the input reads as it did. -/
def linesWeighSpec : ChangeSpec := { name := "linesWeigh", fn := fun _ => fun
  | [d] => { results := [.lit (.bool true)], args := [d] }
  | _ => none }
def linesWeighRow : OpenClaim := { program := "ytalcopjlofbfaaadoor", sum := "c026315c8766627f1176c97efa574b288f28653ec347328c045714c33a3e23b8", func := "packhorse/packhorselaw04.LinesWeigh", spec := "linesWeigh", inPlace := ["internal/bytealg.abigen_runtime_cmpstring", "slices.overlaps[packhorse/api.Line]"], unfollowed := true, recurses := true, named := ["unicode/utf8.first", "unicode/utf8.acceptRanges"], apart := false, laid := [("unicode/utf8.acceptRanges", laid_unicode_utf8_acceptRanges), ("unicode/utf8.first", laid_unicode_utf8_first)] }
def LinesWeighSaid : Prop := linesWeighRow.holds Tryd.pinned (OpenSpec.ofChange linesWeighSpec)

/-- ITS FALSE NEIGHBOUR: 'it returns false'. Refute it at one input. -/
def linesWeighWrong : ChangeSpec := { name := "linesWeigh", fn := fun _ => fun
  | [d] => { results := [.lit (.bool false)], args := [d] }
  | _ => none }
def LinesWeighWrongFalsely : Prop := linesWeighRow.holds Tryd.pinned (OpenSpec.ofChange linesWeighWrong)

/- THE SECOND FORM. 'bulk': how many values and letters a reading holds, each counted each time it is reached (what is shared counts as often as it is met; a slice's spare places count too). A statement '..UptoSaid' is the law's where the arguments, and the package variables that the reading takes, are together of bulk at most 1048576: NARROWER than '..Said'. Prove '..Said' where nothing that the law and all that it calls make is longer than what came in: it says more and counts as full. Else prove '..UptoSaid'. A law counts once. -/
mutual
def uptoBulk {H : Type} : DataW H → Nat
  | .lit (.string bytes) => bytes.length + 1
  | .lit _ => 1
  | .nil => 1
  | .ptr d => uptoBulk d + 1
  | .slice elems spare => uptoBulkAll elems + uptoBulkAll spare + 1
  | .agg parts => uptoBulkAll parts + 1
  | .iface _ d => uptoBulk d + 1
  | .map entries => uptoBulkEntries entries + 1
  | .held _ => 1
def uptoBulkAll {H : Type} : List (DataW H) → Nat
  | [] => 0
  | d :: r => uptoBulk d + uptoBulkAll r
def uptoBulkEntries {H : Type} : List (Lit × DataW H) → Nat
  | [] => 0
  | x :: r => uptoBulkEntry x + uptoBulkEntries r
def uptoBulkEntry {H : Type} : Lit × DataW H → Nat
  | (.string bytes, d) => bytes.length + uptoBulk d + 1
  | (_, d) => uptoBulk d + 1
 end
def uptoSmall : (H : Type) → List (DataW H) → Bool := fun _ ds => decide (uptoBulkAll ds ≤ 1048576)
def OpenSpec.upto (s : _root_.Go.ChangeSpec) : _root_.Go.OpenSpec := { _root_.Go.OpenSpec.ofChange s with cond := some uptoSmall }

/-- 'packhorselaw04.LinesMerge', WHERE WHAT IT READS IS OF BULK AT MOST 1048576: true; the input reads as it did. -/
def linesMergeUptoRow : OpenClaim := { program := "ytalcopjlofbfaaadoor", sum := "c026315c8766627f1176c97efa574b288f28653ec347328c045714c33a3e23b8", func := "packhorse/packhorselaw04.LinesMerge", spec := "linesMerge", inPlace := ["internal/bytealg.abigen_runtime_cmpstring", "slices.overlaps[packhorse/api.Line]"], unfollowed := true, recurses := true, named := ["unicode/utf8.first", "unicode/utf8.acceptRanges"], apart := false, laid := [("unicode/utf8.acceptRanges", laid_unicode_utf8_acceptRanges), ("unicode/utf8.first", laid_unicode_utf8_first)], narrowed := true }
def LinesMergeUptoSaid : Prop := linesMergeUptoRow.holds Tryd.pinned (OpenSpec.upto linesMergeSpec)

/-- 'packhorselaw04.LinesMerged', WHERE WHAT IT READS IS OF BULK AT MOST 1048576: true; the input reads as it did. -/
def linesMergedUptoRow : OpenClaim := { program := "ytalcopjlofbfaaadoor", sum := "c026315c8766627f1176c97efa574b288f28653ec347328c045714c33a3e23b8", func := "packhorse/packhorselaw04.LinesMerged", spec := "linesMerged", inPlace := ["internal/bytealg.abigen_runtime_cmpstring", "slices.overlaps[packhorse/api.Line]"], unfollowed := true, recurses := true, named := ["unicode/utf8.first", "unicode/utf8.acceptRanges"], apart := false, laid := [("unicode/utf8.acceptRanges", laid_unicode_utf8_acceptRanges), ("unicode/utf8.first", laid_unicode_utf8_first)], narrowed := true }
def LinesMergedUptoSaid : Prop := linesMergedUptoRow.holds Tryd.pinned (OpenSpec.upto linesMergedSpec)

/-- 'packhorselaw04.LinesTell', WHERE WHAT IT READS IS OF BULK AT MOST 1048576: true; the input reads as it did. -/
def linesTellUptoRow : OpenClaim := { program := "ytalcopjlofbfaaadoor", sum := "c026315c8766627f1176c97efa574b288f28653ec347328c045714c33a3e23b8", func := "packhorse/packhorselaw04.LinesTell", spec := "linesTell", inPlace := ["internal/bytealg.abigen_runtime_cmpstring", "slices.overlaps[packhorse/api.Line]"], unfollowed := true, recurses := true, named := ["unicode/utf8.first", "unicode/utf8.acceptRanges"], apart := false, laid := [("unicode/utf8.acceptRanges", laid_unicode_utf8_acceptRanges), ("unicode/utf8.first", laid_unicode_utf8_first)], narrowed := true }
def LinesTellUptoSaid : Prop := linesTellUptoRow.holds Tryd.pinned (OpenSpec.upto linesTellSpec)

/-- 'packhorselaw04.LinesTake', WHERE WHAT IT READS IS OF BULK AT MOST 1048576: true; the input reads as it did. -/
def linesTakeUptoRow : OpenClaim := { program := "ytalcopjlofbfaaadoor", sum := "c026315c8766627f1176c97efa574b288f28653ec347328c045714c33a3e23b8", func := "packhorse/packhorselaw04.LinesTake", spec := "linesTake", inPlace := ["internal/bytealg.abigen_runtime_cmpstring", "slices.overlaps[packhorse/api.Line]"], unfollowed := true, recurses := true, named := ["unicode/utf8.first", "unicode/utf8.acceptRanges"], apart := false, laid := [("unicode/utf8.acceptRanges", laid_unicode_utf8_acceptRanges), ("unicode/utf8.first", laid_unicode_utf8_first)], narrowed := true }
def LinesTakeUptoSaid : Prop := linesTakeUptoRow.holds Tryd.pinned (OpenSpec.upto linesTakeSpec)

/-- 'packhorselaw04.LinesNames', WHERE WHAT IT READS IS OF BULK AT MOST 1048576: true; the input reads as it did. -/
def linesNamesUptoRow : OpenClaim := { program := "ytalcopjlofbfaaadoor", sum := "c026315c8766627f1176c97efa574b288f28653ec347328c045714c33a3e23b8", func := "packhorse/packhorselaw04.LinesNames", spec := "linesNames", inPlace := ["internal/bytealg.abigen_runtime_cmpstring", "slices.overlaps[packhorse/api.Line]"], unfollowed := true, recurses := true, named := ["unicode/utf8.first", "unicode/utf8.acceptRanges"], apart := false, laid := [("unicode/utf8.acceptRanges", laid_unicode_utf8_acceptRanges), ("unicode/utf8.first", laid_unicode_utf8_first)], narrowed := true }
def LinesNamesUptoSaid : Prop := linesNamesUptoRow.holds Tryd.pinned (OpenSpec.upto linesNamesSpec)

/-- 'packhorselaw04.LinesBack', WHERE WHAT IT READS IS OF BULK AT MOST 1048576: true; the input reads as it did. -/
def linesBackUptoRow : OpenClaim := { program := "ytalcopjlofbfaaadoor", sum := "c026315c8766627f1176c97efa574b288f28653ec347328c045714c33a3e23b8", func := "packhorse/packhorselaw04.LinesBack", spec := "linesBack", inPlace := ["internal/bytealg.abigen_runtime_cmpstring", "slices.overlaps[packhorse/api.Line]"], unfollowed := true, recurses := true, named := ["unicode/utf8.first", "unicode/utf8.acceptRanges"], apart := false, laid := [("unicode/utf8.acceptRanges", laid_unicode_utf8_acceptRanges), ("unicode/utf8.first", laid_unicode_utf8_first)], narrowed := true }
def LinesBackUptoSaid : Prop := linesBackUptoRow.holds Tryd.pinned (OpenSpec.upto linesBackSpec)

/-- 'packhorselaw04.LinesWeigh', WHERE WHAT IT READS IS OF BULK AT MOST 1048576: true; the input reads as it did. -/
def linesWeighUptoRow : OpenClaim := { program := "ytalcopjlofbfaaadoor", sum := "c026315c8766627f1176c97efa574b288f28653ec347328c045714c33a3e23b8", func := "packhorse/packhorselaw04.LinesWeigh", spec := "linesWeigh", inPlace := ["internal/bytealg.abigen_runtime_cmpstring", "slices.overlaps[packhorse/api.Line]"], unfollowed := true, recurses := true, named := ["unicode/utf8.first", "unicode/utf8.acceptRanges"], apart := false, laid := [("unicode/utf8.acceptRanges", laid_unicode_utf8_acceptRanges), ("unicode/utf8.first", laid_unicode_utf8_first)], narrowed := true }
def LinesWeighUptoSaid : Prop := linesWeighUptoRow.holds Tryd.pinned (OpenSpec.upto linesWeighSpec)

end Rows
end Go.Proofs.YtalcopjlofbfaaaDoor
