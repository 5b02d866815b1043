/-
  DERIVED. GIVEN WITH THE SEED: THE CARDS: each row of YtalcopjlofbfaaaDoorRows.lean that lists a variable, with what it lists TIED to the program's text (the seventh form; the later family's looks); each row that meets fmt, with fmt's text TOLD by the authors' own Lean function (tested against real Go, not proved from fmt's source: count such statements apart). THE CARD IS WHAT COUNTS. Prove the row's statement (the work); the ties are given (YtalcopjlofbfaaaDoorTie.lean); close each card by the builder's one call (the guide's Derived/Test/ToyasCard.lean, 'card_holds'). Laid BY PROGRAM, IN A SANDBOX (cutbox-door.mjs). By AI agents, Wed Nov 11 2026. No macro, syntax, notation, axiom, sorry.
-/
import Derived.Test.YtalcopjlofbfaaaDoorRows
import GoSem.ClaimSeven
namespace Go.Proofs.YtalcopjlofbfaaaDoor
namespace Rows

/-- THE TIED CARD OF 'packhorselaw04.LinesMerge'. -/
def linesMergeCard : Claim7 := { stood := { row := linesMergeRow, standIns := [], harness := (true, "7f60348a4af442334e4ade5742ec9c604a8d4a27e8c66382557bccb1d5c4b2af"), looks := false }, kinds := [], alts := [], laidByText := true, laidKinds := [.data, .pinned], laidTests := true, laidLooks := .later }
def LinesMergeCardSaid : Prop := Claim7.holds Tryd.pinned (.plain (OpenSpec.ofChange linesMergeSpec)) linesMergeCard

/-- THE TIED CARD OF 'packhorselaw04.LinesMerged'. -/
def linesMergedCard : Claim7 := { stood := { row := linesMergedRow, standIns := [], harness := (true, "7f60348a4af442334e4ade5742ec9c604a8d4a27e8c66382557bccb1d5c4b2af"), looks := false }, kinds := [], alts := [], laidByText := true, laidKinds := [.data, .pinned], laidTests := true, laidLooks := .later }
def LinesMergedCardSaid : Prop := Claim7.holds Tryd.pinned (.plain (OpenSpec.ofChange linesMergedSpec)) linesMergedCard

/-- THE TIED CARD OF 'packhorselaw04.LinesTell'. -/
def linesTellCard : Claim7 := { stood := { row := linesTellRow, standIns := [], harness := (true, "7f60348a4af442334e4ade5742ec9c604a8d4a27e8c66382557bccb1d5c4b2af"), looks := false }, kinds := [], alts := [], laidByText := true, laidKinds := [.data, .pinned], laidTests := true, laidLooks := .later }
def LinesTellCardSaid : Prop := Claim7.holds Tryd.pinned (.plain (OpenSpec.ofChange linesTellSpec)) linesTellCard

/-- THE TIED CARD OF 'packhorselaw04.LinesTake'. -/
def linesTakeCard : Claim7 := { stood := { row := linesTakeRow, standIns := [], harness := (true, "7f60348a4af442334e4ade5742ec9c604a8d4a27e8c66382557bccb1d5c4b2af"), looks := false }, kinds := [], alts := [], laidByText := true, laidKinds := [.data, .pinned], laidTests := true, laidLooks := .later }
def LinesTakeCardSaid : Prop := Claim7.holds Tryd.pinned (.plain (OpenSpec.ofChange linesTakeSpec)) linesTakeCard

/-- THE TIED CARD OF 'packhorselaw04.LinesNames'. -/
def linesNamesCard : Claim7 := { stood := { row := linesNamesRow, standIns := [], harness := (true, "7f60348a4af442334e4ade5742ec9c604a8d4a27e8c66382557bccb1d5c4b2af"), looks := false }, kinds := [], alts := [], laidByText := true, laidKinds := [.data, .pinned], laidTests := true, laidLooks := .later }
def LinesNamesCardSaid : Prop := Claim7.holds Tryd.pinned (.plain (OpenSpec.ofChange linesNamesSpec)) linesNamesCard

/-- THE TIED CARD OF 'packhorselaw04.LinesBack'. -/
def linesBackCard : Claim7 := { stood := { row := linesBackRow, standIns := [], harness := (true, "7f60348a4af442334e4ade5742ec9c604a8d4a27e8c66382557bccb1d5c4b2af"), looks := false }, kinds := [], alts := [], laidByText := true, laidKinds := [.data, .pinned], laidTests := true, laidLooks := .later }
def LinesBackCardSaid : Prop := Claim7.holds Tryd.pinned (.plain (OpenSpec.ofChange linesBackSpec)) linesBackCard

/-- THE TIED CARD OF 'packhorselaw04.LinesWeigh'. -/
def linesWeighCard : Claim7 := { stood := { row := linesWeighRow, standIns := [], harness := (true, "7f60348a4af442334e4ade5742ec9c604a8d4a27e8c66382557bccb1d5c4b2af"), looks := false }, kinds := [], alts := [], laidByText := true, laidKinds := [.data, .pinned], laidTests := true, laidLooks := .later }
def LinesWeighCardSaid : Prop := Claim7.holds Tryd.pinned (.plain (OpenSpec.ofChange linesWeighSpec)) linesWeighCard

/-- THE SECOND FORM's CARD OF 'packhorselaw04.LinesMerge'. -/
def linesMergeUptoCard : Claim7 := { stood := { row := linesMergeUptoRow, standIns := [], harness := (true, "7f60348a4af442334e4ade5742ec9c604a8d4a27e8c66382557bccb1d5c4b2af"), looks := false }, kinds := [], alts := [], laidByText := true, laidKinds := [.data, .pinned], laidTests := true, laidLooks := .later }
def LinesMergeUptoCardSaid : Prop := Claim7.holds Tryd.pinned (.plain (OpenSpec.upto linesMergeSpec)) linesMergeUptoCard

/-- THE SECOND FORM's CARD OF 'packhorselaw04.LinesMerged'. -/
def linesMergedUptoCard : Claim7 := { stood := { row := linesMergedUptoRow, standIns := [], harness := (true, "7f60348a4af442334e4ade5742ec9c604a8d4a27e8c66382557bccb1d5c4b2af"), looks := false }, kinds := [], alts := [], laidByText := true, laidKinds := [.data, .pinned], laidTests := true, laidLooks := .later }
def LinesMergedUptoCardSaid : Prop := Claim7.holds Tryd.pinned (.plain (OpenSpec.upto linesMergedSpec)) linesMergedUptoCard

/-- THE SECOND FORM's CARD OF 'packhorselaw04.LinesTell'. -/
def linesTellUptoCard : Claim7 := { stood := { row := linesTellUptoRow, standIns := [], harness := (true, "7f60348a4af442334e4ade5742ec9c604a8d4a27e8c66382557bccb1d5c4b2af"), looks := false }, kinds := [], alts := [], laidByText := true, laidKinds := [.data, .pinned], laidTests := true, laidLooks := .later }
def LinesTellUptoCardSaid : Prop := Claim7.holds Tryd.pinned (.plain (OpenSpec.upto linesTellSpec)) linesTellUptoCard

/-- THE SECOND FORM's CARD OF 'packhorselaw04.LinesTake'. -/
def linesTakeUptoCard : Claim7 := { stood := { row := linesTakeUptoRow, standIns := [], harness := (true, "7f60348a4af442334e4ade5742ec9c604a8d4a27e8c66382557bccb1d5c4b2af"), looks := false }, kinds := [], alts := [], laidByText := true, laidKinds := [.data, .pinned], laidTests := true, laidLooks := .later }
def LinesTakeUptoCardSaid : Prop := Claim7.holds Tryd.pinned (.plain (OpenSpec.upto linesTakeSpec)) linesTakeUptoCard

/-- THE SECOND FORM's CARD OF 'packhorselaw04.LinesNames'. -/
def linesNamesUptoCard : Claim7 := { stood := { row := linesNamesUptoRow, standIns := [], harness := (true, "7f60348a4af442334e4ade5742ec9c604a8d4a27e8c66382557bccb1d5c4b2af"), looks := false }, kinds := [], alts := [], laidByText := true, laidKinds := [.data, .pinned], laidTests := true, laidLooks := .later }
def LinesNamesUptoCardSaid : Prop := Claim7.holds Tryd.pinned (.plain (OpenSpec.upto linesNamesSpec)) linesNamesUptoCard

/-- THE SECOND FORM's CARD OF 'packhorselaw04.LinesBack'. -/
def linesBackUptoCard : Claim7 := { stood := { row := linesBackUptoRow, standIns := [], harness := (true, "7f60348a4af442334e4ade5742ec9c604a8d4a27e8c66382557bccb1d5c4b2af"), looks := false }, kinds := [], alts := [], laidByText := true, laidKinds := [.data, .pinned], laidTests := true, laidLooks := .later }
def LinesBackUptoCardSaid : Prop := Claim7.holds Tryd.pinned (.plain (OpenSpec.upto linesBackSpec)) linesBackUptoCard

/-- THE SECOND FORM's CARD OF 'packhorselaw04.LinesWeigh'. -/
def linesWeighUptoCard : Claim7 := { stood := { row := linesWeighUptoRow, standIns := [], harness := (true, "7f60348a4af442334e4ade5742ec9c604a8d4a27e8c66382557bccb1d5c4b2af"), looks := false }, kinds := [], alts := [], laidByText := true, laidKinds := [.data, .pinned], laidTests := true, laidLooks := .later }
def LinesWeighUptoCardSaid : Prop := Claim7.holds Tryd.pinned (.plain (OpenSpec.upto linesWeighSpec)) linesWeighUptoCard
end Rows
end Go.Proofs.YtalcopjlofbfaaaDoor
