/-
  DERIVED. GIVEN WITH THE SEED: THE CARDS: each row of YtapfpdjcbeiibaaDoorRows.lean that lists a variable, with what it lists TIED to the program's text (the seventh form; the later family's looks); each row that meets fmt, with fmt's text TOLD by the authors' own Lean function (tested against real Go, not proved from fmt's source: count such statements apart). THE CARD IS WHAT COUNTS. Prove the row's statement (the work); the ties are given (YtapfpdjcbeiibaaDoorTie.lean); close each card by the builder's one call (the guide's Derived/Test/ToyasCard.lean, 'card_holds'). Laid BY PROGRAM, IN A SANDBOX (cutbox-door.mjs). By AI agents, Wed Nov 11 2026. No macro, syntax, notation, axiom, sorry.
-/
import Derived.Test.YtapfpdjcbeiibaaDoorRows
import GoSem.ClaimSeven
namespace Go.Proofs.YtapfpdjcbeiibaaDoor
namespace Rows

/-- THE TIED CARD OF 'packhorselaw11.BatchLimits'. -/
def batchLimitsCard : Claim7 := { stood := { row := batchLimitsRow, standIns := [], harness := (true, "c995160d2f5c240e3def175bb15ee5cea40076d279a2bc5be9eefdfdba818d94"), looks := false }, kinds := [], alts := [], laidByText := true, laidKinds := [.data, .pinned], laidTests := true, laidLooks := .later }
def BatchLimitsCardSaid : Prop := Claim7.holds Tryd.pinned (.plain (OpenSpec.ofChange batchLimitsSpec)) batchLimitsCard

/-- THE TIED CARD OF 'packhorselaw11.BatchTells'. -/
def batchTellsCard : Claim7 := { stood := { row := batchTellsRow, standIns := [], harness := (true, "c995160d2f5c240e3def175bb15ee5cea40076d279a2bc5be9eefdfdba818d94"), looks := false }, kinds := [], alts := [], laidByText := true, laidKinds := [.data, .pinned], laidTests := true, laidLooks := .later }
def BatchTellsCardSaid : Prop := Claim7.holds Tryd.pinned (.plain (OpenSpec.ofChange batchTellsSpec)) batchTellsCard

/-- THE TIED CARD OF 'packhorselaw11.BatchRuns'. -/
def batchRunsCard : Claim7 := { stood := { row := batchRunsRow, standIns := [], harness := (true, "c995160d2f5c240e3def175bb15ee5cea40076d279a2bc5be9eefdfdba818d94"), looks := false }, kinds := [], alts := [], laidByText := true, laidKinds := [.data, .pinned], laidTests := true, laidLooks := .later }
def BatchRunsCardSaid : Prop := Claim7.holds Tryd.pinned (.plain (OpenSpec.ofChange batchRunsSpec)) batchRunsCard

/-- THE TIED CARD OF 'packhorselaw11.BatchNames'. -/
def batchNamesCard : Claim7 := { stood := { row := batchNamesRow, standIns := [], harness := (true, "c995160d2f5c240e3def175bb15ee5cea40076d279a2bc5be9eefdfdba818d94"), looks := false }, kinds := [], alts := [], laidByText := true, laidKinds := [.data, .pinned], laidTests := true, laidLooks := .later }
def BatchNamesCardSaid : Prop := Claim7.holds Tryd.pinned (.plain (OpenSpec.ofChange batchNamesSpec)) batchNamesCard

/-- THE TIED CARD OF 'packhorselaw11.BatchBack'. -/
def batchBackCard : Claim7 := { stood := { row := batchBackRow, standIns := [], harness := (true, "c995160d2f5c240e3def175bb15ee5cea40076d279a2bc5be9eefdfdba818d94"), looks := false }, kinds := [], alts := [], laidByText := true, laidKinds := [.data, .pinned], laidTests := true, laidLooks := .later }
def BatchBackCardSaid : Prop := Claim7.holds Tryd.pinned (.plain (OpenSpec.ofChange batchBackSpec)) batchBackCard

/-- THE TIED CARD OF 'packhorselaw11.BatchBytes'. -/
def batchBytesCard : Claim7 := { stood := { row := batchBytesRow, standIns := [], harness := (true, "c995160d2f5c240e3def175bb15ee5cea40076d279a2bc5be9eefdfdba818d94"), looks := false }, kinds := [], alts := [], laidByText := true, laidKinds := [.data, .pinned], laidTests := true, laidLooks := .later }
def BatchBytesCardSaid : Prop := Claim7.holds Tryd.pinned (.plain (OpenSpec.ofChange batchBytesSpec)) batchBytesCard

/-- THE TIED CARD OF 'packhorselaw11.BatchCut'. -/
def batchCutCard : Claim7 := { stood := { row := batchCutRow, standIns := [], harness := (true, "c995160d2f5c240e3def175bb15ee5cea40076d279a2bc5be9eefdfdba818d94"), looks := false }, kinds := [], alts := [], laidByText := true, laidKinds := [.data, .pinned], laidTests := true, laidLooks := .later }
def BatchCutCardSaid : Prop := Claim7.holds Tryd.pinned (.plain (OpenSpec.ofChange batchCutSpec)) batchCutCard

/-- THE SECOND FORM's CARD OF 'packhorselaw11.BatchLimits'. -/
def batchLimitsUptoCard : Claim7 := { stood := { row := batchLimitsUptoRow, standIns := [], harness := (true, "c995160d2f5c240e3def175bb15ee5cea40076d279a2bc5be9eefdfdba818d94"), looks := false }, kinds := [], alts := [], laidByText := true, laidKinds := [.data, .pinned], laidTests := true, laidLooks := .later }
def BatchLimitsUptoCardSaid : Prop := Claim7.holds Tryd.pinned (.plain (OpenSpec.upto batchLimitsSpec)) batchLimitsUptoCard

/-- THE SECOND FORM's CARD OF 'packhorselaw11.BatchTells'. -/
def batchTellsUptoCard : Claim7 := { stood := { row := batchTellsUptoRow, standIns := [], harness := (true, "c995160d2f5c240e3def175bb15ee5cea40076d279a2bc5be9eefdfdba818d94"), looks := false }, kinds := [], alts := [], laidByText := true, laidKinds := [.data, .pinned], laidTests := true, laidLooks := .later }
def BatchTellsUptoCardSaid : Prop := Claim7.holds Tryd.pinned (.plain (OpenSpec.upto batchTellsSpec)) batchTellsUptoCard

/-- THE SECOND FORM's CARD OF 'packhorselaw11.BatchRuns'. -/
def batchRunsUptoCard : Claim7 := { stood := { row := batchRunsUptoRow, standIns := [], harness := (true, "c995160d2f5c240e3def175bb15ee5cea40076d279a2bc5be9eefdfdba818d94"), looks := false }, kinds := [], alts := [], laidByText := true, laidKinds := [.data, .pinned], laidTests := true, laidLooks := .later }
def BatchRunsUptoCardSaid : Prop := Claim7.holds Tryd.pinned (.plain (OpenSpec.upto batchRunsSpec)) batchRunsUptoCard

/-- THE SECOND FORM's CARD OF 'packhorselaw11.BatchNames'. -/
def batchNamesUptoCard : Claim7 := { stood := { row := batchNamesUptoRow, standIns := [], harness := (true, "c995160d2f5c240e3def175bb15ee5cea40076d279a2bc5be9eefdfdba818d94"), looks := false }, kinds := [], alts := [], laidByText := true, laidKinds := [.data, .pinned], laidTests := true, laidLooks := .later }
def BatchNamesUptoCardSaid : Prop := Claim7.holds Tryd.pinned (.plain (OpenSpec.upto batchNamesSpec)) batchNamesUptoCard

/-- THE SECOND FORM's CARD OF 'packhorselaw11.BatchBack'. -/
def batchBackUptoCard : Claim7 := { stood := { row := batchBackUptoRow, standIns := [], harness := (true, "c995160d2f5c240e3def175bb15ee5cea40076d279a2bc5be9eefdfdba818d94"), looks := false }, kinds := [], alts := [], laidByText := true, laidKinds := [.data, .pinned], laidTests := true, laidLooks := .later }
def BatchBackUptoCardSaid : Prop := Claim7.holds Tryd.pinned (.plain (OpenSpec.upto batchBackSpec)) batchBackUptoCard

/-- THE SECOND FORM's CARD OF 'packhorselaw11.BatchBytes'. -/
def batchBytesUptoCard : Claim7 := { stood := { row := batchBytesUptoRow, standIns := [], harness := (true, "c995160d2f5c240e3def175bb15ee5cea40076d279a2bc5be9eefdfdba818d94"), looks := false }, kinds := [], alts := [], laidByText := true, laidKinds := [.data, .pinned], laidTests := true, laidLooks := .later }
def BatchBytesUptoCardSaid : Prop := Claim7.holds Tryd.pinned (.plain (OpenSpec.upto batchBytesSpec)) batchBytesUptoCard

/-- THE SECOND FORM's CARD OF 'packhorselaw11.BatchCut'. -/
def batchCutUptoCard : Claim7 := { stood := { row := batchCutUptoRow, standIns := [], harness := (true, "c995160d2f5c240e3def175bb15ee5cea40076d279a2bc5be9eefdfdba818d94"), looks := false }, kinds := [], alts := [], laidByText := true, laidKinds := [.data, .pinned], laidTests := true, laidLooks := .later }
def BatchCutUptoCardSaid : Prop := Claim7.holds Tryd.pinned (.plain (OpenSpec.upto batchCutSpec)) batchCutUptoCard
end Rows
end Go.Proofs.YtapfpdjcbeiibaaDoor
