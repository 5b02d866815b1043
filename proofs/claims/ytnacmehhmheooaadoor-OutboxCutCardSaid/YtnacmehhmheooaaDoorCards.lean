/-
  DERIVED. GIVEN WITH THE SEED: THE CARDS: each row of YtnacmehhmheooaaDoorRows.lean that lists a variable, with what it lists TIED to the program's text (the seventh form; the later family's looks); each row that meets fmt, with fmt's text TOLD by the authors' own Lean function (tested against real Go, not proved from fmt's source: count such statements apart). THE CARD IS WHAT COUNTS. Prove the row's statement (the work); the ties are given (YtnacmehhmheooaaDoorTie.lean); close each card by the builder's one call (the guide's Derived/Test/ToyasCard.lean, 'card_holds'). Laid BY PROGRAM, IN A SANDBOX (cutbox-door.mjs). By AI agents, Wed Nov 11 2026. No macro, syntax, notation, axiom, sorry.
-/
import Derived.Test.YtnacmehhmheooaaDoorRows
import GoSem.ClaimSeven
namespace Go.Proofs.YtnacmehhmheooaaDoor
namespace Rows

/-- THE TIED CARD OF 'packhorselaw13.OutboxNames'. -/
def outboxNamesCard : Claim7 := { stood := { row := outboxNamesRow, standIns := [], harness := (true, "b9f2433ce072dfabe3787b72f34950c7871ef5ccb0f0589e31c191b7de98a3df"), looks := false }, kinds := [], alts := [], laidByText := true, laidKinds := [.data, .pinned], laidTests := true, laidLooks := .later }
def OutboxNamesCardSaid : Prop := Claim7.holds Tryd.pinned (.plain (OpenSpec.ofChange outboxNamesSpec)) outboxNamesCard

/-- THE TIED CARD OF 'packhorselaw13.OutboxWaits'. -/
def outboxWaitsCard : Claim7 := { stood := { row := outboxWaitsRow, standIns := [], harness := (true, "b9f2433ce072dfabe3787b72f34950c7871ef5ccb0f0589e31c191b7de98a3df"), looks := false }, kinds := [], alts := [], laidByText := true, laidKinds := [.data, .pinned], laidTests := true, laidLooks := .later }
def OutboxWaitsCardSaid : Prop := Claim7.holds Tryd.pinned (.plain (OpenSpec.ofChange outboxWaitsSpec)) outboxWaitsCard

/-- THE TIED CARD OF 'packhorselaw13.OutboxBack'. -/
def outboxBackCard : Claim7 := { stood := { row := outboxBackRow, standIns := [], harness := (true, "b9f2433ce072dfabe3787b72f34950c7871ef5ccb0f0589e31c191b7de98a3df"), looks := false }, kinds := [], alts := [], laidByText := true, laidKinds := [.data, .pinned], laidTests := true, laidLooks := .later }
def OutboxBackCardSaid : Prop := Claim7.holds Tryd.pinned (.plain (OpenSpec.ofChange outboxBackSpec)) outboxBackCard

/-- THE TIED CARD OF 'packhorselaw13.OutboxRuns'. -/
def outboxRunsCard : Claim7 := { stood := { row := outboxRunsRow, standIns := [], harness := (true, "b9f2433ce072dfabe3787b72f34950c7871ef5ccb0f0589e31c191b7de98a3df"), looks := false }, kinds := [], alts := [], laidByText := true, laidKinds := [.data, .pinned], laidTests := true, laidLooks := .later }
def OutboxRunsCardSaid : Prop := Claim7.holds Tryd.pinned (.plain (OpenSpec.ofChange outboxRunsSpec)) outboxRunsCard

/-- THE TIED CARD OF 'packhorselaw13.OutboxBytes'. -/
def outboxBytesCard : Claim7 := { stood := { row := outboxBytesRow, standIns := [], harness := (true, "b9f2433ce072dfabe3787b72f34950c7871ef5ccb0f0589e31c191b7de98a3df"), looks := false }, kinds := [], alts := [], laidByText := true, laidKinds := [.data, .pinned], laidTests := true, laidLooks := .later }
def OutboxBytesCardSaid : Prop := Claim7.holds Tryd.pinned (.plain (OpenSpec.ofChange outboxBytesSpec)) outboxBytesCard

/-- THE TIED CARD OF 'packhorselaw13.OutboxCut'. -/
def outboxCutCard : Claim7 := { stood := { row := outboxCutRow, standIns := [], harness := (true, "b9f2433ce072dfabe3787b72f34950c7871ef5ccb0f0589e31c191b7de98a3df"), looks := false }, kinds := [], alts := [], laidByText := true, laidKinds := [.data, .pinned], laidTests := true, laidLooks := .later }
def OutboxCutCardSaid : Prop := Claim7.holds Tryd.pinned (.plain (OpenSpec.ofChange outboxCutSpec)) outboxCutCard

/-- THE SECOND FORM's CARD OF 'packhorselaw13.OutboxNames'. -/
def outboxNamesUptoCard : Claim7 := { stood := { row := outboxNamesUptoRow, standIns := [], harness := (true, "b9f2433ce072dfabe3787b72f34950c7871ef5ccb0f0589e31c191b7de98a3df"), looks := false }, kinds := [], alts := [], laidByText := true, laidKinds := [.data, .pinned], laidTests := true, laidLooks := .later }
def OutboxNamesUptoCardSaid : Prop := Claim7.holds Tryd.pinned (.plain (OpenSpec.upto outboxNamesSpec)) outboxNamesUptoCard

/-- THE SECOND FORM's CARD OF 'packhorselaw13.OutboxWaits'. -/
def outboxWaitsUptoCard : Claim7 := { stood := { row := outboxWaitsUptoRow, standIns := [], harness := (true, "b9f2433ce072dfabe3787b72f34950c7871ef5ccb0f0589e31c191b7de98a3df"), looks := false }, kinds := [], alts := [], laidByText := true, laidKinds := [.data, .pinned], laidTests := true, laidLooks := .later }
def OutboxWaitsUptoCardSaid : Prop := Claim7.holds Tryd.pinned (.plain (OpenSpec.upto outboxWaitsSpec)) outboxWaitsUptoCard

/-- THE SECOND FORM's CARD OF 'packhorselaw13.OutboxBack'. -/
def outboxBackUptoCard : Claim7 := { stood := { row := outboxBackUptoRow, standIns := [], harness := (true, "b9f2433ce072dfabe3787b72f34950c7871ef5ccb0f0589e31c191b7de98a3df"), looks := false }, kinds := [], alts := [], laidByText := true, laidKinds := [.data, .pinned], laidTests := true, laidLooks := .later }
def OutboxBackUptoCardSaid : Prop := Claim7.holds Tryd.pinned (.plain (OpenSpec.upto outboxBackSpec)) outboxBackUptoCard

/-- THE SECOND FORM's CARD OF 'packhorselaw13.OutboxRuns'. -/
def outboxRunsUptoCard : Claim7 := { stood := { row := outboxRunsUptoRow, standIns := [], harness := (true, "b9f2433ce072dfabe3787b72f34950c7871ef5ccb0f0589e31c191b7de98a3df"), looks := false }, kinds := [], alts := [], laidByText := true, laidKinds := [.data, .pinned], laidTests := true, laidLooks := .later }
def OutboxRunsUptoCardSaid : Prop := Claim7.holds Tryd.pinned (.plain (OpenSpec.upto outboxRunsSpec)) outboxRunsUptoCard

/-- THE SECOND FORM's CARD OF 'packhorselaw13.OutboxBytes'. -/
def outboxBytesUptoCard : Claim7 := { stood := { row := outboxBytesUptoRow, standIns := [], harness := (true, "b9f2433ce072dfabe3787b72f34950c7871ef5ccb0f0589e31c191b7de98a3df"), looks := false }, kinds := [], alts := [], laidByText := true, laidKinds := [.data, .pinned], laidTests := true, laidLooks := .later }
def OutboxBytesUptoCardSaid : Prop := Claim7.holds Tryd.pinned (.plain (OpenSpec.upto outboxBytesSpec)) outboxBytesUptoCard

/-- THE SECOND FORM's CARD OF 'packhorselaw13.OutboxCut'. -/
def outboxCutUptoCard : Claim7 := { stood := { row := outboxCutUptoRow, standIns := [], harness := (true, "b9f2433ce072dfabe3787b72f34950c7871ef5ccb0f0589e31c191b7de98a3df"), looks := false }, kinds := [], alts := [], laidByText := true, laidKinds := [.data, .pinned], laidTests := true, laidLooks := .later }
def OutboxCutUptoCardSaid : Prop := Claim7.holds Tryd.pinned (.plain (OpenSpec.upto outboxCutSpec)) outboxCutUptoCard
end Rows
end Go.Proofs.YtnacmehhmheooaaDoor
