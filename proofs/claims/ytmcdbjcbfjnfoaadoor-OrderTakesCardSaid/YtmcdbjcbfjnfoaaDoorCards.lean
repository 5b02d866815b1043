/-
  DERIVED. GIVEN WITH THE SEED: THE CARDS: each row of YtmcdbjcbfjnfoaaDoorRows.lean that lists a variable, with what it lists TIED to the program's text (the seventh form; the later family's looks); each row that meets fmt, with fmt's text TOLD by the authors' own Lean function (tested against real Go, not proved from fmt's source: count such statements apart). THE CARD IS WHAT COUNTS. Prove the row's statement (the work); the ties are given (YtmcdbjcbfjnfoaaDoorTie.lean); close each card by the builder's one call (the guide's Derived/Test/ToyasCard.lean, 'card_holds'). Laid BY PROGRAM, IN A SANDBOX (cutbox-door.mjs). By AI agents, Wed Nov 11 2026. No macro, syntax, notation, axiom, sorry.
-/
import Derived.Test.YtmcdbjcbfjnfoaaDoorRows
import GoSem.ClaimSeven
namespace Go.Proofs.YtmcdbjcbfjnfoaaDoor
namespace Rows

/-- THE TIED CARD OF 'packhorselaw10.OrderApart'. -/
def orderApartCard : Claim7 := { stood := { row := orderApartRow, standIns := [], harness := (true, "e05e75f9bbf463ca87130c10d317228c409e0d183294adc32ceb470413ae0a91"), looks := false }, kinds := [], alts := [], laidByText := true, laidKinds := [.data, .pinned], laidTests := true, laidLooks := .later }
def OrderApartCardSaid : Prop := Claim7.holds Tryd.pinned (.plain (OpenSpec.ofChange orderApartSpec)) orderApartCard

/-- THE TIED CARD OF 'packhorselaw10.OrderBytes'. -/
def orderBytesCard : Claim7 := { stood := { row := orderBytesRow, standIns := [], harness := (true, "e05e75f9bbf463ca87130c10d317228c409e0d183294adc32ceb470413ae0a91"), looks := false }, kinds := [], alts := [], laidByText := true, laidKinds := [.data, .pinned], laidTests := true, laidLooks := .later }
def OrderBytesCardSaid : Prop := Claim7.holds Tryd.pinned (.plain (OpenSpec.ofChange orderBytesSpec)) orderBytesCard

/-- THE TIED CARD OF 'packhorselaw10.OrderTakes'. -/
def orderTakesCard : Claim7 := { stood := { row := orderTakesRow, standIns := [], harness := (true, "e05e75f9bbf463ca87130c10d317228c409e0d183294adc32ceb470413ae0a91"), looks := false }, kinds := [], alts := [], laidByText := true, laidKinds := [.data, .pinned], laidTests := true, laidLooks := .later }
def OrderTakesCardSaid : Prop := Claim7.holds Tryd.pinned (.plain (OpenSpec.ofChange orderTakesSpec)) orderTakesCard

/-- THE TIED CARD OF 'packhorselaw10.OrderCut'. -/
def orderCutCard : Claim7 := { stood := { row := orderCutRow, standIns := [], harness := (true, "e05e75f9bbf463ca87130c10d317228c409e0d183294adc32ceb470413ae0a91"), looks := false }, kinds := [], alts := [], laidByText := true, laidKinds := [.data, .pinned], laidTests := true, laidLooks := .later }
def OrderCutCardSaid : Prop := Claim7.holds Tryd.pinned (.plain (OpenSpec.ofChange orderCutSpec)) orderCutCard

/-- THE TIED CARD OF 'packhorselaw10.OrderTells'. -/
def orderTellsCard : Claim7 := { stood := { row := orderTellsRow, standIns := [], harness := (true, "e05e75f9bbf463ca87130c10d317228c409e0d183294adc32ceb470413ae0a91"), looks := false }, kinds := [], alts := [], laidByText := true, laidKinds := [.data, .pinned], laidTests := true, laidLooks := .later }
def OrderTellsCardSaid : Prop := Claim7.holds Tryd.pinned (.plain (OpenSpec.ofChange orderTellsSpec)) orderTellsCard

/-- THE TIED CARD OF 'packhorselaw10.OrderNames'. -/
def orderNamesCard : Claim7 := { stood := { row := orderNamesRow, standIns := [], harness := (true, "e05e75f9bbf463ca87130c10d317228c409e0d183294adc32ceb470413ae0a91"), looks := false }, kinds := [], alts := [], laidByText := true, laidKinds := [.data, .pinned], laidTests := true, laidLooks := .later }
def OrderNamesCardSaid : Prop := Claim7.holds Tryd.pinned (.plain (OpenSpec.ofChange orderNamesSpec)) orderNamesCard

/-- THE SECOND FORM's CARD OF 'packhorselaw10.OrderApart'. -/
def orderApartUptoCard : Claim7 := { stood := { row := orderApartUptoRow, standIns := [], harness := (true, "e05e75f9bbf463ca87130c10d317228c409e0d183294adc32ceb470413ae0a91"), looks := false }, kinds := [], alts := [], laidByText := true, laidKinds := [.data, .pinned], laidTests := true, laidLooks := .later }
def OrderApartUptoCardSaid : Prop := Claim7.holds Tryd.pinned (.plain (OpenSpec.upto orderApartSpec)) orderApartUptoCard

/-- THE SECOND FORM's CARD OF 'packhorselaw10.OrderBytes'. -/
def orderBytesUptoCard : Claim7 := { stood := { row := orderBytesUptoRow, standIns := [], harness := (true, "e05e75f9bbf463ca87130c10d317228c409e0d183294adc32ceb470413ae0a91"), looks := false }, kinds := [], alts := [], laidByText := true, laidKinds := [.data, .pinned], laidTests := true, laidLooks := .later }
def OrderBytesUptoCardSaid : Prop := Claim7.holds Tryd.pinned (.plain (OpenSpec.upto orderBytesSpec)) orderBytesUptoCard

/-- THE SECOND FORM's CARD OF 'packhorselaw10.OrderTakes'. -/
def orderTakesUptoCard : Claim7 := { stood := { row := orderTakesUptoRow, standIns := [], harness := (true, "e05e75f9bbf463ca87130c10d317228c409e0d183294adc32ceb470413ae0a91"), looks := false }, kinds := [], alts := [], laidByText := true, laidKinds := [.data, .pinned], laidTests := true, laidLooks := .later }
def OrderTakesUptoCardSaid : Prop := Claim7.holds Tryd.pinned (.plain (OpenSpec.upto orderTakesSpec)) orderTakesUptoCard

/-- THE SECOND FORM's CARD OF 'packhorselaw10.OrderCut'. -/
def orderCutUptoCard : Claim7 := { stood := { row := orderCutUptoRow, standIns := [], harness := (true, "e05e75f9bbf463ca87130c10d317228c409e0d183294adc32ceb470413ae0a91"), looks := false }, kinds := [], alts := [], laidByText := true, laidKinds := [.data, .pinned], laidTests := true, laidLooks := .later }
def OrderCutUptoCardSaid : Prop := Claim7.holds Tryd.pinned (.plain (OpenSpec.upto orderCutSpec)) orderCutUptoCard

/-- THE SECOND FORM's CARD OF 'packhorselaw10.OrderTells'. -/
def orderTellsUptoCard : Claim7 := { stood := { row := orderTellsUptoRow, standIns := [], harness := (true, "e05e75f9bbf463ca87130c10d317228c409e0d183294adc32ceb470413ae0a91"), looks := false }, kinds := [], alts := [], laidByText := true, laidKinds := [.data, .pinned], laidTests := true, laidLooks := .later }
def OrderTellsUptoCardSaid : Prop := Claim7.holds Tryd.pinned (.plain (OpenSpec.upto orderTellsSpec)) orderTellsUptoCard

/-- THE SECOND FORM's CARD OF 'packhorselaw10.OrderNames'. -/
def orderNamesUptoCard : Claim7 := { stood := { row := orderNamesUptoRow, standIns := [], harness := (true, "e05e75f9bbf463ca87130c10d317228c409e0d183294adc32ceb470413ae0a91"), looks := false }, kinds := [], alts := [], laidByText := true, laidKinds := [.data, .pinned], laidTests := true, laidLooks := .later }
def OrderNamesUptoCardSaid : Prop := Claim7.holds Tryd.pinned (.plain (OpenSpec.upto orderNamesSpec)) orderNamesUptoCard
end Rows
end Go.Proofs.YtmcdbjcbfjnfoaaDoor
