/-
  DERIVED. GIVEN WITH THE SEED: THE CARDS: each row of YtdifpehainbkmaaDoorRows.lean that lists a variable, with what it lists TIED to the program's text (the seventh form; the later family's looks); each row that meets fmt, with fmt's text TOLD by the authors' own Lean function (tested against real Go, not proved from fmt's source: count such statements apart). THE CARD IS WHAT COUNTS. Prove the row's statement (the work); the ties are given (YtdifpehainbkmaaDoorTie.lean); close each card by the builder's one call (the guide's Derived/Test/ToyasCard.lean, 'card_holds'). Laid BY PROGRAM, IN A SANDBOX (cutbox-door.mjs). By AI agents, Wed Nov 11 2026. No macro, syntax, notation, axiom, sorry.
-/
import Derived.Test.YtdifpehainbkmaaDoorRows
import GoSem.ClaimSeven
namespace Go.Proofs.YtdifpehainbkmaaDoor
namespace Rows

/-- THE TIED CARD OF 'packhorselaw01.LabelOrders'. -/
def labelOrdersCard : Claim7 := { stood := { row := labelOrdersRow, standIns := [], harness := (true, "b5aa74e4bd6e7b1f1390de6842027974a921ea1edd65b46e54078a9be1a7fc5d"), looks := false }, kinds := [], alts := [], laidByText := true, laidKinds := [.data, .pinned], laidTests := true, laidLooks := .later }
def LabelOrdersCardSaid : Prop := Claim7.holds Tryd.pinned (.plain (OpenSpec.ofChange labelOrdersSpec)) labelOrdersCard

/-- THE TIED CARD OF 'packhorselaw01.LabelTells'. -/
def labelTellsCard : Claim7 := { stood := { row := labelTellsRow, standIns := [], harness := (true, "b5aa74e4bd6e7b1f1390de6842027974a921ea1edd65b46e54078a9be1a7fc5d"), looks := false }, kinds := [], alts := [], laidByText := true, laidKinds := [.data, .pinned], laidTests := true, laidLooks := .later }
def LabelTellsCardSaid : Prop := Claim7.holds Tryd.pinned (.plain (OpenSpec.ofChange labelTellsSpec)) labelTellsCard

/-- THE TIED CARD OF 'packhorselaw01.LabelFollows'. -/
def labelFollowsCard : Claim7 := { stood := { row := labelFollowsRow, standIns := [], harness := (true, "b5aa74e4bd6e7b1f1390de6842027974a921ea1edd65b46e54078a9be1a7fc5d"), looks := false }, kinds := [], alts := [], laidByText := true, laidKinds := [.data, .pinned], laidTests := true, laidLooks := .later }
def LabelFollowsCardSaid : Prop := Claim7.holds Tryd.pinned (.plain (OpenSpec.ofChange labelFollowsSpec)) labelFollowsCard

/-- THE TIED CARD OF 'packhorselaw01.LabelNames'. -/
def labelNamesCard : Claim7 := { stood := { row := labelNamesRow, standIns := [], harness := (true, "b5aa74e4bd6e7b1f1390de6842027974a921ea1edd65b46e54078a9be1a7fc5d"), looks := false }, kinds := [], alts := [], laidByText := true, laidKinds := [.data, .pinned], laidTests := true, laidLooks := .later }
def LabelNamesCardSaid : Prop := Claim7.holds Tryd.pinned (.plain (OpenSpec.ofChange labelNamesSpec)) labelNamesCard

/-- THE TIED CARD OF 'packhorselaw01.LabelSplits'. -/
def labelSplitsCard : Claim7 := { stood := { row := labelSplitsRow, standIns := [], harness := (true, "b5aa74e4bd6e7b1f1390de6842027974a921ea1edd65b46e54078a9be1a7fc5d"), looks := false }, kinds := [], alts := [], laidByText := true, laidKinds := [.data, .pinned], laidTests := true, laidLooks := .later }
def LabelSplitsCardSaid : Prop := Claim7.holds Tryd.pinned (.plain (OpenSpec.ofChange labelSplitsSpec)) labelSplitsCard

/-- THE TIED CARD OF 'packhorselaw01.LabelBytes'. -/
def labelBytesCard : Claim7 := { stood := { row := labelBytesRow, standIns := [], harness := (true, "b5aa74e4bd6e7b1f1390de6842027974a921ea1edd65b46e54078a9be1a7fc5d"), looks := false }, kinds := [], alts := [], laidByText := true, laidKinds := [.data, .pinned], laidTests := true, laidLooks := .later }
def LabelBytesCardSaid : Prop := Claim7.holds Tryd.pinned (.plain (OpenSpec.ofChange labelBytesSpec)) labelBytesCard

/-- THE SECOND FORM's CARD OF 'packhorselaw01.LabelOrders'. -/
def labelOrdersUptoCard : Claim7 := { stood := { row := labelOrdersUptoRow, standIns := [], harness := (true, "b5aa74e4bd6e7b1f1390de6842027974a921ea1edd65b46e54078a9be1a7fc5d"), looks := false }, kinds := [], alts := [], laidByText := true, laidKinds := [.data, .pinned], laidTests := true, laidLooks := .later }
def LabelOrdersUptoCardSaid : Prop := Claim7.holds Tryd.pinned (.plain (OpenSpec.upto labelOrdersSpec)) labelOrdersUptoCard

/-- THE SECOND FORM's CARD OF 'packhorselaw01.LabelTells'. -/
def labelTellsUptoCard : Claim7 := { stood := { row := labelTellsUptoRow, standIns := [], harness := (true, "b5aa74e4bd6e7b1f1390de6842027974a921ea1edd65b46e54078a9be1a7fc5d"), looks := false }, kinds := [], alts := [], laidByText := true, laidKinds := [.data, .pinned], laidTests := true, laidLooks := .later }
def LabelTellsUptoCardSaid : Prop := Claim7.holds Tryd.pinned (.plain (OpenSpec.upto labelTellsSpec)) labelTellsUptoCard

/-- THE SECOND FORM's CARD OF 'packhorselaw01.LabelFollows'. -/
def labelFollowsUptoCard : Claim7 := { stood := { row := labelFollowsUptoRow, standIns := [], harness := (true, "b5aa74e4bd6e7b1f1390de6842027974a921ea1edd65b46e54078a9be1a7fc5d"), looks := false }, kinds := [], alts := [], laidByText := true, laidKinds := [.data, .pinned], laidTests := true, laidLooks := .later }
def LabelFollowsUptoCardSaid : Prop := Claim7.holds Tryd.pinned (.plain (OpenSpec.upto labelFollowsSpec)) labelFollowsUptoCard

/-- THE SECOND FORM's CARD OF 'packhorselaw01.LabelNames'. -/
def labelNamesUptoCard : Claim7 := { stood := { row := labelNamesUptoRow, standIns := [], harness := (true, "b5aa74e4bd6e7b1f1390de6842027974a921ea1edd65b46e54078a9be1a7fc5d"), looks := false }, kinds := [], alts := [], laidByText := true, laidKinds := [.data, .pinned], laidTests := true, laidLooks := .later }
def LabelNamesUptoCardSaid : Prop := Claim7.holds Tryd.pinned (.plain (OpenSpec.upto labelNamesSpec)) labelNamesUptoCard

/-- THE SECOND FORM's CARD OF 'packhorselaw01.LabelSplits'. -/
def labelSplitsUptoCard : Claim7 := { stood := { row := labelSplitsUptoRow, standIns := [], harness := (true, "b5aa74e4bd6e7b1f1390de6842027974a921ea1edd65b46e54078a9be1a7fc5d"), looks := false }, kinds := [], alts := [], laidByText := true, laidKinds := [.data, .pinned], laidTests := true, laidLooks := .later }
def LabelSplitsUptoCardSaid : Prop := Claim7.holds Tryd.pinned (.plain (OpenSpec.upto labelSplitsSpec)) labelSplitsUptoCard

/-- THE SECOND FORM's CARD OF 'packhorselaw01.LabelBytes'. -/
def labelBytesUptoCard : Claim7 := { stood := { row := labelBytesUptoRow, standIns := [], harness := (true, "b5aa74e4bd6e7b1f1390de6842027974a921ea1edd65b46e54078a9be1a7fc5d"), looks := false }, kinds := [], alts := [], laidByText := true, laidKinds := [.data, .pinned], laidTests := true, laidLooks := .later }
def LabelBytesUptoCardSaid : Prop := Claim7.holds Tryd.pinned (.plain (OpenSpec.upto labelBytesSpec)) labelBytesUptoCard
end Rows
end Go.Proofs.YtdifpehainbkmaaDoor
