/-
  NARROWER THAN 'FOR EVERY INPUT', by the rows' own cells (each row's printed sentence says how): OrderApart: laid · OrderBytes: laid · OrderTakes: laid · OrderCut: laid · OrderTells: laid · OrderNames: laid.
  DERIVED. THE GIVEN ROWS OF THIS SEAT. 6 by the template 'for every input the law returns true; each argument reads behind the call as it read before'; 0 by the template 'total and deterministic' (their statements: YtmcdbjcbfjnfoaaDoorTotals.lean).
  GIVEN WITH THE SEED: the statements are not yours to turn. If you find one false, say at which input.
  Laid BY PROGRAM, IN A SANDBOX (cutbox-rows.mjs): the forced cells as the released guide's own fill.sh prints them over the translation cf2c7f127f5a32c3… (all of the seat's roots in one cut). By AI agents, Wed Nov 11 2026. No macro, syntax, notation, axiom, sorry.
-/
import Derived.Test.YtmcdbjcbfjnfoaaDoorChecked
import GoSem.PinnedTables
import GoSem.Claim
import GoSem.ClaimJoined
import GoSem.ClaimMapViews
import Derived.JoinedTies
import Derived.KernelRfl
namespace Go.Proofs.YtmcdbjcbfjnfoaaDoor
/- THE CELL 'sum', in the pinned program and in every row, IS THE sha256 OF THE DUMP (.gsa) THAT YtmcdbjcbfjnfoaaDoorProg.lean LOADS. Nothing in Lean hashes anything: it is a label: what it is worth is what the hold of that sum in a sandbox is worth. -/
noncomputable def Tryd.pinned : Pinned := { name := "ytmcdbjcbfjnfoaadoor", sum := "cf2c7f127f5a32c30ca3ca0fce1ef80204e034c97656a26b00ea42eba72cd152", checked := Tryd.checked }
namespace Rows
def none {H : Type} : Left H := { results := [], args := [] }

/- WHAT THE LISTED PACKAGE-LEVEL VARIABLES READ AS WHEN THE CALL BEGINS. Each datum BY PROGRAM (the guide's laid-datum.mjs) off the statement by which the dump's own 'gosem.cut.vars' lays the variable. In a bare row this is a premise. The card (YtmcdbjcbfjnfoaaDoorCards.lean) ties it to the program's text. -/
def laid_unicode_utf8_acceptRanges {H : Type} : DataW H := .agg [.agg [.lit (.int .u8 128), .lit (.int .u8 191)], .agg [.lit (.int .u8 160), .lit (.int .u8 191)], .agg [.lit (.int .u8 128), .lit (.int .u8 159)], .agg [.lit (.int .u8 144), .lit (.int .u8 191)], .agg [.lit (.int .u8 128), .lit (.int .u8 143)], .agg [.lit (.int .u8 0), .lit (.int .u8 0)], .agg [.lit (.int .u8 0), .lit (.int .u8 0)], .agg [.lit (.int .u8 0), .lit (.int .u8 0)], .agg [.lit (.int .u8 0), .lit (.int .u8 0)], .agg [.lit (.int .u8 0), .lit (.int .u8 0)], .agg [.lit (.int .u8 0), .lit (.int .u8 0)], .agg [.lit (.int .u8 0), .lit (.int .u8 0)], .agg [.lit (.int .u8 0), .lit (.int .u8 0)], .agg [.lit (.int .u8 0), .lit (.int .u8 0)], .agg [.lit (.int .u8 0), .lit (.int .u8 0)], .agg [.lit (.int .u8 0), .lit (.int .u8 0)]]
/-- One of Go's own tables, pinned by name: the form's constant. -/
def laid_unicode_utf8_first : DataW Unit := Go.Pinned.utf8First

/-- 'packhorselaw10.OrderApart': WHATEVER THE INPUT: true; the input reads as it did. -/
def orderApartSpec : ChangeSpec := { name := "orderApart", fn := fun _ => fun
  | [d1, d2] => { results := [.lit (.bool true)], args := [d1, d2] }
  | _ => none }
def orderApartRow : OpenClaim := { program := "ytmcdbjcbfjnfoaadoor", sum := "cf2c7f127f5a32c30ca3ca0fce1ef80204e034c97656a26b00ea42eba72cd152", func := "packhorse/packhorselaw10.OrderApart", spec := "orderApart", inPlace := ["internal/bytealg.abigen_runtime_cmpstring"], named := ["unicode/utf8.first", "unicode/utf8.acceptRanges"], apart := false, laid := [("unicode/utf8.acceptRanges", laid_unicode_utf8_acceptRanges), ("unicode/utf8.first", laid_unicode_utf8_first)] }
def OrderApartSaid : Prop := orderApartRow.holds Tryd.pinned (OpenSpec.ofChange orderApartSpec)

/-- ITS FALSE NEIGHBOUR: 'it returns false'. Refute it at one input. -/
def orderApartWrong : ChangeSpec := { name := "orderApart", fn := fun _ => fun
  | [d1, d2] => { results := [.lit (.bool false)], args := [d1, d2] }
  | _ => none }
def OrderApartWrongFalsely : Prop := orderApartRow.holds Tryd.pinned (OpenSpec.ofChange orderApartWrong)

/-- 'packhorselaw10.OrderBytes': WHATEVER THE INPUT: true; the input reads as it did. -/
def orderBytesSpec : ChangeSpec := { name := "orderBytes", fn := fun _ => fun
  | [d1, d2] => { results := [.lit (.bool true)], args := [d1, d2] }
  | _ => none }
def orderBytesRow : OpenClaim := { program := "ytmcdbjcbfjnfoaadoor", sum := "cf2c7f127f5a32c30ca3ca0fce1ef80204e034c97656a26b00ea42eba72cd152", func := "packhorse/packhorselaw10.OrderBytes", spec := "orderBytes", inPlace := ["internal/bytealg.abigen_runtime_cmpstring"], named := ["unicode/utf8.first", "unicode/utf8.acceptRanges"], apart := false, laid := [("unicode/utf8.acceptRanges", laid_unicode_utf8_acceptRanges), ("unicode/utf8.first", laid_unicode_utf8_first)] }
def OrderBytesSaid : Prop := orderBytesRow.holds Tryd.pinned (OpenSpec.ofChange orderBytesSpec)

/-- ITS FALSE NEIGHBOUR: 'it returns false'. Refute it at one input. -/
def orderBytesWrong : ChangeSpec := { name := "orderBytes", fn := fun _ => fun
  | [d1, d2] => { results := [.lit (.bool false)], args := [d1, d2] }
  | _ => none }
def OrderBytesWrongFalsely : Prop := orderBytesRow.holds Tryd.pinned (OpenSpec.ofChange orderBytesWrong)

/-- 'packhorselaw10.OrderTakes': WHATEVER THE INPUT: true; the input reads as it did. -/
def orderTakesSpec : ChangeSpec := { name := "orderTakes", fn := fun _ => fun
  | [d] => { results := [.lit (.bool true)], args := [d] }
  | _ => none }
def orderTakesRow : OpenClaim := { program := "ytmcdbjcbfjnfoaadoor", sum := "cf2c7f127f5a32c30ca3ca0fce1ef80204e034c97656a26b00ea42eba72cd152", func := "packhorse/packhorselaw10.OrderTakes", spec := "orderTakes", inPlace := ["internal/bytealg.abigen_runtime_cmpstring"], named := ["unicode/utf8.first", "unicode/utf8.acceptRanges"], apart := false, laid := [("unicode/utf8.acceptRanges", laid_unicode_utf8_acceptRanges), ("unicode/utf8.first", laid_unicode_utf8_first)] }
def OrderTakesSaid : Prop := orderTakesRow.holds Tryd.pinned (OpenSpec.ofChange orderTakesSpec)

/-- ITS FALSE NEIGHBOUR: 'it returns false'. Refute it at one input. -/
def orderTakesWrong : ChangeSpec := { name := "orderTakes", fn := fun _ => fun
  | [d] => { results := [.lit (.bool false)], args := [d] }
  | _ => none }
def OrderTakesWrongFalsely : Prop := orderTakesRow.holds Tryd.pinned (OpenSpec.ofChange orderTakesWrong)

/-- 'packhorselaw10.OrderCut': WHATEVER THE INPUT: true; the input reads as it did. -/
def orderCutSpec : ChangeSpec := { name := "orderCut", fn := fun _ => fun
  | [d1, d2] => { results := [.lit (.bool true)], args := [d1, d2] }
  | _ => none }
def orderCutRow : OpenClaim := { program := "ytmcdbjcbfjnfoaadoor", sum := "cf2c7f127f5a32c30ca3ca0fce1ef80204e034c97656a26b00ea42eba72cd152", func := "packhorse/packhorselaw10.OrderCut", spec := "orderCut", inPlace := ["internal/bytealg.abigen_runtime_cmpstring"], named := ["unicode/utf8.first", "unicode/utf8.acceptRanges"], apart := false, laid := [("unicode/utf8.acceptRanges", laid_unicode_utf8_acceptRanges), ("unicode/utf8.first", laid_unicode_utf8_first)] }
def OrderCutSaid : Prop := orderCutRow.holds Tryd.pinned (OpenSpec.ofChange orderCutSpec)

/-- ITS FALSE NEIGHBOUR: 'it returns false'. Refute it at one input. -/
def orderCutWrong : ChangeSpec := { name := "orderCut", fn := fun _ => fun
  | [d1, d2] => { results := [.lit (.bool false)], args := [d1, d2] }
  | _ => none }
def OrderCutWrongFalsely : Prop := orderCutRow.holds Tryd.pinned (OpenSpec.ofChange orderCutWrong)

/-- 'packhorselaw10.OrderTells': WHATEVER THE INPUT: true; the input reads as it did. -/
def orderTellsSpec : ChangeSpec := { name := "orderTells", fn := fun _ => fun
  | [d1, d2] => { results := [.lit (.bool true)], args := [d1, d2] }
  | _ => none }
def orderTellsRow : OpenClaim := { program := "ytmcdbjcbfjnfoaadoor", sum := "cf2c7f127f5a32c30ca3ca0fce1ef80204e034c97656a26b00ea42eba72cd152", func := "packhorse/packhorselaw10.OrderTells", spec := "orderTells", inPlace := ["internal/bytealg.abigen_runtime_cmpstring"], named := ["unicode/utf8.first", "unicode/utf8.acceptRanges"], apart := false, laid := [("unicode/utf8.acceptRanges", laid_unicode_utf8_acceptRanges), ("unicode/utf8.first", laid_unicode_utf8_first)] }
def OrderTellsSaid : Prop := orderTellsRow.holds Tryd.pinned (OpenSpec.ofChange orderTellsSpec)

/-- ITS FALSE NEIGHBOUR: 'it returns false'. Refute it at one input. -/
def orderTellsWrong : ChangeSpec := { name := "orderTells", fn := fun _ => fun
  | [d1, d2] => { results := [.lit (.bool false)], args := [d1, d2] }
  | _ => none }
def OrderTellsWrongFalsely : Prop := orderTellsRow.holds Tryd.pinned (OpenSpec.ofChange orderTellsWrong)

/-- 'packhorselaw10.OrderNames': WHATEVER THE INPUT: true; the input reads as it did. -/
def orderNamesSpec : ChangeSpec := { name := "orderNames", fn := fun _ => fun
  | [] => { results := [.lit (.bool true)], args := [] }
  | _ => none }
def orderNamesRow : OpenClaim := { program := "ytmcdbjcbfjnfoaadoor", sum := "cf2c7f127f5a32c30ca3ca0fce1ef80204e034c97656a26b00ea42eba72cd152", func := "packhorse/packhorselaw10.OrderNames", spec := "orderNames", inPlace := ["internal/bytealg.abigen_runtime_cmpstring"], named := ["unicode/utf8.first", "unicode/utf8.acceptRanges"], apart := false, laid := [("unicode/utf8.acceptRanges", laid_unicode_utf8_acceptRanges), ("unicode/utf8.first", laid_unicode_utf8_first)] }
def OrderNamesSaid : Prop := orderNamesRow.holds Tryd.pinned (OpenSpec.ofChange orderNamesSpec)

/-- ITS FALSE NEIGHBOUR: 'it returns false'. Refute it at one input. -/
def orderNamesWrong : ChangeSpec := { name := "orderNames", fn := fun _ => fun
  | [] => { results := [.lit (.bool false)], args := [] }
  | _ => none }
def OrderNamesWrongFalsely : Prop := orderNamesRow.holds Tryd.pinned (OpenSpec.ofChange orderNamesWrong)

/- THE SECOND FORM. 'bulk': how many values and letters a reading holds, each counted each time it is reached (what is shared counts as often as it is met; a slice's spare places count too). A statement '..UptoSaid' is the law's where the arguments, and the package variables that the reading takes, are together of bulk at most 1048576: NARROWER than '..Said'. Prove '..Said' where nothing that the law and all that it calls make is longer than what came in: it says more and counts as full. Else prove '..UptoSaid'. A law counts once. -/
mutual
def uptoBulk {H : Type} : DataW H → Nat
  | .lit (.string bytes) => bytes.length + 1
  | .lit _ => 1
  | .nil => 1
  | .ptr d => uptoBulk d + 1
  | .slice elems spare => uptoBulkAll elems + uptoBulkAll spare + 1
  | .agg parts => uptoBulkAll parts + 1
  | .iface _ d => uptoBulk d + 1
  | .map entries => uptoBulkEntries entries + 1
  | .held _ => 1
def uptoBulkAll {H : Type} : List (DataW H) → Nat
  | [] => 0
  | d :: r => uptoBulk d + uptoBulkAll r
def uptoBulkEntries {H : Type} : List (Lit × DataW H) → Nat
  | [] => 0
  | x :: r => uptoBulkEntry x + uptoBulkEntries r
def uptoBulkEntry {H : Type} : Lit × DataW H → Nat
  | (.string bytes, d) => bytes.length + uptoBulk d + 1
  | (_, d) => uptoBulk d + 1
 end
def uptoSmall : (H : Type) → List (DataW H) → Bool := fun _ ds => decide (uptoBulkAll ds ≤ 1048576)
def OpenSpec.upto (s : _root_.Go.ChangeSpec) : _root_.Go.OpenSpec := { _root_.Go.OpenSpec.ofChange s with cond := some uptoSmall }

/-- 'packhorselaw10.OrderApart', WHERE WHAT IT READS IS OF BULK AT MOST 1048576: true; the input reads as it did. -/
def orderApartUptoRow : OpenClaim := { program := "ytmcdbjcbfjnfoaadoor", sum := "cf2c7f127f5a32c30ca3ca0fce1ef80204e034c97656a26b00ea42eba72cd152", func := "packhorse/packhorselaw10.OrderApart", spec := "orderApart", inPlace := ["internal/bytealg.abigen_runtime_cmpstring"], named := ["unicode/utf8.first", "unicode/utf8.acceptRanges"], apart := false, laid := [("unicode/utf8.acceptRanges", laid_unicode_utf8_acceptRanges), ("unicode/utf8.first", laid_unicode_utf8_first)], narrowed := true }
def OrderApartUptoSaid : Prop := orderApartUptoRow.holds Tryd.pinned (OpenSpec.upto orderApartSpec)

/-- 'packhorselaw10.OrderBytes', WHERE WHAT IT READS IS OF BULK AT MOST 1048576: true; the input reads as it did. -/
def orderBytesUptoRow : OpenClaim := { program := "ytmcdbjcbfjnfoaadoor", sum := "cf2c7f127f5a32c30ca3ca0fce1ef80204e034c97656a26b00ea42eba72cd152", func := "packhorse/packhorselaw10.OrderBytes", spec := "orderBytes", inPlace := ["internal/bytealg.abigen_runtime_cmpstring"], named := ["unicode/utf8.first", "unicode/utf8.acceptRanges"], apart := false, laid := [("unicode/utf8.acceptRanges", laid_unicode_utf8_acceptRanges), ("unicode/utf8.first", laid_unicode_utf8_first)], narrowed := true }
def OrderBytesUptoSaid : Prop := orderBytesUptoRow.holds Tryd.pinned (OpenSpec.upto orderBytesSpec)

/-- 'packhorselaw10.OrderTakes', WHERE WHAT IT READS IS OF BULK AT MOST 1048576: true; the input reads as it did. -/
def orderTakesUptoRow : OpenClaim := { program := "ytmcdbjcbfjnfoaadoor", sum := "cf2c7f127f5a32c30ca3ca0fce1ef80204e034c97656a26b00ea42eba72cd152", func := "packhorse/packhorselaw10.OrderTakes", spec := "orderTakes", inPlace := ["internal/bytealg.abigen_runtime_cmpstring"], named := ["unicode/utf8.first", "unicode/utf8.acceptRanges"], apart := false, laid := [("unicode/utf8.acceptRanges", laid_unicode_utf8_acceptRanges), ("unicode/utf8.first", laid_unicode_utf8_first)], narrowed := true }
def OrderTakesUptoSaid : Prop := orderTakesUptoRow.holds Tryd.pinned (OpenSpec.upto orderTakesSpec)

/-- 'packhorselaw10.OrderCut', WHERE WHAT IT READS IS OF BULK AT MOST 1048576: true; the input reads as it did. -/
def orderCutUptoRow : OpenClaim := { program := "ytmcdbjcbfjnfoaadoor", sum := "cf2c7f127f5a32c30ca3ca0fce1ef80204e034c97656a26b00ea42eba72cd152", func := "packhorse/packhorselaw10.OrderCut", spec := "orderCut", inPlace := ["internal/bytealg.abigen_runtime_cmpstring"], named := ["unicode/utf8.first", "unicode/utf8.acceptRanges"], apart := false, laid := [("unicode/utf8.acceptRanges", laid_unicode_utf8_acceptRanges), ("unicode/utf8.first", laid_unicode_utf8_first)], narrowed := true }
def OrderCutUptoSaid : Prop := orderCutUptoRow.holds Tryd.pinned (OpenSpec.upto orderCutSpec)

/-- 'packhorselaw10.OrderTells', WHERE WHAT IT READS IS OF BULK AT MOST 1048576: true; the input reads as it did. -/
def orderTellsUptoRow : OpenClaim := { program := "ytmcdbjcbfjnfoaadoor", sum := "cf2c7f127f5a32c30ca3ca0fce1ef80204e034c97656a26b00ea42eba72cd152", func := "packhorse/packhorselaw10.OrderTells", spec := "orderTells", inPlace := ["internal/bytealg.abigen_runtime_cmpstring"], named := ["unicode/utf8.first", "unicode/utf8.acceptRanges"], apart := false, laid := [("unicode/utf8.acceptRanges", laid_unicode_utf8_acceptRanges), ("unicode/utf8.first", laid_unicode_utf8_first)], narrowed := true }
def OrderTellsUptoSaid : Prop := orderTellsUptoRow.holds Tryd.pinned (OpenSpec.upto orderTellsSpec)

/-- 'packhorselaw10.OrderNames', WHERE WHAT IT READS IS OF BULK AT MOST 1048576: true; the input reads as it did. -/
def orderNamesUptoRow : OpenClaim := { program := "ytmcdbjcbfjnfoaadoor", sum := "cf2c7f127f5a32c30ca3ca0fce1ef80204e034c97656a26b00ea42eba72cd152", func := "packhorse/packhorselaw10.OrderNames", spec := "orderNames", inPlace := ["internal/bytealg.abigen_runtime_cmpstring"], named := ["unicode/utf8.first", "unicode/utf8.acceptRanges"], apart := false, laid := [("unicode/utf8.acceptRanges", laid_unicode_utf8_acceptRanges), ("unicode/utf8.first", laid_unicode_utf8_first)], narrowed := true }
def OrderNamesUptoSaid : Prop := orderNamesUptoRow.holds Tryd.pinned (OpenSpec.upto orderNamesSpec)

end Rows
end Go.Proofs.YtmcdbjcbfjnfoaaDoor
