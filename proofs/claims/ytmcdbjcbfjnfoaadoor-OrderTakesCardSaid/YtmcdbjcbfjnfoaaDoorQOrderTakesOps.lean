
import Derived.Test.YtmcdbjcbfjnfoaaDoorQOrderTakesPAllx
import Derived.Test.YtmcdbjcbfjnfoaaDoorQOrderTakesOpening
namespace Go.Proofs.YtmcdbjcbfjnfoaaDoor.PAll
open Go.RowKit Go.Proofs.YtmcdbjcbfjnfoaaDoorW.PrintWords Go.Proofs.YtmcdbjcbfjnfoaaDoorW.PrintLast Go.Proofs.YtmcdbjcbfjnfoaaDoor.Opening
def packhorselaw10_OrderTakes.PureQ : Prop := ∀ (l0 : List Int), (l0.length * 1 ≤ 140737488351232 ∧ ∀ x ∈ l0, (Lit.int .u8 x).wf = true) → ∃ k, packhorselaw10_OrderTakes.f k l0 = some true
end Go.Proofs.YtmcdbjcbfjnfoaaDoor.PAll
