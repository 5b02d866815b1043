
import Derived.Test.YtmcdbjcbfjnfoaaDoorQOrderNamesOps
namespace Go.Proofs.YtmcdbjcbfjnfoaaDoor.Pure
open Go.RowKit Go.Proofs.YtmcdbjcbfjnfoaaDoor Go.Proofs.YtmcdbjcbfjnfoaaDoor.PNam Go.Proofs.YtmcdbjcbfjnfoaaDoorW.PrintWords Go.Proofs.YtmcdbjcbfjnfoaaDoorW.PrintLast Go.Proofs.YtmcdbjcbfjnfoaaDoorW.PrintMore
theorem OrderNames : packhorselaw10_OrderNames.PureQ := ⟨100, by decide +kernel⟩
end Go.Proofs.YtmcdbjcbfjnfoaaDoor.Pure
