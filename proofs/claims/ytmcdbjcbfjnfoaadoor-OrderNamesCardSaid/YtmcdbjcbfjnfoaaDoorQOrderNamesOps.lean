import Derived.Test.YtmcdbjcbfjnfoaaDoorQOrderNamesPNamx
import Derived.Test.YtmcdbjcbfjnfoaaDoorQOrderNamesWMore
import Derived.Deep.Slices
import Derived.ChangeArms
import Derived.SizedLaws

namespace Go.Proofs.YtmcdbjcbfjnfoaaDoor.Opening
end Go.Proofs.YtmcdbjcbfjnfoaaDoor.Opening
namespace Go.Proofs.YtmcdbjcbfjnfoaaDoor.PNam
open Go.RowKit Go.Proofs.YtmcdbjcbfjnfoaaDoorW.PrintWords Go.Proofs.YtmcdbjcbfjnfoaaDoorW.PrintLast Go.Proofs.YtmcdbjcbfjnfoaaDoor.Opening
def packhorselaw10_OrderNames.PureQ : Prop := ∃ k, packhorselaw10_OrderNames.f k  = some true
end Go.Proofs.YtmcdbjcbfjnfoaaDoor.PNam
