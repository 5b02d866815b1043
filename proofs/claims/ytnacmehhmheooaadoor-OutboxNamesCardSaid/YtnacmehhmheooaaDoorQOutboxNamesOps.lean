import Derived.Test.YtnacmehhmheooaaDoorQOutboxNamesPNamx
import Derived.Test.YtnacmehhmheooaaDoorQOutboxNamesWMore
import Derived.Deep.Slices
import Derived.ChangeArms
import Derived.SizedLaws

namespace Go.Proofs.YtnacmehhmheooaaDoor.Opening
end Go.Proofs.YtnacmehhmheooaaDoor.Opening
namespace Go.Proofs.YtnacmehhmheooaaDoor.PNam
open Go.RowKit Go.Proofs.YtnacmehhmheooaaDoorW.PrintWords Go.Proofs.YtnacmehhmheooaaDoorW.PrintLast Go.Proofs.YtnacmehhmheooaaDoor.Opening
def packhorselaw13_OutboxNames.PureQ : Prop := ∃ k, packhorselaw13_OutboxNames.f k  = some true
end Go.Proofs.YtnacmehhmheooaaDoor.PNam
