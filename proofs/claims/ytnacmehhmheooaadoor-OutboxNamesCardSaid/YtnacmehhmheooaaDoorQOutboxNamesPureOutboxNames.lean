
import Derived.Test.YtnacmehhmheooaaDoorQOutboxNamesOps
namespace Go.Proofs.YtnacmehhmheooaaDoor.Pure
open Go.RowKit Go.Proofs.YtnacmehhmheooaaDoor Go.Proofs.YtnacmehhmheooaaDoor.PNam Go.Proofs.YtnacmehhmheooaaDoorW.PrintWords Go.Proofs.YtnacmehhmheooaaDoorW.PrintLast Go.Proofs.YtnacmehhmheooaaDoorW.PrintMore
theorem OutboxNames : packhorselaw13_OutboxNames.PureQ := ⟨100, by decide +kernel⟩
end Go.Proofs.YtnacmehhmheooaaDoor.Pure
