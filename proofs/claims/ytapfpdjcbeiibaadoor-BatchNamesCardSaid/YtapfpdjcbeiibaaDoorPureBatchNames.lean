/- Layer 11 (batch), BatchNames: the errors, the limit, the kinds and the phases have their numbers. The one condition is 'laid' (the two tables of unicode/utf8, tied). -/
import Derived.Test.YtapfpdjcbeiibaaDoorOps
namespace Go.Proofs.YtapfpdjcbeiibaaDoor.Pure
open Go.RowKit Go.Proofs.YtapfpdjcbeiibaaDoor Go.Proofs.YtapfpdjcbeiibaaDoor.PAll Go.Proofs.YtapfpdjcbeiibaaDoorW.PrintWords Go.Proofs.YtapfpdjcbeiibaaDoorW.PrintLast Go.Proofs.YtapfpdjcbeiibaaDoorW.PrintMore
theorem BatchNames : packhorselaw11_BatchNames.PureQ := ⟨40, by decide +kernel⟩
end Go.Proofs.YtapfpdjcbeiibaaDoor.Pure
