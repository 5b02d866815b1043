
import Derived.Test.YtalcopjlofbfaaaDoorQLinesNamesOps
namespace Go.Proofs.YtalcopjlofbfaaaDoor.Pure
open Go.RowKit Go.Proofs.YtalcopjlofbfaaaDoor Go.Proofs.YtalcopjlofbfaaaDoor.PAll Go.Proofs.YtalcopjlofbfaaaDoorW.PrintWords Go.Proofs.YtalcopjlofbfaaaDoorW.PrintLast Go.Proofs.YtalcopjlofbfaaaDoorW.PrintMore
theorem LinesNames : packhorselaw04_LinesNames.PureQ := ⟨60, by decide +kernel⟩
end Go.Proofs.YtalcopjlofbfaaaDoor.Pure
