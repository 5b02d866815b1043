
import Derived.Test.YtdfnpjmebnlfbaaQHalvesRunsOps
import Derived.Test.YtdfnpjmebnlfbaaQHalvesRunsWalkRuns
set_option linter.unusedVariables false
namespace Go.Proofs.Ytdfnpjmebnlfbaa.Pure
open Go.Proofs.Ytdfnpjmebnlfbaa.PAll
theorem HalvesRuns : packhorselaw12_HalvesRuns.PureQ := fun _ _ h _ => if_pos h.2
end Go.Proofs.Ytdfnpjmebnlfbaa.Pure
