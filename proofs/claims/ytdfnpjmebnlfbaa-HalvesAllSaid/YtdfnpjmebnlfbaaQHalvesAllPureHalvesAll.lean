
import Derived.Test.YtdfnpjmebnlfbaaQHalvesAllOps
import Derived.Test.YtdfnpjmebnlfbaaQHalvesAllWalkAll
set_option linter.unusedVariables false
namespace Go.Proofs.Ytdfnpjmebnlfbaa.Pure
open Go.Proofs.Ytdfnpjmebnlfbaa.PAll
theorem HalvesAll : packhorselaw12_HalvesAll.PureQ := fun _ _ h _ => if_pos h.2
end Go.Proofs.Ytdfnpjmebnlfbaa.Pure
