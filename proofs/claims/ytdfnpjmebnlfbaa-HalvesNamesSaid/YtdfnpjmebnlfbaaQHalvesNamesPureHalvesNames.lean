
import Derived.Test.YtdfnpjmebnlfbaaQHalvesNamesOps
import Derived.Test.YtdfnpjmebnlfbaaQHalvesNamesWalkNames
set_option linter.unusedVariables false
namespace Go.Proofs.Ytdfnpjmebnlfbaa.Pure
open Go.Proofs.Ytdfnpjmebnlfbaa.PAll
theorem HalvesNames : packhorselaw12_HalvesNames.PureQ := rfl
end Go.Proofs.Ytdfnpjmebnlfbaa.Pure
