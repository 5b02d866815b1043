
import Derived.Test.YtdfnpjmebnlfbaaQHalvesFindsOps
import Derived.Test.YtdfnpjmebnlfbaaQHalvesFindsWalkFinds
set_option linter.unusedVariables false
namespace Go.Proofs.Ytdfnpjmebnlfbaa.Pure
open Go.Proofs.Ytdfnpjmebnlfbaa.PAll
theorem HalvesFinds : packhorselaw12_HalvesFinds.PureQ := fun _ _ _ h => if_pos (by have := h.1; omega)
end Go.Proofs.Ytdfnpjmebnlfbaa.Pure
