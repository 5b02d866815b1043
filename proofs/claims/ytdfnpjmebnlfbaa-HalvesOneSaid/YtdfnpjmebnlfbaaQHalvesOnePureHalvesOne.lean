
import Derived.Test.YtdfnpjmebnlfbaaQHalvesOneOps
import Derived.Test.YtdfnpjmebnlfbaaQHalvesOneWalkOne
set_option linter.unusedVariables false
namespace Go.Proofs.Ytdfnpjmebnlfbaa.Pure
open Go.Proofs.Ytdfnpjmebnlfbaa.PAll
theorem HalvesOne : packhorselaw12_HalvesOne.PureQ := fun _ _ _ _ => rfl
end Go.Proofs.Ytdfnpjmebnlfbaa.Pure
