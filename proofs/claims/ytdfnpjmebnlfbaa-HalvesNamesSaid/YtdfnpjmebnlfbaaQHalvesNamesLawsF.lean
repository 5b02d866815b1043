
import Derived.Test.YtdfnpjmebnlfbaaQHalvesNamesPAllx0
namespace Go.Proofs.Ytdfnpjmebnlfbaa.PAll
open Go Go.Proofs Go.RowKit
def packhorselaw12_HalvesNames.f : Option Bool := some true
end Go.Proofs.Ytdfnpjmebnlfbaa.PAll
