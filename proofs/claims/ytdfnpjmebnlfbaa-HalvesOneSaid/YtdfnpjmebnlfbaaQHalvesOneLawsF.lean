
import Derived.Test.YtdfnpjmebnlfbaaQHalvesOnePAllx0
namespace Go.Proofs.Ytdfnpjmebnlfbaa.PAll
open Go Go.Proofs Go.RowKit
def packhorselaw12_HalvesOne.f (_a0 _a1 : Int) : Option Bool := some true
end Go.Proofs.Ytdfnpjmebnlfbaa.PAll
