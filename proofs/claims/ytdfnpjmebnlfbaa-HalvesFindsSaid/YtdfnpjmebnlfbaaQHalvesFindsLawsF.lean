
import Derived.Test.YtdfnpjmebnlfbaaQHalvesFindsPAllx0
namespace Go.Proofs.Ytdfnpjmebnlfbaa.PAll
open Go Go.Proofs Go.RowKit
def packhorselaw12_HalvesFinds.f (_a0 : Int) (l1 : List Bool) : Option Bool := if l1.length ≤ 140737488351232 then some true else none
end Go.Proofs.Ytdfnpjmebnlfbaa.PAll
