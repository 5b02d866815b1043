
import Derived.Test.YtdfnpjmebnlfbaaQHalvesRunsPAllx0
namespace Go.Proofs.Ytdfnpjmebnlfbaa.PAll
open Go Go.Proofs Go.RowKit
def packhorselaw12_HalvesRuns.f (l0 : List ByteArray) (_l1 : List Bool) : Option Bool := if ∀ x ∈ l0, x.size ≤ 140737488351232 then some true else none
end Go.Proofs.Ytdfnpjmebnlfbaa.PAll
