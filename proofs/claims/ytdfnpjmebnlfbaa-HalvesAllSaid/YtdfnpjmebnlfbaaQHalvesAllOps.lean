import Derived.Test.YtdfnpjmebnlfbaaQHalvesAllLawsF
import Derived.Test.YtdfnpjmebnlfbaaQHalvesAllPAllx0
import Derived.Test.YtdfnpjmebnlfbaaQHalvesAllPAllx1
import Derived.Test.YtdfnpjmebnlfbaaQHalvesAllPAllx2
import Derived.Test.YtdfnpjmebnlfbaaQHalvesAllAlive
import Derived.Test.YtdfnpjmebnlfbaaQHalvesAllOpening

namespace Go.Proofs.Ytdfnpjmebnlfbaa.PAll
open Go.RowKit Go.Proofs.YtdfnpjmebnlfbaaW.PrintWords Go.Proofs.YtdfnpjmebnlfbaaW.PrintLast Go.Proofs.Ytdfnpjmebnlfbaa.Opening
def packhorselaw12_HalvesAll.PureQ : Prop := ∀ (l0 : List ByteArray) (l1 : List Bool), (l0.length * 16 ≤ 140737488351232 ∧ ∀ x ∈ l0, x.size ≤ 140737488351232) → (l1.length * 1 ≤ 140737488351232 ∧ ∀ x ∈ l1, True) → packhorselaw12_HalvesAll.f l0 l1 = some true
end Go.Proofs.Ytdfnpjmebnlfbaa.PAll
