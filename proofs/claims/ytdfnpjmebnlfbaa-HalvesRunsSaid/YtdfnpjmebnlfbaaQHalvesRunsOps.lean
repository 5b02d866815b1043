import Derived.Test.YtdfnpjmebnlfbaaQHalvesRunsLawsF
import Derived.Test.YtdfnpjmebnlfbaaQHalvesRunsPAllx0
import Derived.Test.YtdfnpjmebnlfbaaQHalvesRunsPAllx1
import Derived.Test.YtdfnpjmebnlfbaaQHalvesRunsPAllx2
import Derived.Test.YtdfnpjmebnlfbaaQHalvesRunsPAllx3
import Derived.Test.YtdfnpjmebnlfbaaQHalvesRunsAlive
import Derived.Test.YtdfnpjmebnlfbaaQHalvesRunsOpening

namespace Go.Proofs.Ytdfnpjmebnlfbaa.PAll
open Go.RowKit Go.Proofs.YtdfnpjmebnlfbaaW.PrintWords Go.Proofs.YtdfnpjmebnlfbaaW.PrintLast Go.Proofs.Ytdfnpjmebnlfbaa.Opening
def packhorselaw12_HalvesRuns.PureQ : Prop := ∀ (l0 : List ByteArray) (l1 : List Bool), (l0.length * 16 ≤ 140737488351232 ∧ ∀ x ∈ l0, x.size ≤ 140737488351232) → (l1.length * 1 ≤ 140737488351232 ∧ ∀ x ∈ l1, True) → packhorselaw12_HalvesRuns.f l0 l1 = some true
end Go.Proofs.Ytdfnpjmebnlfbaa.PAll
