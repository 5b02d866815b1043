import Derived.Test.YtdfnpjmebnlfbaaQHalvesFindsLawsF
import Derived.Test.YtdfnpjmebnlfbaaQHalvesFindsPAllx0
import Derived.Test.YtdfnpjmebnlfbaaQHalvesFindsPAllx1
import Derived.Test.YtdfnpjmebnlfbaaQHalvesFindsPAllx2
import Derived.Test.YtdfnpjmebnlfbaaQHalvesFindsAlive
import Derived.Test.YtdfnpjmebnlfbaaQHalvesFindsPAllx6
import Derived.Test.YtdfnpjmebnlfbaaQHalvesFindsPAllx7
import Derived.Test.YtdfnpjmebnlfbaaQHalvesFindsOpening

namespace Go.Proofs.Ytdfnpjmebnlfbaa.PAll
open Go.RowKit Go.Proofs.YtdfnpjmebnlfbaaW.PrintWords Go.Proofs.YtdfnpjmebnlfbaaW.PrintLast Go.Proofs.Ytdfnpjmebnlfbaa.Opening
def packhorselaw12_HalvesFinds.PureQ : Prop := ∀ (a0 : Int) (l1 : List Bool), (Lit.int .i64 a0).wf = true → (l1.length * 1 ≤ 140737488351232 ∧ ∀ x ∈ l1, True) → packhorselaw12_HalvesFinds.f a0 l1 = some true
end Go.Proofs.Ytdfnpjmebnlfbaa.PAll
