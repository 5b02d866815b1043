import Derived.Test.YtdfnpjmebnlfbaaQHalvesOneLawsF
import Derived.Test.YtdfnpjmebnlfbaaQHalvesOnePAllx0
import Derived.Test.YtdfnpjmebnlfbaaQHalvesOnePAllx1
import Derived.Test.YtdfnpjmebnlfbaaQHalvesOnePAllx2
import Derived.Test.YtdfnpjmebnlfbaaQHalvesOneAlive
import Derived.Test.YtdfnpjmebnlfbaaQHalvesOnePAllx6
import Derived.Test.YtdfnpjmebnlfbaaQHalvesOneWMore
import Derived.Deep.Slices
import Derived.ChangeArms
import Derived.SizedLaws
import Derived.OpenShut
import Derived.WideShapes

namespace Go.Proofs.Ytdfnpjmebnlfbaa.Opening
end Go.Proofs.Ytdfnpjmebnlfbaa.Opening
namespace Go.Proofs.Ytdfnpjmebnlfbaa.PAll
open Go.RowKit Go.Proofs.YtdfnpjmebnlfbaaW.PrintWords Go.Proofs.YtdfnpjmebnlfbaaW.PrintLast Go.Proofs.Ytdfnpjmebnlfbaa.Opening
def packhorselaw12_HalvesOne.PureQ : Prop := ∀ (a0 : Int) (a1 : Int), (Lit.int .i64 a0).wf = true → (Lit.int .i64 a1).wf = true → packhorselaw12_HalvesOne.f a0 a1 = some true
end Go.Proofs.Ytdfnpjmebnlfbaa.PAll
