import Derived.Test.YtdfnpjmebnlfbaaQHalvesNamesLawsF
import Derived.Test.YtdfnpjmebnlfbaaQHalvesNamesPAllx0
import Derived.Test.YtdfnpjmebnlfbaaQHalvesNamesPAllx1
import Derived.Test.YtdfnpjmebnlfbaaQHalvesNamesPAllx2
import Derived.Test.YtdfnpjmebnlfbaaQHalvesNamesAlive
import Derived.Test.YtdfnpjmebnlfbaaQHalvesNamesPAllx6
import Derived.Test.YtdfnpjmebnlfbaaQHalvesNamesPAllx7
import Derived.Test.YtdfnpjmebnlfbaaQHalvesNamesWMore
import Derived.Deep.Slices
import Derived.ChangeArms
import Derived.SizedLaws
import Derived.OpenShut
import Derived.WideShapes

namespace Go.Proofs.Ytdfnpjmebnlfbaa.Opening
end Go.Proofs.Ytdfnpjmebnlfbaa.Opening
namespace Go.Proofs.Ytdfnpjmebnlfbaa.PAll
open Go.RowKit Go.Proofs.YtdfnpjmebnlfbaaW.PrintWords Go.Proofs.YtdfnpjmebnlfbaaW.PrintLast Go.Proofs.Ytdfnpjmebnlfbaa.Opening
def packhorselaw12_HalvesNames.PureQ : Prop := packhorselaw12_HalvesNames.f  = some true
end Go.Proofs.Ytdfnpjmebnlfbaa.PAll
