import Derived.Test.YtdfnpjmebnlfbaaQHalvesBoundPAllx0
import Derived.Test.YtdfnpjmebnlfbaaQHalvesBoundPAllx1
import Derived.Test.YtdfnpjmebnlfbaaQHalvesBoundPAllx2
import Derived.Test.YtdfnpjmebnlfbaaQHalvesBoundPAllx4
import Derived.Test.YtdfnpjmebnlfbaaQHalvesBoundPAllx6
import Derived.Test.YtdfnpjmebnlfbaaQHalvesBoundPAllx7
import Derived.Test.YtdfnpjmebnlfbaaQHalvesBoundPAllx8
import Derived.Test.YtdfnpjmebnlfbaaQHalvesBoundOpening

namespace Go.Proofs.Ytdfnpjmebnlfbaa.PAll
open Go.RowKit Go.Proofs.YtdfnpjmebnlfbaaW.PrintWords Go.Proofs.YtdfnpjmebnlfbaaW.PrintLast Go.Proofs.Ytdfnpjmebnlfbaa.Opening
def packhorselaw12_HalvesSplits.PureQ : Prop := ∀ (l0 : List ByteArray), (l0.length * 16 ≤ 140737488351232 ∧ ∀ x ∈ l0, x.size ≤ 140737488351232) → ∃ k, packhorselaw12_HalvesSplits.f k l0 = some true
def packhorselaw12_HalvesBound.PureQ : Prop := ∀ (a0 : Int) (a1 : Int), (Lit.int .i64 a0).wf = true → (Lit.int .i64 a1).wf = true → ∃ k, packhorselaw12_HalvesBound.f k a0 a1 = some true
end Go.Proofs.Ytdfnpjmebnlfbaa.PAll
