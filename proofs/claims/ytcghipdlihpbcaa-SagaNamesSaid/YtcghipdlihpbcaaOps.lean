/- Layer of the seat Ytcghipdlihpbcaa: what can be read as data of each struct type (ok, op); the pure statement of each law: over numbers and lists alone. Written by a program of this session (wip/gen/rowgen.py). -/
import Derived.Test.YtcghipdlihpbcaaPAllx
import Derived.Test.YtcghipdlihpbcaaOpening
namespace Go.Proofs.Ytcghipdlihpbcaa.PAll
open Go.RowKit Go.Proofs.YtcghipdlihpbcaaW.PrintWords Go.Proofs.YtcghipdlihpbcaaW.PrintLast Go.Proofs.Ytcghipdlihpbcaa.Opening

/-- THE ONE PURE STATEMENT of packhorselaw14_SagaGivenUp. -/
def packhorselaw14_SagaGivenUp.PureQ : Prop := ∀ (l0 : List Int) (a1 : Int), (l0.length * 8 ≤ 140737488351232 ∧ ∀ x ∈ l0, (Lit.int .i64 x).wf = true) → (Lit.int .i64 a1).wf = true → ∃ k, packhorselaw14_SagaGivenUp.f k l0 a1 = some true

/-- THE ONE PURE STATEMENT of packhorselaw14_SagaNames. -/
def packhorselaw14_SagaNames.PureQ : Prop := ∃ k, packhorselaw14_SagaNames.f k  = some true

end Go.Proofs.Ytcghipdlihpbcaa.PAll
