/- Layer of the seat Ytcghipdlihpbcaa: what can be read as data of each struct type (ok, op); the pure statement of each law: over numbers and lists alone. Written by a program of this session (wip/gen/rowgen.py). -/
import Derived.Test.YtcghipdlihpbcaaPAllx
import Derived.Test.YtcghipdlihpbcaaOpening
namespace Go.Proofs.Ytcghipdlihpbcaa.PAll
open Go.RowKit Go.Proofs.YtcghipdlihpbcaaW.PrintWords Go.Proofs.YtcghipdlihpbcaaW.PrintLast Go.Proofs.Ytcghipdlihpbcaa.Opening

/-- THE ONE PURE STATEMENT of packhorselaw14_SagaEnds. -/
def packhorselaw14_SagaEnds.PureQ : Prop := ∀ (a0_0 : Int) (a0_1 : Bool) (a0_2 : Int) (l1 : List Bool) (a2 : Int), (Lit.int .i64 a0_0).wf = true → (Lit.int .i64 a0_2).wf = true → (l1.length * 1 ≤ 140737488351232 ∧ ∀ x ∈ l1, True) → (Lit.int .i64 a2).wf = true → ∃ k, packhorselaw14_SagaEnds.f k a0_0 a0_1 a0_2 l1 a2 = some true

/-- THE ONE PURE STATEMENT of packhorselaw14_SagaUndoes. -/
def packhorselaw14_SagaUndoes.PureQ : Prop := ∀ (a0_0 : Int) (a0_1 : Bool) (a0_2 : Int) (l1 : List Int) (a2 : Int), (Lit.int .i64 a0_0).wf = true → (Lit.int .i64 a0_2).wf = true → (l1.length * 8 ≤ 140737488351232 ∧ ∀ x ∈ l1, (Lit.int .i64 x).wf = true) → (Lit.int .i64 a2).wf = true → ∃ k, packhorselaw14_SagaUndoes.f k a0_0 a0_1 a0_2 l1 a2 = some true

/-- THE ONE PURE STATEMENT of packhorselaw14_SagaRefuses. -/
def packhorselaw14_SagaRefuses.PureQ : Prop := ∀ (a0 : Bool) (a1 : Int), (Lit.int .i64 a1).wf = true → ∃ k, packhorselaw14_SagaRefuses.f k a0 a1 = some true

end Go.Proofs.Ytcghipdlihpbcaa.PAll
