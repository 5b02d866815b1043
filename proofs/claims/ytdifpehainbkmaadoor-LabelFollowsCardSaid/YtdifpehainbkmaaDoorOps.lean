/- Layer of the seat YtdifpehainbkmaaDoor: what can be read as data of each struct type (ok, op); the pure statement of each law: over numbers and lists alone. Written by a program of this session (wip/gen/rowgen.py). -/
import Derived.Test.YtdifpehainbkmaaDoorPAllx
import Derived.Test.YtdifpehainbkmaaDoorOpening
namespace Go.Proofs.YtdifpehainbkmaaDoor.PAll
open Go.RowKit Go.Proofs.YtdifpehainbkmaaDoorW.PrintWords Go.Proofs.YtdifpehainbkmaaDoorW.PrintLast Go.Proofs.YtdifpehainbkmaaDoor.Opening

/-- THE ONE PURE STATEMENT of packhorselaw01_LabelTells. -/
def packhorselaw01_LabelTells.PureQ : Prop := ∀ (a0 : ByteArray) (a1 : Int), a0.size ≤ 140737488351232 → (Lit.int .i64 a1).wf = true → ∃ k, packhorselaw01_LabelTells.f k a0 a1 = some true

/-- THE ONE PURE STATEMENT of packhorselaw01_LabelFollows. -/
def packhorselaw01_LabelFollows.PureQ : Prop := ∀ (a0 : ByteArray) (a1 : Int), a0.size ≤ 140737488351232 → (Lit.int .i64 a1).wf = true → ∃ k, packhorselaw01_LabelFollows.f k a0 a1 = some true

/-- THE ONE PURE STATEMENT of packhorselaw01_LabelOrders. -/
def packhorselaw01_LabelOrders.PureQ : Prop := ∀ (a0 : ByteArray) (a1 : ByteArray) (a2 : ByteArray), a0.size ≤ 140737488351232 → a1.size ≤ 140737488351232 → a2.size ≤ 140737488351232 → ∃ k, packhorselaw01_LabelOrders.f k a0 a1 a2 = some true

end Go.Proofs.YtdifpehainbkmaaDoor.PAll
