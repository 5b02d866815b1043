/- Layer of the seat YtdifpehainbkmaaDoor: what can be read as data of each struct type (ok, op); the pure statement of each law: over numbers and lists alone. Written by a program of this session (wip/gen/rowgen.py). -/
import Derived.Test.YtdifpehainbkmaaDoorPAllx
import Derived.Test.YtdifpehainbkmaaDoorOpening
namespace Go.Proofs.YtdifpehainbkmaaDoor.PAll
open Go.RowKit Go.Proofs.YtdifpehainbkmaaDoorW.PrintWords Go.Proofs.YtdifpehainbkmaaDoorW.PrintLast Go.Proofs.YtdifpehainbkmaaDoor.Opening

/-- THE ONE PURE STATEMENT of packhorselaw01_LabelNames. -/
def packhorselaw01_LabelNames.PureQ : Prop := ∃ k, packhorselaw01_LabelNames.f k  = some true

/-- THE ONE PURE STATEMENT of packhorselaw01_LabelSplits. -/
def packhorselaw01_LabelSplits.PureQ : Prop := ∀ (a0 : ByteArray) (l1 : List ByteArray), a0.size ≤ 140737488351232 → (l1.length * 16 ≤ 140737488351232 ∧ ∀ x ∈ l1, x.size ≤ 140737488351232) → ∃ k, packhorselaw01_LabelSplits.f k a0 l1 = some true

/-- THE ONE PURE STATEMENT of packhorselaw01_LabelBytes. -/
def packhorselaw01_LabelBytes.PureQ : Prop := ∀ (a0 : ByteArray) (a1 : ByteArray), a0.size ≤ 140737488351232 → a1.size ≤ 140737488351232 → ∃ k, packhorselaw01_LabelBytes.f k a0 a1 = some true

end Go.Proofs.YtdifpehainbkmaaDoor.PAll
