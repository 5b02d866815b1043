/- Layer 01 (label), LabelNames: the error and the limit have their numbers; the ends. The one condition is 'laid' (the two tables of unicode/utf8, tied). -/
import Derived.Test.YtdifpehainbkmaaDoorOps
namespace Go.Proofs.YtdifpehainbkmaaDoor.Pure
open Go.RowKit Go.Proofs.YtdifpehainbkmaaDoor Go.Proofs.YtdifpehainbkmaaDoor.PAll
theorem LabelNames : packhorselaw01_LabelNames.PureQ := ⟨20, by decide +kernel⟩
end Go.Proofs.YtdifpehainbkmaaDoor.Pure
