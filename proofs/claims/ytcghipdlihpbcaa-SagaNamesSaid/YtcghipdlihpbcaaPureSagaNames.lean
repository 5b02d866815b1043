/- Layer 14 (saga), SagaNames: the errors and the events have their numbers; what is outstanding. No condition. -/
import Derived.Test.YtcghipdlihpbcaaLib
namespace Go.Proofs.Ytcghipdlihpbcaa.Pure
open Go.RowKit Go.Proofs.Ytcghipdlihpbcaa.PAll Go.Proofs.YtcghipdlihpbcaaW.PrintWords
theorem SagaNames : packhorselaw14_SagaNames.PureQ := ⟨60, by decide +kernel⟩
end Go.Proofs.Ytcghipdlihpbcaa.Pure
