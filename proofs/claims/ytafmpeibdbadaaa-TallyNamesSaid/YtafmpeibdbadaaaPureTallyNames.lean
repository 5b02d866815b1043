/- Layer 2 (tally), TallyNames: for every input, the error and the limit have their numbers. No condition. -/
import Derived.Test.YtafmpeibdbadaaaLib
namespace Go.Proofs.Ytafmpeibdbadaaa.Pure
open Go.RowKit Go.Proofs.Ytafmpeibdbadaaa.PAll Go.Proofs.YtafmpeibdbadaaaW.PrintWords Go.Proofs.YtafmpeibdbadaaaW.PrintLast

theorem TallyNames : packhorselaw02_TallyNames.Pure := ⟨20, by decide +kernel⟩

end Go.Proofs.Ytafmpeibdbadaaa.Pure
