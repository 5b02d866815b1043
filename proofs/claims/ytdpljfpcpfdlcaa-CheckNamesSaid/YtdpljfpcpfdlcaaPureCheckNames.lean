/- Layer 5 (check), CheckNames: of nothing it is nothing; the ends. No condition. -/
import Derived.Test.YtdpljfpcpfdlcaaLib
namespace Go.Proofs.Ytdpljfpcpfdlcaa.Pure
open Go.RowKit Go.Proofs.Ytdpljfpcpfdlcaa.PAll Go.Proofs.YtdpljfpcpfdlcaaW.PrintWords
theorem CheckNames : packhorselaw05_CheckNames.PureQ := ⟨60, by decide +kernel⟩
end Go.Proofs.Ytdpljfpcpfdlcaa.Pure
