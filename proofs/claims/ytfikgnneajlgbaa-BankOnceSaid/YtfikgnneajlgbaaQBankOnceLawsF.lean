
import Derived.Test.YtfikgnneajlgbaaQBankOncePAllx0
namespace Go.Proofs.Ytfikgnneajlgbaa.PAll
open Go Go.Proofs Go.RowKit
abbrev okAct (x : S28) : Prop := (Lit.int .i64 x.f0).wf = true ∧ (Lit.int .i64 x.f1).wf = true ∧ (Lit.int .i64 x.f2).wf = true ∧ (Lit.int .i64 x.f3).wf = true ∧ x.f4.size ≤ 140737488351232
def packhorselaw20_BankOnce.f (a0 : Int) (l1 : List S28) : Option Bool := if (Lit.int .i64 a0).wf = true ∧ ∀ x ∈ l1, okAct x then some true else none
end Go.Proofs.Ytfikgnneajlgbaa.PAll
