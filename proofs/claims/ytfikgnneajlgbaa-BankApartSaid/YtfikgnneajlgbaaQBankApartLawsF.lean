
import Derived.Test.YtfikgnneajlgbaaQBankApartPAllx0
namespace Go.Proofs.Ytfikgnneajlgbaa.PAll
open Go Go.Proofs Go.RowKit
abbrev okAct (x : S28) : Prop := (Lit.int .i64 x.f0).wf = true ∧ (Lit.int .i64 x.f1).wf = true ∧ (Lit.int .i64 x.f2).wf = true ∧ (Lit.int .i64 x.f3).wf = true ∧ x.f4.size ≤ 140737488351232
def packhorselaw20_BankApart.f (l0 : List S28) (a1 : Int) : Option Bool := if (Lit.int .i64 a1).wf = true ∧ ∀ x ∈ l0, okAct x then some true else none
end Go.Proofs.Ytfikgnneajlgbaa.PAll
