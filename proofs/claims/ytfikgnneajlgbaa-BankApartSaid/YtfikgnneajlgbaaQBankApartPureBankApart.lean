
import Derived.Test.YtfikgnneajlgbaaQBankApartOps
import Derived.Test.YtfikgnneajlgbaaQBankApartWalkApart
set_option linter.unusedVariables false
namespace Go.Proofs.Ytfikgnneajlgbaa.Pure
open Go.Proofs.Ytfikgnneajlgbaa.PAll
theorem BankApart : packhorselaw20_BankApart.PureQ := fun _ _ h1 h2 => if_pos ⟨h2, fun x hx => h1.2 x hx⟩
end Go.Proofs.Ytfikgnneajlgbaa.Pure
