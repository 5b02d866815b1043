
import Derived.Test.YtfikgnneajlgbaaQBankOnceOps
import Derived.Test.YtfikgnneajlgbaaQBankOnceWalkOnce
set_option linter.unusedVariables false
namespace Go.Proofs.Ytfikgnneajlgbaa.Pure
open Go.Proofs.Ytfikgnneajlgbaa.PAll
theorem BankOnce : packhorselaw20_BankOnce.PureQ := fun _ _ h1 h2 => if_pos ⟨h1, fun x hx => h2.2 x hx⟩
end Go.Proofs.Ytfikgnneajlgbaa.Pure
