
import Derived.Test.YtfikgnneajlgbaaQBankApartLawsF
import Derived.Test.YtfikgnneajlgbaaQBankApartPAllx
import Derived.Test.YtfikgnneajlgbaaQBankApartOpening
namespace Go.Proofs.Ytfikgnneajlgbaa.PAll
open Go.RowKit Go.Proofs.YtfikgnneajlgbaaW.PrintWords Go.Proofs.YtfikgnneajlgbaaW.PrintLast Go.Proofs.Ytfikgnneajlgbaa.Opening
def ok28 (x : S28) : Prop := (Lit.int .i64 x.f0).wf = true ∧ (Lit.int .i64 x.f1).wf = true ∧ (Lit.int .i64 x.f2).wf = true ∧ (Lit.int .i64 x.f3).wf = true ∧ x.f4.size ≤ 140737488351232
theorem op28 : Opens Try.prog 28 k28 ok28 := (opens_struct (g := fun p => ⟨p.1, p.2.1, p.2.2.1, p.2.2.2.1, p.2.2.2.2⟩) Try.underlying28 (by kernel_rfl) (fun _ => rfl) (opensF_cons (by kernel_rfl) (opens_int Try.underlying3 (by kernel_rfl)) (opensF_cons (by kernel_rfl) (opens_int Try.underlying3 (by kernel_rfl)) (opensF_cons (by kernel_rfl) (opens_int Try.underlying2 (by kernel_rfl)) (opensF_cons (by kernel_rfl) (opens_int Try.underlying2 (by kernel_rfl)) (opensF_one (by kernel_rfl) (opens_string Try.underlying9 (by kernel_rfl)))))))).imp (fun _ h => h)
def packhorselaw20_BankApart.PureQ : Prop := ∀ (l0 : List (S28)) (a1 : Int), (l0.length * 48 ≤ 140737488351232 ∧ ∀ x ∈ l0, ok28 x) → (Lit.int .i64 a1).wf = true → packhorselaw20_BankApart.f l0 a1 = some true
end Go.Proofs.Ytfikgnneajlgbaa.PAll
