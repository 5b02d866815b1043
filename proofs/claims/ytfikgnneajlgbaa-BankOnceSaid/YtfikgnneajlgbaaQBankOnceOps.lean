
import Derived.Test.YtfikgnneajlgbaaQBankOnceLawsF
import Derived.Test.YtfikgnneajlgbaaQBankOncePAllx
import Derived.Test.YtfikgnneajlgbaaQBankOnceOpening
namespace Go.Proofs.Ytfikgnneajlgbaa.PAll
open Go.RowKit Go.Proofs.YtfikgnneajlgbaaW.PrintWords Go.Proofs.YtfikgnneajlgbaaW.PrintLast Go.Proofs.Ytfikgnneajlgbaa.Opening
def ok28 (x : S28) : Prop := (Lit.int .i64 x.f0).wf = true ∧ (Lit.int .i64 x.f1).wf = true ∧ (Lit.int .i64 x.f2).wf = true ∧ (Lit.int .i64 x.f3).wf = true ∧ x.f4.size ≤ 140737488351232
theorem op28 : Opens Try.prog 28 k28 ok28 := (opens_struct (g := fun p => ⟨p.1, p.2.1, p.2.2.1, p.2.2.2.1, p.2.2.2.2⟩) Try.underlying28 (by kernel_rfl) (fun _ => rfl) (opensF_cons (by kernel_rfl) (opens_int Try.underlying3 (by kernel_rfl)) (opensF_cons (by kernel_rfl) (opens_int Try.underlying3 (by kernel_rfl)) (opensF_cons (by kernel_rfl) (opens_int Try.underlying2 (by kernel_rfl)) (opensF_cons (by kernel_rfl) (opens_int Try.underlying2 (by kernel_rfl)) (opensF_one (by kernel_rfl) (opens_string Try.underlying9 (by kernel_rfl)))))))).imp (fun _ h => h)
def packhorselaw20_BankOnce.PureQ : Prop := ∀ (a0 : Int) (l1 : List (S28)), (Lit.int .i64 a0).wf = true → (l1.length * 48 ≤ 140737488351232 ∧ ∀ x ∈ l1, ok28 x) → packhorselaw20_BankOnce.f a0 l1 = some true
end Go.Proofs.Ytfikgnneajlgbaa.PAll
