
import Derived.Test.YtalcopjlofbfaaaDoorQLinesMergePAllx
import Derived.Test.YtalcopjlofbfaaaDoorQLinesMergeOpening
namespace Go.Proofs.YtalcopjlofbfaaaDoor.PAll
open Go.RowKit Go.Proofs.YtalcopjlofbfaaaDoorW.PrintWords Go.Proofs.YtalcopjlofbfaaaDoorW.PrintLast Go.Proofs.YtalcopjlofbfaaaDoor.Opening
def ok37 (x : S37) : Prop := x.f0.size ≤ 140737488351232 ∧ (Lit.int .i64 x.f1).wf = true ∧ (Lit.int .i64 x.f2).wf = true
theorem op37 : Opens Tryd.prog 37 k37 ok37 := (opens_struct (g := fun p => ⟨p.1, p.2.1, p.2.2⟩) Tryd.underlying37 (by kernel_rfl) (fun _ => rfl) (opensF_cons (by kernel_rfl) (opens_string Tryd.underlying9 (by kernel_rfl)) (opensF_cons (by kernel_rfl) (opens_int Tryd.underlying2 (by kernel_rfl)) (opensF_one (by kernel_rfl) (opens_int Tryd.underlying2 (by kernel_rfl)))))).imp (fun _ h => h)
def packhorselaw04_LinesMerge.PureQ : Prop := ∀ (l0 : List (S37)), (l0.length * 32 ≤ 140737488351232 ∧ ∀ x ∈ l0, ok37 x) → ∃ k, packhorselaw04_LinesMerge.f k l0 = some true
def packhorselaw04_LinesMerged.PureQ : Prop := ∀ (l0 : List (S37)) (a1 : Int), (l0.length * 32 ≤ 140737488351232 ∧ ∀ x ∈ l0, ok37 x) → (Lit.int .i64 a1).wf = true → ∃ k, packhorselaw04_LinesMerged.f k l0 a1 = some true
end Go.Proofs.YtalcopjlofbfaaaDoor.PAll
