
import Derived.Test.YtalcopjlofbfaaaDoorQLinesNamesPAllx
import Derived.Test.YtalcopjlofbfaaaDoorQLinesNamesOpening
namespace Go.Proofs.YtalcopjlofbfaaaDoor.PAll
open Go.RowKit Go.Proofs.YtalcopjlofbfaaaDoorW.PrintWords Go.Proofs.YtalcopjlofbfaaaDoorW.PrintLast Go.Proofs.YtalcopjlofbfaaaDoor.Opening
def ok37 (x : S37) : Prop := x.f0.size ≤ 140737488351232 ∧ (Lit.int .i64 x.f1).wf = true ∧ (Lit.int .i64 x.f2).wf = true
theorem op37 : Opens Tryd.prog 37 k37 ok37 := (opens_struct (g := fun p => ⟨p.1, p.2.1, p.2.2⟩) Tryd.underlying37 (by kernel_rfl) (fun _ => rfl) (opensF_cons (by kernel_rfl) (opens_string Tryd.underlying9 (by kernel_rfl)) (opensF_cons (by kernel_rfl) (opens_int Tryd.underlying2 (by kernel_rfl)) (opensF_one (by kernel_rfl) (opens_int Tryd.underlying2 (by kernel_rfl)))))).imp (fun _ h => h)
def packhorselaw04_LinesTake.PureQ : Prop := ∀ (l0 : List (S37)) (a1 : ByteArray) (a2 : Int), (l0.length * 32 ≤ 140737488351232 ∧ ∀ x ∈ l0, ok37 x) → a1.size ≤ 140737488351232 → (Lit.int .i64 a2).wf = true → ∃ k, packhorselaw04_LinesTake.f k l0 a1 a2 = some true
def packhorselaw04_LinesNames.PureQ : Prop := ∃ k, packhorselaw04_LinesNames.f k  = some true
def packhorselaw04_LinesBack.PureQ : Prop := ∀ (l0 : List (S37)) (a1 : Int) (a2 : Int), (l0.length * 32 ≤ 140737488351232 ∧ ∀ x ∈ l0, ok37 x) → (Lit.int .i64 a1).wf = true → (Lit.int .i64 a2).wf = true → ∃ k, packhorselaw04_LinesBack.f k l0 a1 a2 = some true
def packhorselaw04_LinesWeigh.PureQ : Prop := ∀ (l0 : List (S37)), (l0.length * 32 ≤ 140737488351232 ∧ ∀ x ∈ l0, ok37 x) → ∃ k, packhorselaw04_LinesWeigh.f k l0 = some true
end Go.Proofs.YtalcopjlofbfaaaDoor.PAll
