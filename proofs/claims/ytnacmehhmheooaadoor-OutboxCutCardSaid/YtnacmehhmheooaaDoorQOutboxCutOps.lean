
import Derived.Test.YtnacmehhmheooaaDoorQOutboxCutPAllx
import Derived.Test.YtnacmehhmheooaaDoorQOutboxCutOpening
namespace Go.Proofs.YtnacmehhmheooaaDoor.PAll
open Go.RowKit Go.Proofs.YtnacmehhmheooaaDoorW.PrintWords Go.Proofs.YtnacmehhmheooaaDoorW.PrintLast Go.Proofs.YtnacmehhmheooaaDoor.Opening
def ok27 (x : S27) : Prop := (Lit.int .i64 x.f0).wf = true ∧ (Lit.int .i64 x.f1).wf = true ∧ (Lit.int .i64 x.f2).wf = true ∧ (Lit.int .i64 x.f3).wf = true ∧ (Lit.int .i64 x.f4).wf = true ∧ x.f5.size ≤ 140737488351232
theorem op27 : Opens Tryd.prog 27 k27 ok27 := (opens_struct (g := fun p => ⟨p.1, p.2.1, p.2.2.1, p.2.2.2.1, p.2.2.2.2.1, p.2.2.2.2.2⟩) Tryd.underlying27 (by kernel_rfl) (fun _ => rfl) (opensF_cons (by kernel_rfl) (opens_int Tryd.underlying2 (by kernel_rfl)) (opensF_cons (by kernel_rfl) (opens_int Tryd.underlying2 (by kernel_rfl)) (opensF_cons (by kernel_rfl) (opens_int Tryd.underlying2 (by kernel_rfl)) (opensF_cons (by kernel_rfl) (opens_int Tryd.underlying3 (by kernel_rfl)) (opensF_cons (by kernel_rfl) (opens_int Tryd.underlying3 (by kernel_rfl)) (opensF_one (by kernel_rfl) (opens_string Tryd.underlying9 (by kernel_rfl))))))))).imp (fun _ h => h)
def packhorselaw13_OutboxCut.PureQ : Prop := ∀ (l0 : List (S27)) (a1 : Int) (a2 : Int), (l0.length * 56 ≤ 140737488351232 ∧ ∀ x ∈ l0, ok27 x) → (Lit.int .i64 a1).wf = true → (Lit.int .i64 a2).wf = true → ∃ k, packhorselaw13_OutboxCut.f k l0 a1 a2 = some true
end Go.Proofs.YtnacmehhmheooaaDoor.PAll
