/- Layer of the seat Ytcghipdlihpbcaa: what can be read as data of each struct type (ok, op); the pure statement of each law: over numbers and lists alone. Written by a program of this session (wip/gen/rowgen.py). -/
import Derived.Test.YtcghipdlihpbcaaPAllx
import Derived.Test.YtcghipdlihpbcaaOpening
namespace Go.Proofs.Ytcghipdlihpbcaa.PAll
open Go.RowKit Go.Proofs.YtcghipdlihpbcaaW.PrintWords Go.Proofs.YtcghipdlihpbcaaW.PrintLast Go.Proofs.Ytcghipdlihpbcaa.Opening

def ok23 (x : S23) : Prop := (Lit.int .i64 x.f0).wf = true ∧ True ∧ (Lit.int .i64 x.f2).wf = true
theorem op23 : Opens Try.prog 23 k23 ok23 := (opens_struct (g := fun p => ⟨p.1, p.2.1, p.2.2⟩) Try.underlying23 (by kernel_rfl) (fun _ => rfl) (opensF_cons (by kernel_rfl) (opens_int Try.underlying3 (by kernel_rfl)) (opensF_cons (by kernel_rfl) (opens_bool Try.underlying4 (by kernel_rfl)) (opensF_one (by kernel_rfl) (opens_int Try.underlying3 (by kernel_rfl)))))).imp (fun _ h => h)

/-- THE ONE PURE STATEMENT of packhorselaw14_SagaSteps. -/
def packhorselaw14_SagaSteps.PureQ : Prop := ∀ (a0_0 : Int) (a0_1 : Bool) (a0_2 : Int) (a1 : Int) (a2 : Int), (Lit.int .i64 a0_0).wf = true → (Lit.int .i64 a0_2).wf = true → (Lit.int .i64 a1).wf = true → (Lit.int .i64 a2).wf = true → ∃ k, packhorselaw14_SagaSteps.f k a0_0 a0_1 a0_2 a1 a2 = some true

end Go.Proofs.Ytcghipdlihpbcaa.PAll
