/- Layer of the seat YtapfpdjcbeiibaaDoor: what can be read as data of each struct type (ok, op); the pure statement of each law: over numbers and lists alone. Written by a program of this session (wip/gen/rowgen.py). -/
import Derived.Test.YtapfpdjcbeiibaaDoorPAllx
import Derived.Test.YtapfpdjcbeiibaaDoorOpening
namespace Go.Proofs.YtapfpdjcbeiibaaDoor.PAll
open Go.RowKit Go.Proofs.YtapfpdjcbeiibaaDoorW.PrintWords Go.Proofs.YtapfpdjcbeiibaaDoorW.PrintLast Go.Proofs.YtapfpdjcbeiibaaDoor.Opening

def ok34 (x : S34) : Prop := (Lit.int .i64 x.f0).wf = true ∧ x.f1.size ≤ 140737488351232 ∧ (Lit.int .i64 x.f2).wf = true
theorem op34 : Opens Tryd.prog 34 k34 ok34 := (opens_struct (g := fun p => ⟨p.1, p.2.1, p.2.2⟩) Tryd.underlying34 (by kernel_rfl) (fun _ => rfl) (opensF_cons (by kernel_rfl) (opens_int Tryd.underlying3 (by kernel_rfl)) (opensF_cons (by kernel_rfl) (opens_string Tryd.underlying9 (by kernel_rfl)) (opensF_one (by kernel_rfl) (opens_int Tryd.underlying2 (by kernel_rfl)))))).imp (fun _ h => h)

/-- THE ONE PURE STATEMENT of packhorselaw11_BatchLimits. -/
def packhorselaw11_BatchLimits.PureQ : Prop := ∀ (a0_0 : Int) (a0_1 : Int) (l1 : List (S34)) (a2 : Int), (Lit.int .i64 a0_0).wf = true → (Lit.int .i64 a0_1).wf = true → (l1.length * 32 ≤ 140737488351232 ∧ ∀ x ∈ l1, ok34 x) → (Lit.int .i64 a2).wf = true → ∃ k, packhorselaw11_BatchLimits.f k a0_0 a0_1 l1 a2 = some true

end Go.Proofs.YtapfpdjcbeiibaaDoor.PAll
