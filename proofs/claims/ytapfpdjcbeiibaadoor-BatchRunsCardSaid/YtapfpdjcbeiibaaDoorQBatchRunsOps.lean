
import Derived.Test.YtapfpdjcbeiibaaDoorQBatchRunsPAllx
import Derived.Test.YtapfpdjcbeiibaaDoorQBatchRunsOpening
namespace Go.Proofs.YtapfpdjcbeiibaaDoor.PAll
open Go.RowKit Go.Proofs.YtapfpdjcbeiibaaDoorW.PrintWords Go.Proofs.YtapfpdjcbeiibaaDoorW.PrintLast Go.Proofs.YtapfpdjcbeiibaaDoor.Opening
def ok34 (x : S34) : Prop := (Lit.int .i64 x.f0).wf = true ∧ x.f1.size ≤ 140737488351232 ∧ (Lit.int .i64 x.f2).wf = true
theorem op34 : Opens Tryd.prog 34 k34 ok34 := (opens_struct (g := fun p => ⟨p.1, p.2.1, p.2.2⟩) Tryd.underlying34 (by kernel_rfl) (fun _ => rfl) (opensF_cons (by kernel_rfl) (opens_int Tryd.underlying3 (by kernel_rfl)) (opensF_cons (by kernel_rfl) (opens_string Tryd.underlying9 (by kernel_rfl)) (opensF_one (by kernel_rfl) (opens_int Tryd.underlying2 (by kernel_rfl)))))).imp (fun _ h => h)
def packhorselaw11_BatchRuns.PureQ : Prop := ∀ (a0_0 : Int) (a0_1 : Int) (a0_2 : Int) (a0_3 : Int) (a0_4 : Int) (a0_5 : ByteArray) (a0_6 : ByteArray) (a0_7 : ByteArray) (l0_8 : List ByteArray) (a1_0 : Int) (a1_1 : Int) (l2 : List (S34)), (Lit.int .i64 a0_0).wf = true → (Lit.int .i64 a0_1).wf = true → (Lit.int .i64 a0_2).wf = true → (Lit.int .i64 a0_3).wf = true → (Lit.int .i64 a0_4).wf = true → a0_5.size ≤ 140737488351232 → a0_6.size ≤ 140737488351232 → a0_7.size ≤ 140737488351232 → (l0_8.length * 16 ≤ 140737488351232 ∧ ∀ x ∈ l0_8, x.size ≤ 140737488351232) → (Lit.int .i64 a1_0).wf = true → (Lit.int .i64 a1_1).wf = true → (l2.length * 32 ≤ 140737488351232 ∧ ∀ x ∈ l2, ok34 x) → ∃ k, packhorselaw11_BatchRuns.f k a0_0 a0_1 a0_2 a0_3 a0_4 a0_5 a0_6 a0_7 l0_8 a1_0 a1_1 l2 = some true
end Go.Proofs.YtapfpdjcbeiibaaDoor.PAll
