
import Derived.Test.YtapfpdjcbeiibaaDoorQBatchBackPAllx
import Derived.Test.YtapfpdjcbeiibaaDoorQBatchBackOpening
namespace Go.Proofs.YtapfpdjcbeiibaaDoor.PAll
open Go.RowKit Go.Proofs.YtapfpdjcbeiibaaDoorW.PrintWords Go.Proofs.YtapfpdjcbeiibaaDoorW.PrintLast Go.Proofs.YtapfpdjcbeiibaaDoor.Opening
def packhorselaw11_BatchBack.PureQ : Prop := ∀ (a0_0 : Int) (a0_1 : Int) (a0_2 : Int) (a0_3 : Int) (a0_4 : Int) (a0_5 : ByteArray) (a0_6 : ByteArray) (a0_7 : ByteArray) (l0_8 : List ByteArray) (a1_0 : Int) (a1_1 : Int) (a2_0 : Int) (a2_1 : ByteArray) (a2_2 : Int) (a2_3 : Int) (a2_4 : ByteArray) (a2_5 : Int), (Lit.int .i64 a0_0).wf = true → (Lit.int .i64 a0_1).wf = true → (Lit.int .i64 a0_2).wf = true → (Lit.int .i64 a0_3).wf = true → (Lit.int .i64 a0_4).wf = true → a0_5.size ≤ 140737488351232 → a0_6.size ≤ 140737488351232 → a0_7.size ≤ 140737488351232 → (l0_8.length * 16 ≤ 140737488351232 ∧ ∀ x ∈ l0_8, x.size ≤ 140737488351232) → (Lit.int .i64 a1_0).wf = true → (Lit.int .i64 a1_1).wf = true → (Lit.int .i64 a2_0).wf = true → a2_1.size ≤ 140737488351232 → (Lit.int .i64 a2_2).wf = true → (Lit.int .i64 a2_3).wf = true → a2_4.size ≤ 140737488351232 → (Lit.int .i64 a2_5).wf = true → ∃ k, packhorselaw11_BatchBack.f k a0_0 a0_1 a0_2 a0_3 a0_4 a0_5 a0_6 a0_7 l0_8 a1_0 a1_1 a2_0 a2_1 a2_2 a2_3 a2_4 a2_5 = some true
end Go.Proofs.YtapfpdjcbeiibaaDoor.PAll
