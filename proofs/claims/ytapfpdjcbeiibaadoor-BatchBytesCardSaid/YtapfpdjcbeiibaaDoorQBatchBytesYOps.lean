
import Derived.Test.YtapfpdjcbeiibaaDoorQBatchBytesPBytx
import Derived.Test.YtapfpdjcbeiibaaDoorQBatchBytesOpening
namespace Go.Proofs.YtapfpdjcbeiibaaDoor.PByt
open Go.RowKit Go.Proofs.YtapfpdjcbeiibaaDoorW.PrintWords Go.Proofs.YtapfpdjcbeiibaaDoorW.PrintLast Go.Proofs.YtapfpdjcbeiibaaDoor.Opening
def packhorselaw11_BatchBytes.PureQ : Prop := ∀ (a0_0 : Int) (a0_1 : Int) (a0_2 : Int) (a0_3 : Int) (a0_4 : Int) (a0_5 : ByteArray) (a0_6 : ByteArray) (a0_7 : ByteArray) (l0_8 : List ByteArray) (l1 : List Int), (Lit.int .i64 a0_0).wf = true → (Lit.int .i64 a0_1).wf = true → (Lit.int .i64 a0_2).wf = true → (Lit.int .i64 a0_3).wf = true → (Lit.int .i64 a0_4).wf = true → a0_5.size ≤ 140737488351232 → a0_6.size ≤ 140737488351232 → a0_7.size ≤ 140737488351232 → (l0_8.length * 16 ≤ 140737488351232 ∧ ∀ x ∈ l0_8, x.size ≤ 140737488351232) → (l1.length * 1 ≤ 140737488351232 ∧ ∀ x ∈ l1, (Lit.int .u8 x).wf = true) → ∃ k, packhorselaw11_BatchBytes.f k a0_0 a0_1 a0_2 a0_3 a0_4 a0_5 a0_6 a0_7 l0_8 l1 = some true
end Go.Proofs.YtapfpdjcbeiibaaDoor.PByt
