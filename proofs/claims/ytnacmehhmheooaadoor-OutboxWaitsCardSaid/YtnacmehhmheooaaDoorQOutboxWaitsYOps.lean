
import Derived.Test.YtnacmehhmheooaaDoorQOutboxWaitsPAllx3
import Derived.Test.YtnacmehhmheooaaDoorQOutboxWaitsOpening
namespace Go.Proofs.YtnacmehhmheooaaDoor.PAll
open Go.RowKit Go.Proofs.YtnacmehhmheooaaDoorW.PrintWords Go.Proofs.YtnacmehhmheooaaDoorW.PrintLast Go.Proofs.YtnacmehhmheooaaDoor.Opening
def packhorselaw13_OutboxWaits.PureQ : Prop := ∀ (a0_0 : Int) (a0_1 : Int) (a0_2 : Int) (a0_3 : Int) (a0_4 : Int) (a0_5 : ByteArray) (a1 : Int), (Lit.int .i64 a0_0).wf = true → (Lit.int .i64 a0_1).wf = true → (Lit.int .i64 a0_2).wf = true → (Lit.int .i64 a0_3).wf = true → (Lit.int .i64 a0_4).wf = true → a0_5.size ≤ 140737488351232 → (Lit.int .i64 a1).wf = true → ∃ k, packhorselaw13_OutboxWaits.f k a0_0 a0_1 a0_2 a0_3 a0_4 a0_5 a1 = some true
end Go.Proofs.YtnacmehhmheooaaDoor.PAll
