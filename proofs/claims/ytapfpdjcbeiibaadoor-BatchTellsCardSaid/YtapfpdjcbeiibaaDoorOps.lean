/- Layer of the seat YtapfpdjcbeiibaaDoor: what can be read as data of each struct type (ok, op); the pure statement of each law: over numbers and lists alone. Written by a program of this session (wip/gen/rowgen.py). -/
import Derived.Test.YtapfpdjcbeiibaaDoorPAllx
import Derived.Test.YtapfpdjcbeiibaaDoorOpening
namespace Go.Proofs.YtapfpdjcbeiibaaDoor.PAll
open Go.RowKit Go.Proofs.YtapfpdjcbeiibaaDoorW.PrintWords Go.Proofs.YtapfpdjcbeiibaaDoorW.PrintLast Go.Proofs.YtapfpdjcbeiibaaDoor.Opening

/-- THE ONE PURE STATEMENT of packhorselaw11_BatchTells. -/
def packhorselaw11_BatchTells.PureQ : Prop := ∀ (a0_0 : Int) (a0_1 : Int) (a0_2 : Int) (a0_3 : Int) (a0_4 : Int) (a0_5 : ByteArray) (a0_6 : ByteArray) (a0_7 : ByteArray) (l0_8 : List ByteArray) (a1_0 : Int) (a1_1 : Int) (a1_2 : Int) (a1_3 : Int) (a1_4 : Int) (a1_5 : ByteArray) (a1_6 : ByteArray) (a1_7 : ByteArray) (l1_8 : List ByteArray) (a2_0 : Int) (a2_1 : Int), (Lit.int .i64 a0_0).wf = true → (Lit.int .i64 a0_1).wf = true → (Lit.int .i64 a0_2).wf = true → (Lit.int .i64 a0_3).wf = true → (Lit.int .i64 a0_4).wf = true → a0_5.size ≤ 140737488351232 → a0_6.size ≤ 140737488351232 → a0_7.size ≤ 140737488351232 → (l0_8.length * 16 ≤ 140737488351232 ∧ ∀ x ∈ l0_8, x.size ≤ 140737488351232) → (Lit.int .i64 a1_0).wf = true → (Lit.int .i64 a1_1).wf = true → (Lit.int .i64 a1_2).wf = true → (Lit.int .i64 a1_3).wf = true → (Lit.int .i64 a1_4).wf = true → a1_5.size ≤ 140737488351232 → a1_6.size ≤ 140737488351232 → a1_7.size ≤ 140737488351232 → (l1_8.length * 16 ≤ 140737488351232 ∧ ∀ x ∈ l1_8, x.size ≤ 140737488351232) → (Lit.int .i64 a2_0).wf = true → (Lit.int .i64 a2_1).wf = true → ∃ k, packhorselaw11_BatchTells.f k a0_0 a0_1 a0_2 a0_3 a0_4 a0_5 a0_6 a0_7 l0_8 a1_0 a1_1 a1_2 a1_3 a1_4 a1_5 a1_6 a1_7 l1_8 a2_0 a2_1 = some true

end Go.Proofs.YtapfpdjcbeiibaaDoor.PAll
