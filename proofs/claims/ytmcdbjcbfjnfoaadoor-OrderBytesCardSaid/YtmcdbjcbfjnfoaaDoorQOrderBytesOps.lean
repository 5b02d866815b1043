
import Derived.Test.YtmcdbjcbfjnfoaaDoorQOrderBytesPAllx0
import Derived.Test.YtmcdbjcbfjnfoaaDoorQOrderBytesPAllx1
import Derived.Test.YtmcdbjcbfjnfoaaDoorQOrderBytesPAllx2
import Derived.Test.YtmcdbjcbfjnfoaaDoorQOrderBytesPAllx3
import Derived.Test.YtmcdbjcbfjnfoaaDoorQOrderBytesPAllx4
import Derived.Test.YtmcdbjcbfjnfoaaDoorQOrderBytesPAllx5
import Derived.Test.YtmcdbjcbfjnfoaaDoorQOrderBytesPAllx6
import Derived.Test.YtmcdbjcbfjnfoaaDoorQOrderBytesPAllx7
import Derived.Test.YtmcdbjcbfjnfoaaDoorQOrderBytesPAllx8
import Derived.Test.YtmcdbjcbfjnfoaaDoorQOrderBytesPAllx9
import Derived.Test.YtmcdbjcbfjnfoaaDoorQOrderBytesPAllx11
import Derived.Test.YtmcdbjcbfjnfoaaDoorQOrderBytesOpening
namespace Go.Proofs.YtmcdbjcbfjnfoaaDoor.PAll
open Go.RowKit Go.Proofs.YtmcdbjcbfjnfoaaDoorW.PrintWords Go.Proofs.YtmcdbjcbfjnfoaaDoorW.PrintLast Go.Proofs.YtmcdbjcbfjnfoaaDoor.Opening
def ok52 (x : S52) : Prop := x.f0.size ≤ 140737488351232 ∧ (Lit.int .i64 x.f1).wf = true ∧ (Lit.int .i64 x.f2).wf = true
theorem op52 : Opens Tryd.prog 52 k52 ok52 := (opens_struct (g := fun p => ⟨p.1, p.2.1, p.2.2⟩) Tryd.underlying52 (by kernel_rfl) (fun _ => rfl) (opensF_cons (by kernel_rfl) (opens_string Tryd.underlying9 (by kernel_rfl)) (opensF_cons (by kernel_rfl) (opens_int Tryd.underlying2 (by kernel_rfl)) (opensF_one (by kernel_rfl) (opens_int Tryd.underlying2 (by kernel_rfl)))))).imp (fun _ h => h)
def packhorselaw10_OrderApart.PureQ : Prop := ∀ (a0_0 : ByteArray) (l0_1 : List (S52)) (a0_2 : ByteArray) (a0_3 : ByteArray) (a0_4 : ByteArray) (a0_5 : Int) (a0_6 : Int) (a0_7 : Bool) (a0_8 : Int) (a0_9 : Int) (a1_0 : ByteArray) (l1_1 : List (S52)) (a1_2 : ByteArray) (a1_3 : ByteArray) (a1_4 : ByteArray) (a1_5 : Int) (a1_6 : Int) (a1_7 : Bool) (a1_8 : Int) (a1_9 : Int), a0_0.size ≤ 140737488351232 → (l0_1.length * 32 ≤ 140737488351232 ∧ ∀ x ∈ l0_1, ok52 x) → a0_2.size ≤ 140737488351232 → a0_3.size ≤ 140737488351232 → a0_4.size ≤ 140737488351232 → (Lit.int .i64 a0_5).wf = true → (Lit.int .i64 a0_6).wf = true → (Lit.int .i64 a0_8).wf = true → (Lit.int .i64 a0_9).wf = true → a1_0.size ≤ 140737488351232 → (l1_1.length * 32 ≤ 140737488351232 ∧ ∀ x ∈ l1_1, ok52 x) → a1_2.size ≤ 140737488351232 → a1_3.size ≤ 140737488351232 → a1_4.size ≤ 140737488351232 → (Lit.int .i64 a1_5).wf = true → (Lit.int .i64 a1_6).wf = true → (Lit.int .i64 a1_8).wf = true → (Lit.int .i64 a1_9).wf = true → ∃ k, packhorselaw10_OrderApart.f k a0_0 l0_1 a0_2 a0_3 a0_4 a0_5 a0_6 a0_7 a0_8 a0_9 a1_0 l1_1 a1_2 a1_3 a1_4 a1_5 a1_6 a1_7 a1_8 a1_9 = some true
def packhorselaw10_OrderBytes.PureQ : Prop := ∀ (a0_0 : ByteArray) (l0_1 : List (S52)) (a0_2 : ByteArray) (a0_3 : ByteArray) (a0_4 : ByteArray) (a0_5 : Int) (a0_6 : Int) (a0_7 : Bool) (a0_8 : Int) (a0_9 : Int) (l1 : List Int), a0_0.size ≤ 140737488351232 → (l0_1.length * 32 ≤ 140737488351232 ∧ ∀ x ∈ l0_1, ok52 x) → a0_2.size ≤ 140737488351232 → a0_3.size ≤ 140737488351232 → a0_4.size ≤ 140737488351232 → (Lit.int .i64 a0_5).wf = true → (Lit.int .i64 a0_6).wf = true → (Lit.int .i64 a0_8).wf = true → (Lit.int .i64 a0_9).wf = true → (l1.length * 1 ≤ 140737488351232 ∧ ∀ x ∈ l1, (Lit.int .u8 x).wf = true) → ∃ k, packhorselaw10_OrderBytes.f k a0_0 l0_1 a0_2 a0_3 a0_4 a0_5 a0_6 a0_7 a0_8 a0_9 l1 = some true
def packhorselaw10_OrderCut.PureQ : Prop := ∀ (a0_0 : ByteArray) (l0_1 : List (S52)) (a0_2 : ByteArray) (a0_3 : ByteArray) (a0_4 : ByteArray) (a0_5 : Int) (a0_6 : Int) (a0_7 : Bool) (a0_8 : Int) (a0_9 : Int) (a1 : Int), a0_0.size ≤ 140737488351232 → (l0_1.length * 32 ≤ 140737488351232 ∧ ∀ x ∈ l0_1, ok52 x) → a0_2.size ≤ 140737488351232 → a0_3.size ≤ 140737488351232 → a0_4.size ≤ 140737488351232 → (Lit.int .i64 a0_5).wf = true → (Lit.int .i64 a0_6).wf = true → (Lit.int .i64 a0_8).wf = true → (Lit.int .i64 a0_9).wf = true → (Lit.int .i64 a1).wf = true → ∃ k, packhorselaw10_OrderCut.f k a0_0 l0_1 a0_2 a0_3 a0_4 a0_5 a0_6 a0_7 a0_8 a0_9 a1 = some true
end Go.Proofs.YtmcdbjcbfjnfoaaDoor.PAll
