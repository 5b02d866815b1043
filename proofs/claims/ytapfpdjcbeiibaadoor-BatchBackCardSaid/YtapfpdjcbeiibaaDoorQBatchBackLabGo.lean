
import Derived.Test.YtapfpdjcbeiibaaDoorQBatchBackOps
import Derived.Test.YtapfpdjcbeiibaaDoorQBatchBackLab
namespace Go.Proofs.YtapfpdjcbeiibaaDoor.Pure
open Go.RowKit Go.Proofs.YtapfpdjcbeiibaaDoor Go.Proofs.YtapfpdjcbeiibaaDoor.PAll Go.Proofs.YtapfpdjcbeiibaaDoorW.PrintWords Go.Proofs.YtapfpdjcbeiibaaDoorW.PrintLast Go.Proofs.YtapfpdjcbeiibaaDoorW.PrintMore
theorem w64 {x : Int} (h0 : -9223372036854775808 ≤ x) (h1 : x ≤ 9223372036854775807) : wrap64 x = x := by
  unfold wrap64; omega
theorem Ev.bindc {α β : Type} {o : Option α} {f : Nat → α → Option β} {a : α} {r : β} (h : o = some a) (k : Ev (fun n => f n a) r) : Ev (fun n => o.bind (f n)) r := by
  subst h; exact k
theorem Ev.ifp {α : Type} {c : Prop} [Decidable c] {f g : Nat → Option α} {r : α} (h : c) (k : Ev f r) : Ev (fun n => if c then f n else g n) r := by
  have e : (fun n => if c then f n else g n) = f := funext fun n => if_pos h
  rw [e]; exact k
theorem Ev.ifn {α : Type} {c : Prop} [Decidable c] {f g : Nat → Option α} {r : α} (h : ¬c) (k : Ev g r) : Ev (fun n => if c then f n else g n) r := by
  have e : (fun n => if c then f n else g n) = g := funext fun n => if_neg h
  rw [e]; exact k
def lab (s : ByteArray) : Bool := decide (0 < Lab.signs s)
theorem right_eq (s : ByteArray) (h : s.size ≤ 140737488351232) : label_Right.f s = some (lab s) := by
  unfold label_Right.f label_Signs.f
  rw [if_pos h]
  rfl
end Go.Proofs.YtapfpdjcbeiibaaDoor.Pure
