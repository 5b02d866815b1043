
import Derived.Test.YtmcdbjcbfjnfoaaDoorQOrderTakesOps
import Derived.Test.YtmcdbjcbfjnfoaaDoorQOrderTakesLab
namespace Go.Proofs.YtmcdbjcbfjnfoaaDoor.Pure
open Go.RowKit Go.Proofs.YtmcdbjcbfjnfoaaDoor Go.Proofs.YtmcdbjcbfjnfoaaDoor.PAll Go.Proofs.YtmcdbjcbfjnfoaaDoorW.PrintWords Go.Proofs.YtmcdbjcbfjnfoaaDoorW.PrintLast Go.Proofs.YtmcdbjcbfjnfoaaDoorW.PrintMore
theorem w64 {x : Int} (h0 : -9223372036854775808 ≤ x) (h1 : x ≤ 9223372036854775807) : wrap64 x = x := by
  unfold wrap64; omega
theorem Ev.bindc {α β : Type} {o : Option α} {f : Nat → α → Option β} {a : α} {r : β} (h : o = some a) (k : Ev (fun n => f n a) r) : Ev (fun n => o.bind (f n)) r := by
  subst h; exact k
theorem Ev.ifp {α : Type} {c : Prop} [Decidable c] {f g : Nat → Option α} {r : α} (h : c) (k : Ev f r) : Ev (fun n => if c then f n else g n) r := by
  have e : (fun n => if c then f n else g n) = f := funext fun n => if_pos h
  rw [e]; exact k
theorem Ev.ifn {α : Type} {c : Prop} [Decidable c] {f g : Nat → Option α} {r : α} (h : ¬c) (k : Ev g r) : Ev (fun n => if c then f n else g n) r := by
  have e : (fun n => if c then f n else g n) = g := funext fun n => if_neg h
  rw [e]; exact k
theorem Ev.konst {α : Type} {o : Option α} {r : α} (h : o = some r) : Ev (fun _ => o) r := ⟨0, fun _ _ => h⟩
def lab (s : ByteArray) : Bool := decide (0 < Lab.signs s)
theorem right_eq (s : ByteArray) (h : s.size ≤ 140737488351232) : label_Right.f s = some (lab s) := by
  unfold label_Right.f label_Signs.f
  rw [if_pos h]
  rfl
end Go.Proofs.YtmcdbjcbfjnfoaaDoor.Pure
