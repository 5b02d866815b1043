
import Derived.Lib.TrimU
import Derived.Lib.ValidLaws
import Derived.Laws.RangeAny
set_option linter.unusedVariables false
namespace Go.Proofs.YtapfpdjcbeiibaaDoor.Lab
open Go.Lib
def letter (c : Nat) : Bool := (decide (97 ≤ c) && decide (c ≤ 122)) || (decide (945 ≤ c) && decide (c ≤ 969))
def behind (c : Nat) : Bool := (decide (48 ≤ c) && decide (c ≤ 57)) || decide (c = 45)
def scan (s : ByteArray) : Nat → Nat → Nat → Int
  | 0, _, n => n
  | g + 1, pos, n => if pos < s.size then (if letter (Utf8.decode s pos).1 || (decide (0 < n) && behind (Utf8.decode s pos).1) then scan s g (pos + (Utf8.decode s pos).2) (n + 1) else -1) else n
def signs (s : ByteArray) : Int := if scan s s.size 0 0 ≤ 0 ∨ 16 < scan s s.size 0 0 ∨ validD s.data.toList = false then -1 else scan s s.size 0 0
theorem scan_step (s : ByteArray) (g pos n : Nat) (h : pos < s.size) : scan s (g + 1) pos n = if letter (Utf8.decode s pos).1 || (decide (0 < n) && behind (Utf8.decode s pos).1) then scan s g (pos + (Utf8.decode s pos).2) (n + 1) else -1 := by
  rw [scan, if_pos h]
theorem scan_end (s : ByteArray) (g pos n : Nat) (h : ¬ pos < s.size) : scan s g pos n = n := by
  cases g with
  | zero => rfl
  | succ g => rw [scan, if_neg h]
theorem scan_le (s : ByteArray) : ∀ (g pos n : Nat), -1 ≤ scan s g pos n ∧ scan s g pos n ≤ (n : Int) + g := by
  intro g
  induction g with
  | zero => intro pos n; rw [scan]; omega
  | succ g ih =>
    intro pos n
    rw [scan]
    split
    · split
      · have := ih (pos + (Utf8.decode s pos).2) (n + 1); omega
      · omega
    · omega
end Go.Proofs.YtapfpdjcbeiibaaDoor.Lab
