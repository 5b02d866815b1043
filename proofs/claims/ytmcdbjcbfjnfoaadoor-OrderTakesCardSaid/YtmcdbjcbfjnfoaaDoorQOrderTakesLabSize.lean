
import Derived.Test.YtmcdbjcbfjnfoaaDoorQOrderTakesLabGo
namespace Go.Proofs.YtmcdbjcbfjnfoaaDoor.Pure
open Go.Lib
theorem scan_size (s : ByteArray) : ∀ (g pos n : Nat), s.size ≤ pos + g → 0 ≤ Lab.scan s g pos n → (s.size : Int) + 2 * n ≤ (pos : Int) + 2 * Lab.scan s g pos n := by
  intro g
  induction g with
  | zero => intro pos n h _; rw [Lab.scan]; omega
  | succ g ih =>
    intro pos n h hr
    by_cases hp : pos < s.size
    · rw [Lab.scan_step s g pos n hp] at hr ⊢
      obtain ⟨e1, e2, e3⟩ := Lab.decode_sign s pos hp
      by_cases hb : (Lab.letter (Utf8.decode s pos).1 || (decide (0 < n) && Lab.behind (Utf8.decode s pos).1)) = true
      · rw [if_pos hb] at hr ⊢
        have h0 : 0 < (Lab.sign s pos).1 := by
          rw [e1, e2] at hb
          by_cases c : 0 < (Lab.sign s pos).1
          · exact c
          · simp [c] at hb
        obtain ⟨k1, _, _⟩ := e3 h0
        have h2 : (Lab.sign s pos).1 ≤ 2 := by
          rcases Lab.sign_cases s pos with c | c | c | c <;> rw [c] <;> decide
        have := ih (pos + (Utf8.decode s pos).2) (n + 1) (by omega) hr
        omega
      · rw [if_neg hb] at hr; omega
    · rw [Lab.scan_end s _ pos n hp]; omega
theorem lab_size (s : ByteArray) (h : lab s = true) : s.size ≤ 32 := by
  have h1 : 0 < Lab.signs s := of_decide_eq_true h
  rw [Lab.signs_eq] at h1
  by_cases c : 1 ≤ Lab.scan s s.size 0 0 ∧ Lab.scan s s.size 0 0 ≤ 16
  · have := scan_size s s.size 0 0 (by omega) (by omega)
    omega
  · rw [if_neg c] at h1; omega
end Go.Proofs.YtmcdbjcbfjnfoaaDoor.Pure
