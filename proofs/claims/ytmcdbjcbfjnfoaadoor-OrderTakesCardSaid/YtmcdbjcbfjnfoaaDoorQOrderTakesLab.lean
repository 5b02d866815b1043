
import Derived.Lib.TrimU
import Derived.Lib.ValidLaws
import Derived.Laws.RangeAny
set_option linter.unusedVariables false
namespace Go.Proofs.YtmcdbjcbfjnfoaaDoor.Lab
open Go.Lib
def letter (c : Nat) : Bool := (decide (97 ≤ c) && decide (c ≤ 122)) || (decide (945 ≤ c) && decide (c ≤ 969))
def behind (c : Nat) : Bool := (decide (48 ≤ c) && decide (c ≤ 57)) || decide (c = 45)
def scan (s : ByteArray) : Nat → Nat → Nat → Int
  | 0, _, n => n
  | g + 1, pos, n => if pos < s.size then (if letter (Utf8.decode s pos).1 || (decide (0 < n) && behind (Utf8.decode s pos).1) then scan s g (pos + (Utf8.decode s pos).2) (n + 1) else -1) else n
def signs (s : ByteArray) : Int := if scan s s.size 0 0 ≤ 0 ∨ 16 < scan s s.size 0 0 ∨ validD s.data.toList = false then -1 else scan s s.size 0 0
theorem scan_step (s : ByteArray) (g pos n : Nat) (h : pos < s.size) : scan s (g + 1) pos n = if letter (Utf8.decode s pos).1 || (decide (0 < n) && behind (Utf8.decode s pos).1) then scan s g (pos + (Utf8.decode s pos).2) (n + 1) else -1 := by
  rw [scan, if_pos h]
theorem scan_end (s : ByteArray) (g pos n : Nat) (h : ¬ pos < s.size) : scan s g pos n = n := by
  cases g with
  | zero => rfl
  | succ g => rw [scan, if_neg h]
theorem scan_le (s : ByteArray) : ∀ (g pos n : Nat), -1 ≤ scan s g pos n ∧ scan s g pos n ≤ (n : Int) + g := by
  intro g
  induction g with
  | zero => intro pos n; rw [scan]; omega
  | succ g ih =>
    intro pos n
    rw [scan]
    split
    · split
      · have := ih (pos + (Utf8.decode s pos).2) (n + 1); omega
      · omega
    · omega
def sign (s : ByteArray) (at_ : Nat) : Nat × Bool :=
  if 97 ≤ (s.get! at_).toNat ∧ (s.get! at_).toNat ≤ 122 then (1, true)
  else if (48 ≤ (s.get! at_).toNat ∧ (s.get! at_).toNat ≤ 57) ∨ (s.get! at_).toNat = 45 then (1, false)
  else if s.size ≤ at_ + 1 then (0, false)
  else if ((s.get! at_).toNat = 206 ∧ 177 ≤ (s.get! (at_ + 1)).toNat ∧ (s.get! (at_ + 1)).toNat ≤ 191) ∨ ((s.get! at_).toNat = 207 ∧ 128 ≤ (s.get! (at_ + 1)).toNat ∧ (s.get! (at_ + 1)).toNat ≤ 137) then (2, true)
  else (0, false)
set_option maxHeartbeats 4000000 in
theorem decode_sign (s : ByteArray) (p : Nat) (h : p < s.size) :
    (letter (Utf8.decode s p).1 = (decide (0 < (sign s p).1) && (sign s p).2)) ∧ (behind (Utf8.decode s p).1 = (decide (0 < (sign s p).1) && !(sign s p).2)) ∧ (0 < (sign s p).1 → (Utf8.decode s p).2 = (sign s p).1 ∧ p + (sign s p).1 ≤ s.size ∧ ¬ ((Utf8.decode s p).1 = 65533 ∧ (Utf8.decode s p).2 = 1)) := by
  rw [decode_at]
  have h0 : (s.get! p).toNat < 256 := UInt8.toNat_lt _
  have h1 : (s.get! (p + 1)).toNat < 256 := UInt8.toNat_lt _
  have h2 : (s.get! (p + 2)).toNat < 256 := UInt8.toNat_lt _
  have h3 : (s.get! (p + 3)).toNat < 256 := UInt8.toNat_lt _
  unfold sign
  generalize (s.get! p).toNat = b0 at *
  generalize (s.get! (p + 1)).toNat = b1 at *
  generalize (s.get! (p + 2)).toNat = b2 at *
  generalize (s.get! (p + 3)).toNat = b3 at *
  generalize hn : s.size - p = n
  unfold decodeN
  by_cases c1 : 97 ≤ b0 ∧ b0 ≤ 122
  · rw [if_pos (show b0 < 128 by omega), if_pos c1]
    simp [letter, behind]; omega
  rw [if_neg c1]
  by_cases c2 : (48 ≤ b0 ∧ b0 ≤ 57) ∨ b0 = 45
  · rw [if_pos (show b0 < 128 by omega), if_pos c2]
    simp [letter, behind]; omega
  rw [if_neg c2]
  by_cases c3 : b0 < 128
  · rw [if_pos c3]
    have e : (if s.size ≤ p + 1 then ((0 : Nat), false) else if (b0 = 206 ∧ 177 ≤ b1 ∧ b1 ≤ 191) ∨ (b0 = 207 ∧ 128 ≤ b1 ∧ b1 ≤ 137) then (2, true) else (0, false)) = (0, false) := by
      split
      · rfl
      · rw [if_neg (by omega)]
    rw [e]
    simp [letter, behind]; omega
  rw [if_neg c3]
  by_cases c4 : s.size ≤ p + 1
  · rw [if_pos c4, if_neg (by omega), if_neg (by omega), if_neg (by omega)]
    simp [letter, behind]
  rw [if_neg c4]
  by_cases c5 : (b0 = 206 ∧ 177 ≤ b1 ∧ b1 ≤ 191) ∨ (b0 = 207 ∧ 128 ≤ b1 ∧ b1 ≤ 137)
  · rw [if_pos c5, if_pos (by omega), if_pos (by omega)]
    simp [letter, behind]; omega
  rw [if_neg c5]
  repeat' split
  all_goals simp [letter, behind]
  all_goals omega
theorem scan_valid (s : ByteArray) : ∀ (g pos n : Nat), s.size ≤ pos + g → 0 ≤ scan s g pos n → validD (s.data.toList.drop pos) = true := by
  intro g
  induction g with
  | zero =>
    intro pos n h _
    rw [List.drop_of_length_le (by rw [← size_eq]; omega)]
    rfl
  | succ g ih =>
    intro pos n h hr
    by_cases hp : pos < s.size
    · rw [scan_step s g pos n hp] at hr
      obtain ⟨e1, e2, e3⟩ := decode_sign s pos hp
      by_cases hb : (letter (Utf8.decode s pos).1 || (decide (0 < n) && behind (Utf8.decode s pos).1)) = true
      · rw [if_pos hb] at hr
        have h0 : 0 < (sign s pos).1 := by
          rw [e1, e2] at hb
          by_cases c : 0 < (sign s pos).1
          · exact c
          · simp [c] at hb
        obtain ⟨k1, k2, k3⟩ := e3 h0
        have hne : s.data.toList.drop pos ≠ [] := by
          intro hz
          have := congrArg List.length hz
          rw [List.length_drop, ← size_eq] at this
          simp at this; omega
        have hw := width_pos s pos
        rw [validD_step _ hne, decodeL_drop, if_neg k3, List.drop_drop]
        exact ih (pos + (Utf8.decode s pos).2) (n + 1) (by omega) hr
      · rw [if_neg hb] at hr; omega
    · rw [List.drop_of_length_le (by rw [← size_eq]; omega)]
      rfl
theorem signs_eq (s : ByteArray) : signs s = if 1 ≤ scan s s.size 0 0 ∧ scan s s.size 0 0 ≤ 16 then scan s s.size 0 0 else -1 := by
  unfold signs
  by_cases c : 1 ≤ scan s s.size 0 0 ∧ scan s s.size 0 0 ≤ 16
  · have hv := scan_valid s s.size 0 0 (by omega) (by omega)
    rw [List.drop_zero] at hv
    rw [if_pos c, if_neg]
    rintro (h | h | h)
    · omega
    · omega
    · rw [hv] at h; cases h
  · rw [if_neg c, if_pos]
    omega
def rlist (s : ByteArray) : Nat → Nat → List ByteArray → List ByteArray
  | 0, _, out => out
  | g + 1, pos, out => if pos < s.size then (if (sign s pos).1 = 0 ∨ (out.length = 0 ∧ (sign s pos).2 = false) ∨ out.length = 16 then [] else rlist s g (pos + (sign s pos).1) (out ++ [s.extract pos (pos + (sign s pos).1)])) else out
theorem rlist_end (s : ByteArray) (g pos : Nat) (out : List ByteArray) (h : ¬ pos < s.size) : rlist s g pos out = out := by
  cases g with
  | zero => rfl
  | succ g => rw [rlist, if_neg h]
theorem sign_cases (s : ByteArray) (p : Nat) : (sign s p = (1, true)) ∨ (sign s p = (1, false)) ∨ (sign s p = (0, false)) ∨ (sign s p = (2, true)) := by
  unfold sign
  repeat' split
  all_goals simp
theorem scan_ge (s : ByteArray) : ∀ (g pos n : Nat), 17 ≤ n → 17 ≤ scan s g pos n ∨ scan s g pos n = -1 := by
  intro g
  induction g with
  | zero => intro pos n h; left; rw [scan]; omega
  | succ g ih =>
    intro pos n h
    rw [scan]
    split
    · split
      · exact ih _ _ (by omega)
      · right; rfl
    · left; omega
theorem rlist_scan (s : ByteArray) : ∀ (g pos : Nat) (out : List ByteArray), s.size ≤ pos + g → out.length ≤ 16 →
    ((rlist s g pos out).length : Int) = if 0 ≤ scan s g pos out.length ∧ scan s g pos out.length ≤ 16 then scan s g pos out.length else 0 := by
  intro g
  induction g with
  | zero => intro pos out h ho; rw [scan_end s 0 pos _ (by omega), rlist]; rw [if_pos (by omega)]
  | succ g ih =>
    intro pos out h ho
    by_cases hp : pos < s.size
    · rw [rlist, if_pos hp, scan_step s g pos _ hp]
      obtain ⟨e1, e2, e3⟩ := decode_sign s pos hp
      rw [e1, e2]
      rcases sign_cases s pos with c | c | c | c
      all_goals rw [c] at e3 ⊢
      · have hw := (e3 (by decide)).1
        simp only [hw]
        by_cases h16 : out.length = 16
        · rw [if_pos (by simp [h16])]
          have hk : 17 ≤ scan s g (pos + 1) (out.length + 1) ∨ scan s g (pos + 1) (out.length + 1) = -1 := by
            exact scan_ge s g (pos + 1) (out.length + 1) (by omega)
          simp; omega
        · rw [if_neg (by simp; omega), ih (pos + 1) _ (by omega) (by simp; omega)]
          simp
      · have hw := (e3 (by decide)).1
        simp only [hw]
        by_cases h0 : out.length = 0
        · rw [if_pos (by simp [h0])]
          simp [h0]
        · by_cases h16 : out.length = 16
          · rw [if_pos (by simp [h16])]
            have hk : 17 ≤ scan s g (pos + 1) (out.length + 1) ∨ scan s g (pos + 1) (out.length + 1) = -1 := by
              exact scan_ge s g (pos + 1) (out.length + 1) (by omega)
            rw [if_pos (show ((decide (0 < 1) && false) || (decide (0 < out.length) && (decide (0 < 1) && !false))) = true by simp; omega)]
            rw [if_neg (by omega)]; rfl
          · rw [if_neg (by rintro (h | ⟨h, _⟩ | h); · cases h
                           · exact h0 h
                           · exact h16 h), ih (pos + 1) _ (by omega) (by simp; omega)]
            have hz : 0 < out.length := by omega
            simp [hz]
      · rw [if_pos (by simp)]
        simp
      · have hw := (e3 (by decide)).1
        simp only [hw]
        by_cases h16 : out.length = 16
        · rw [if_pos (by simp [h16])]
          have hk : 17 ≤ scan s g (pos + 2) (out.length + 1) ∨ scan s g (pos + 2) (out.length + 1) = -1 := by
            exact scan_ge s g (pos + 2) (out.length + 1) (by omega)
          simp; omega
        · rw [if_neg (by simp; omega), ih (pos + 2) _ (by omega) (by simp; omega)]
          simp
    · rw [rlist_end s _ pos out hp, scan_end s _ pos _ hp]
      rw [if_pos (by omega)]
theorem rlist_signs (s : ByteArray) : signs s = if (rlist s s.size 0 []).length = 0 then -1 else ((rlist s s.size 0 []).length : Int) := by
  have h := rlist_scan s s.size 0 [] (by omega) (by simp)
  rw [signs_eq]
  simp only [List.length_nil] at h
  split <;> split <;> split at h <;> omega
end Go.Proofs.YtmcdbjcbfjnfoaaDoor.Lab
