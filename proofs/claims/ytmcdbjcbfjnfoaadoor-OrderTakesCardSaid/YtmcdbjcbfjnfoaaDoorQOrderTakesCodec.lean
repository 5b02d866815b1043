
import Derived.Test.YtmcdbjcbfjnfoaaDoorQOrderTakesLabGo
namespace Go.Proofs.YtmcdbjcbfjnfoaaDoor.Pure
def Byt (l : List Int) : Prop := ∀ x ∈ l, 0 ≤ x ∧ x < 256
def enc (n : Nat) : List Int := if n < 128 then [(n : Int)] else ((n % 128 + 128 : Nat) : Int) :: enc (n / 128)
termination_by n
decreasing_by omega
def dec (most : Int) : Int → Int → Nat → List Int → Int × Int
  | _, _, _, [] => (0, 0)
  | n, w, i, x :: r =>
    if x = 0 ∧ 0 < i then (0, -1) else if most < n + x % 128 * w then (0, -1) else if x < 128 then (n + x % 128 * w, ((i + 1 : Nat) : Int))
    else if most - (n + x % 128 * w) < w * 128 then (0, -1) else dec most (n + x % 128 * w) (w * 128) (i + 1) r
theorem enc_small {n : Nat} (h : n < 128) : enc n = [(n : Int)] := by rw [enc, if_pos h]
theorem enc_big {n : Nat} (h : ¬ n < 128) : enc n = ((n % 128 + 128 : Nat) : Int) :: enc (n / 128) := by rw [enc, if_neg h]
theorem enc_le : ∀ (b n : Nat), n < 128 ^ b → 1 ≤ b → (enc n).length ≤ b := by
  intro b
  induction b with
  | zero => intro n _ h; omega
  | succ b ih =>
    intro n h _
    by_cases c : n < 128
    · rw [enc_small c]; simp
    · rw [enc_big c, List.length_cons]
      have hb : 1 ≤ b := by
        rcases Nat.eq_zero_or_pos b with e | e
        · subst e; simp at h; omega
        · exact e
      have := ih (n / 128) (by rw [Nat.pow_succ] at h; exact (Nat.div_lt_iff_lt_mul (by omega)).2 h) hb
      omega
theorem split_mul (d q w : Int) : (d + q * 128) * w = d * w + q * (w * 128) := by
  rw [Int.add_mul, Int.mul_assoc, Int.mul_comm 128 w]
theorem dec_some (most : Int) : ∀ (l : List Int) (n w : Int) (i : Nat) (v u : Int), Byt l → 0 ≤ n → 0 < w → dec most n w i l = (v, u) → 0 < u →
    ∃ (q : Nat) (r : List Int), l = enc q ++ r ∧ u = ((i + (enc q).length : Nat) : Int) ∧ v = n + q * w ∧ v ≤ most ∧ (i = 0 ∨ 0 < q) := by
  intro l
  induction l with
  | nil =>
    intro n w i v u _ _ _ h hu
    rw [dec] at h
    simp only [Prod.mk.injEq] at h
    omega
  | cons x t ih =>
    intro n w i v u hb hn hw h hu
    have hx := hb x (List.mem_cons_self ..)
    rw [dec] at h
    by_cases c1 : x = 0 ∧ 0 < i
    · rw [if_pos c1] at h; simp only [Prod.mk.injEq] at h; omega
    rw [if_neg c1] at h
    by_cases c2 : most < n + x % 128 * w
    · rw [if_pos c2] at h; simp only [Prod.mk.injEq] at h; omega
    rw [if_neg c2] at h
    by_cases c3 : x < 128
    · rw [if_pos c3] at h
      simp only [Prod.mk.injEq] at h
      have e : x % 128 = x := by omega
      rw [e] at h c2
      refine ⟨x.toNat, t, ?_, ?_, ?_, ?_, ?_⟩
      · rw [enc_small (by omega), show ((x.toNat : Nat) : Int) = x from by omega]; rfl
      · rw [enc_small (by omega)]; exact h.2.symm
      · rw [show ((x.toNat : Nat) : Int) = x from by omega]; exact h.1.symm
      · omega
      · omega
    rw [if_neg c3] at h
    by_cases c4 : most - (n + x % 128 * w) < w * 128
    · rw [if_pos c4] at h; simp only [Prod.mk.injEq] at h; omega
    rw [if_neg c4] at h
    have hd : (0 : Int) ≤ x % 128 * w := Int.mul_nonneg (by omega) (by omega)
    obtain ⟨q, r, h1, h2, h3, h4, h5⟩ := ih (n + x % 128 * w) (w * 128) (i + 1) v u (fun y hy => hb y (List.mem_cons_of_mem _ hy)) (by omega) (by omega) h hu
    have hq : 0 < q := by omega
    refine ⟨(x % 128).toNat + q * 128, r, ?_, ?_, ?_, h4, .inr (by omega)⟩
    · rw [enc_big (by omega), show ((x % 128).toNat + q * 128) / 128 = q from by omega, show (((((x % 128).toNat + q * 128) % 128 + 128 : Nat)) : Int) = x from by omega, List.cons_append, ← h1]
    · rw [enc_big (by omega), show ((x % 128).toNat + q * 128) / 128 = q from by omega, List.length_cons, h2]
      omega
    · rw [h3, show (((x % 128).toNat + q * 128 : Nat) : Int) = x % 128 + (q : Int) * 128 from by omega, split_mul]
      omega
theorem dec_none (most : Int) : ∀ (l : List Int) (n w : Int) (i : Nat), ¬ 0 < (dec most n w i l).2 → (dec most n w i l).1 = 0 := by
  intro l
  induction l with
  | nil => intro n w i _; rfl
  | cons x t ih =>
    intro n w i h
    rw [dec] at h ⊢
    by_cases c1 : x = 0 ∧ 0 < i
    · rw [if_pos c1]
    rw [if_neg c1] at h ⊢
    by_cases c2 : most < n + x % 128 * w
    · rw [if_pos c2]
    rw [if_neg c2] at h ⊢
    by_cases c3 : x < 128
    · rw [if_pos c3] at h
      simp only at h
      omega
    rw [if_neg c3] at h ⊢
    by_cases c4 : most - (n + x % 128 * w) < w * 128
    · rw [if_pos c4]
    rw [if_neg c4] at h ⊢
    exact ih _ _ _ h
end Go.Proofs.YtmcdbjcbfjnfoaaDoor.Pure
