
import Derived.Test.YtnacmehhmheooaaDoorQOutboxCutLabGo
namespace Go.Proofs.YtnacmehhmheooaaDoor.Pure
def Byt (l : List Int) : Prop := ∀ x ∈ l, 0 ≤ x ∧ x < 256
def enc (n : Nat) : List Int := if n < 128 then [(n : Int)] else ((n % 128 + 128 : Nat) : Int) :: enc (n / 128)
termination_by n
decreasing_by omega
def dec (most : Int) : Int → Int → Nat → List Int → Int × Int
  | _, _, _, [] => (0, 0)
  | n, w, i, x :: r =>
    if x = 0 ∧ 0 < i then (0, -1) else if most < n + x % 128 * w then (0, -1) else if x < 128 then (n + x % 128 * w, ((i + 1 : Nat) : Int))
    else if most - (n + x % 128 * w) < w * 128 then (0, -1) else dec most (n + x % 128 * w) (w * 128) (i + 1) r
theorem enc_small {n : Nat} (h : n < 128) : enc n = [(n : Int)] := by rw [enc, if_pos h]
theorem enc_big {n : Nat} (h : ¬ n < 128) : enc n = ((n % 128 + 128 : Nat) : Int) :: enc (n / 128) := by rw [enc, if_neg h]
theorem enc_byt (n : Nat) : Byt (enc n) := by
  induction n using Nat.strongRecOn with
  | ind n ih =>
    intro x hx
    by_cases h : n < 128
    · rw [enc_small h] at hx
      simp only [List.mem_singleton] at hx
      omega
    · rw [enc_big h] at hx
      rcases List.mem_cons.1 hx with e | e
      · omega
      · exact ih (n / 128) (by omega) x e
theorem enc_len (n : Nat) : 1 ≤ (enc n).length := by
  by_cases h : n < 128
  · rw [enc_small h]; simp
  · rw [enc_big h]; simp
theorem enc_le : ∀ (b n : Nat), n < 128 ^ b → 1 ≤ b → (enc n).length ≤ b := by
  intro b
  induction b with
  | zero => intro n _ h; omega
  | succ b ih =>
    intro n h _
    by_cases c : n < 128
    · rw [enc_small c]; simp
    · rw [enc_big c, List.length_cons]
      have hb : 1 ≤ b := by
        rcases Nat.eq_zero_or_pos b with e | e
        · subst e; simp at h; omega
        · exact e
      have := ih (n / 128) (by rw [Nat.pow_succ] at h; exact (Nat.div_lt_iff_lt_mul (by omega)).2 h) hb
      omega
theorem split_mul (d q w : Int) : (d + q * 128) * w = d * w + q * (w * 128) := by
  rw [Int.add_mul, Int.mul_assoc, Int.mul_comm 128 w]
theorem big_mul (q : Nat) (W : Int) (hq : 0 < q) (hW : 0 ≤ W) : W ≤ (q : Int) * W := by
  obtain ⟨p, rfl⟩ : ∃ p, q = p + 1 := ⟨q - 1, by omega⟩
  have : (0 : Int) ≤ (p : Int) * W := Int.mul_nonneg (by omega) hW
  rw [show ((p + 1 : Nat) : Int) = (p : Int) + 1 from by omega, Int.add_mul, Int.one_mul]
  omega
theorem dec_enc (most : Int) (r : List Int) (v : Nat) : ∀ (n w : Int) (i : Nat), 0 ≤ n → 0 < w → n + v * w ≤ most → (i = 0 ∨ 0 < v) →
    dec most n w i (enc v ++ r) = (n + v * w, ((i + (enc v).length : Nat) : Int)) := by
  induction v using Nat.strongRecOn with
  | ind v ih =>
    intro n w i hn hw hm hi
    by_cases h : v < 128
    · rw [enc_small h, List.singleton_append, dec]
      have e : (v : Int) % 128 = v := by omega
      rw [e, if_neg (by omega), if_neg (by omega), if_pos (by omega)]
      rfl
    · rw [enc_big h, List.cons_append, dec]
      have e : ((v % 128 + 128 : Nat) : Int) % 128 = ((v % 128 : Nat) : Int) := by omega
      have ev : (v : Int) = ((v % 128 : Nat) : Int) + ((v / 128 : Nat) : Int) * 128 := by omega
      have em : (v : Int) * w = ((v % 128 : Nat) : Int) * w + ((v / 128 : Nat) : Int) * (w * 128) := by
        conv => lhs; rw [ev]
        exact split_mul _ _ _
      have hq := big_mul (v / 128) (w * 128) (by omega) (by omega)
      have hd : (0 : Int) ≤ ((v % 128 : Nat) : Int) * w := Int.mul_nonneg (by omega) (by omega)
      rw [e, if_neg (by omega), if_neg (by omega), if_neg (by omega), if_neg (by omega)]
      rw [ih (v / 128) (by omega) (n + ((v % 128 : Nat) : Int) * w) (w * 128) (i + 1) (by omega) (by omega) (by omega) (by omega)]
      rw [em, List.length_cons]
      congr 1
      · omega
      · omega
theorem dec_some (most : Int) : ∀ (l : List Int) (n w : Int) (i : Nat) (v u : Int), Byt l → 0 ≤ n → 0 < w → dec most n w i l = (v, u) → 0 < u →
    ∃ (q : Nat) (r : List Int), l = enc q ++ r ∧ u = ((i + (enc q).length : Nat) : Int) ∧ v = n + q * w ∧ v ≤ most ∧ (i = 0 ∨ 0 < q) := by
  intro l
  induction l with
  | nil =>
    intro n w i v u _ _ _ h hu
    rw [dec] at h
    simp only [Prod.mk.injEq] at h
    omega
  | cons x t ih =>
    intro n w i v u hb hn hw h hu
    have hx := hb x (List.mem_cons_self ..)
    rw [dec] at h
    by_cases c1 : x = 0 ∧ 0 < i
    · rw [if_pos c1] at h; simp only [Prod.mk.injEq] at h; omega
    rw [if_neg c1] at h
    by_cases c2 : most < n + x % 128 * w
    · rw [if_pos c2] at h; simp only [Prod.mk.injEq] at h; omega
    rw [if_neg c2] at h
    by_cases c3 : x < 128
    · rw [if_pos c3] at h
      simp only [Prod.mk.injEq] at h
      have e : x % 128 = x := by omega
      rw [e] at h c2
      refine ⟨x.toNat, t, ?_, ?_, ?_, ?_, ?_⟩
      · rw [enc_small (by omega), show ((x.toNat : Nat) : Int) = x from by omega]; rfl
      · rw [enc_small (by omega)]; exact h.2.symm
      · rw [show ((x.toNat : Nat) : Int) = x from by omega]; exact h.1.symm
      · omega
      · omega
    rw [if_neg c3] at h
    by_cases c4 : most - (n + x % 128 * w) < w * 128
    · rw [if_pos c4] at h; simp only [Prod.mk.injEq] at h; omega
    rw [if_neg c4] at h
    have hd : (0 : Int) ≤ x % 128 * w := Int.mul_nonneg (by omega) (by omega)
    obtain ⟨q, r, h1, h2, h3, h4, h5⟩ := ih (n + x % 128 * w) (w * 128) (i + 1) v u (fun y hy => hb y (List.mem_cons_of_mem _ hy)) (by omega) (by omega) h hu
    have hq : 0 < q := by omega
    refine ⟨(x % 128).toNat + q * 128, r, ?_, ?_, ?_, h4, .inr (by omega)⟩
    · rw [enc_big (by omega), show ((x % 128).toNat + q * 128) / 128 = q from by omega, show (((((x % 128).toNat + q * 128) % 128 + 128 : Nat)) : Int) = x from by omega, List.cons_append, ← h1]
    · rw [enc_big (by omega), show ((x % 128).toNat + q * 128) / 128 = q from by omega, List.length_cons, h2]
      omega
    · rw [h3, show (((x % 128).toNat + q * 128 : Nat) : Int) = x % 128 + (q : Int) * 128 from by omega, split_mul]
      omega
theorem dec_none (most : Int) : ∀ (l : List Int) (n w : Int) (i : Nat), ¬ 0 < (dec most n w i l).2 → (dec most n w i l).1 = 0 := by
  intro l
  induction l with
  | nil => intro n w i _; rfl
  | cons x t ih =>
    intro n w i h
    rw [dec] at h ⊢
    by_cases c1 : x = 0 ∧ 0 < i
    · rw [if_pos c1]
    rw [if_neg c1] at h ⊢
    by_cases c2 : most < n + x % 128 * w
    · rw [if_pos c2]
    rw [if_neg c2] at h ⊢
    by_cases c3 : x < 128
    · rw [if_pos c3] at h
      simp only at h
      omega
    rw [if_neg c3] at h ⊢
    by_cases c4 : most - (n + x % 128 * w) < w * 128
    · rw [if_pos c4]
    rw [if_neg c4] at h ⊢
    exact ih _ _ _ h
theorem byt_append {a b : List Int} : Byt (a ++ b) ↔ Byt a ∧ Byt b := by
  unfold Byt
  constructor
  · exact fun h => ⟨fun x hx => h x (List.mem_append_left _ hx), fun x hx => h x (List.mem_append_right _ hx)⟩
  · rintro ⟨h1, h2⟩ x hx
    rcases List.mem_append.1 hx with h | h
    · exact h1 x h
    · exact h2 x h
end Go.Proofs.YtnacmehhmheooaaDoor.Pure
