/- Layer 5 (check): plain lemmas on the number of bytes (a shift register over bits): linear, and nothing but nothing comes to nothing. No program in sight. -/
import Derived.WalkKit
namespace Go.Proofs.Ytdpljfpcpfdlcaa.Crc

/-- One halving on. -/
def st (n : Nat) : Nat := (n / 2) ^^^ (if n % 2 = 1 then 2197175160 else 0)
/-- Some halvings on. -/
def it : Nat → Nat → Nat
  | 0, n => n
  | k + 1, n => it k (st n)

theorem xor_div (a b : Nat) : (a ^^^ b) / 2 = (a / 2) ^^^ (b / 2) := by
  have := Nat.shiftRight_xor_distrib (a := a) (b := b) (i := 1)
  simpa [Nat.shiftRight_succ] using this
theorem xor_mod (a b : Nat) : (a ^^^ b) % 2 = (a % 2 + b % 2) % 2 := by
  have h := Nat.xor_mod_two_eq_one (a := a) (b := b)
  have h1 := Nat.mod_two_eq_zero_or_one a
  have h2 := Nat.mod_two_eq_zero_or_one b
  have h3 := Nat.mod_two_eq_zero_or_one (a ^^^ b)
  rcases h1 with h1 | h1 <;> rcases h2 with h2 | h2 <;> rcases h3 with h3 | h3 <;> simp [h1, h2, h3] at h ⊢

theorem st_xor (a b : Nat) : st (a ^^^ b) = st a ^^^ st b := by
  unfold st
  rw [xor_div, xor_mod]
  have h1 := Nat.mod_two_eq_zero_or_one a
  have h2 := Nat.mod_two_eq_zero_or_one b
  have e : ∀ x y p q : Nat, (x ^^^ y) ^^^ (p ^^^ q) = (x ^^^ p) ^^^ (y ^^^ q) := fun x y p q => by
    rw [Nat.xor_assoc, Nat.xor_assoc, ← Nat.xor_assoc y p q, Nat.xor_comm y p, Nat.xor_assoc p y q]
  rcases h1 with h1 | h1 <;> rcases h2 with h2 | h2 <;> simp only [h1, h2]
  · simp
  · simp [Nat.xor_assoc]
  · rw [← e]; simp
  · rw [← e]; simp
theorem it_xor (k : Nat) : ∀ a b, it k (a ^^^ b) = it k a ^^^ it k b := by
  induction k with
  | zero => intro a b; rfl
  | succ k ih => intro a b; unfold it; rw [st_xor, ih]
theorem it_zero (k : Nat) : it k 0 = 0 := by
  have h := it_xor k 0 0
  rw [Nat.xor_self, Nat.xor_self] at h
  exact h
theorem it_add (j k : Nat) : ∀ n, it (j + k) n = it k (it j n) := by
  induction j with
  | zero => intro n; rw [Nat.zero_add]; rfl
  | succ j ih => intro n; rw [Nat.succ_add]; show it (j + k) (st n) = it k (it j (st n)); exact ih _
theorem eq_of_xor {a b : Nat} (h : a ^^^ b = 0) : a = b := by
  have e : (a ^^^ b) ^^^ b = 0 ^^^ b := by rw [h]
  rw [Nat.xor_assoc, Nat.xor_self, Nat.xor_zero, Nat.zero_xor] at e
  exact e
theorem st_lt {n : Nat} (h : n < 2 ^ 32) : st n < 2 ^ 32 := by
  unfold st
  refine Nat.xor_lt_two_pow (by omega) ?_
  split <;> decide
theorem it_lt (k : Nat) : ∀ {n : Nat}, n < 2 ^ 32 → it k n < 2 ^ 32 := by
  induction k with
  | zero => intro n h; exact h
  | succ k ih => intro n h; exact ih (st_lt h)
/-- Nothing but nothing comes to nothing. -/
theorem st_ne {n : Nat} (h : n < 2 ^ 32) (h0 : n ≠ 0) : st n ≠ 0 := by
  unfold st
  intro e
  have e2 := eq_of_xor e
  split at e2 <;> omega
theorem it_ne (k : Nat) : ∀ {n : Nat}, n < 2 ^ 32 → n ≠ 0 → it k n ≠ 0 := by
  induction k with
  | zero => intro n _ h0; exact h0
  | succ k ih => intro n h h0; exact ih (st_lt h) (st_ne h h0)
theorem it_inj (k : Nat) {a b : Nat} (ha : a < 2 ^ 32) (hb : b < 2 ^ 32) (h : it k a = it k b) : a = b := by
  have hx : it k (a ^^^ b) = 0 := by rw [it_xor, h, Nat.xor_self]
  by_cases e : a ^^^ b = 0
  · exact eq_of_xor e
  · exact absurd hx (it_ne k (Nat.xor_lt_two_pow ha hb) e)

/-- A number behind some bytes. -/
def eat (l : List Nat) (n : Nat) : Nat := l.foldl (fun m x => it 8 (m ^^^ x)) n
theorem eat_nil (n : Nat) : eat [] n = n := rfl
theorem eat_cons (x : Nat) (l : List Nat) (n : Nat) : eat (x :: l) n = eat l (it 8 (n ^^^ x)) := rfl
theorem eat_append (a b : List Nat) (n : Nat) : eat (a ++ b) n = eat b (eat a n) := List.foldl_append ..
theorem byte_lt {n x : Nat} (h : n < 2 ^ 32) (hx : x < 256) : n ^^^ x < 2 ^ 32 := Nat.xor_lt_two_pow h (by omega)
theorem eat_lt (l : List Nat) (hl : ∀ x ∈ l, x < 256) : ∀ {n : Nat}, n < 2 ^ 32 → eat l n < 2 ^ 32 := by
  induction l with
  | nil => intro n h; exact h
  | cons x l ih => intro n h; exact ih (fun y hy => hl y (List.mem_cons_of_mem _ hy)) (it_lt 8 (byte_lt h (hl x (List.mem_cons_self ..))))
theorem eat_xor (l : List Nat) : ∀ a b, eat l (a ^^^ b) = eat l a ^^^ it (8 * l.length) b := by
  induction l with
  | nil => intro a b; rfl
  | cons x l ih =>
    intro a b
    rw [eat_cons, eat_cons, List.length_cons, Nat.mul_succ, Nat.add_comm, it_add, ← ih, ← it_xor]
    congr 2
    rw [Nat.xor_assoc, Nat.xor_comm b x, ← Nat.xor_assoc]
theorem eat_inj (l : List Nat) (hl : ∀ x ∈ l, x < 256) : ∀ {a b : Nat}, a < 2 ^ 32 → b < 2 ^ 32 → eat l a = eat l b → a = b := by
  induction l with
  | nil => intro a b _ _ h; exact h
  | cons x l ih =>
    intro a b ha hb h
    have hx := hl x (List.mem_cons_self ..)
    have h1 := ih (fun y hy => hl y (List.mem_cons_of_mem _ hy)) (it_lt 8 (byte_lt ha hx)) (it_lt 8 (byte_lt hb hx)) h
    have h2 := it_inj 8 (byte_lt ha hx) (byte_lt hb hx) h1
    have h3 : (a ^^^ x) ^^^ x = (b ^^^ x) ^^^ x := by rw [h2]
    rw [Nat.xor_assoc, Nat.xor_assoc, Nat.xor_self, Nat.xor_zero, Nat.xor_zero] at h3
    exact h3
/-- Noughts alone are halvings alone. -/
theorem eat_noughts (k : Nat) : ∀ n, eat (List.replicate k 0) n = it (8 * k) n := by
  induction k with
  | zero => intro n; rfl
  | succ k ih => intro n; rw [List.replicate_succ, eat_cons, ih, Nat.xor_zero, ← it_add]; congr 1; omega
/-- One byte other: another number. -/
theorem eat_other (a b : List Nat) (x y n : Nat) (ha : ∀ z ∈ a, z < 256) (hb : ∀ z ∈ b, z < 256) (hx : x < 256) (hy : y < 256) (hn : n < 2 ^ 32) (h : x ≠ y) : eat (a ++ x :: b) n ≠ eat (a ++ y :: b) n := by
  intro e
  rw [eat_append, eat_append, eat_cons, eat_cons] at e
  have hA := eat_lt a ha hn
  have e1 := eat_inj b hb (it_lt 8 (byte_lt hA hx)) (it_lt 8 (byte_lt hA hy)) e
  have e2 := it_inj 8 (byte_lt hA hx) (byte_lt hA hy) e1
  apply h
  have e3 : eat a n ^^^ (eat a n ^^^ x) = eat a n ^^^ (eat a n ^^^ y) := by rw [e2]
  rw [← Nat.xor_assoc, ← Nat.xor_assoc, Nat.xor_self, Nat.zero_xor, Nat.zero_xor] at e3
  exact e3
set_option maxRecDepth 100000 in
/-- A byte, eight halvings on, is itself no more. -/
theorem it8_ne : ∀ d : Fin 256, d.val ≠ 0 → it 8 d.val ≠ d.val := by decide +kernel
/-- Two neighbours that change places: another number. -/
theorem eat_swap (a b : List Nat) (x y n : Nat) (ha : ∀ z ∈ a, z < 256) (hb : ∀ z ∈ b, z < 256) (hx : x < 256) (hy : y < 256) (hn : n < 2 ^ 32) (h : x ≠ y) : eat (a ++ y :: x :: b) n ≠ eat (a ++ x :: y :: b) n := by
  intro e
  rw [eat_append, eat_append, eat_cons, eat_cons, eat_cons, eat_cons] at e
  have hA := eat_lt a ha hn
  generalize eat a n = m at *
  have e1 := eat_inj b hb (it_lt 8 (byte_lt (it_lt 8 (byte_lt hA hy)) hx)) (it_lt 8 (byte_lt (it_lt 8 (byte_lt hA hx)) hy)) e
  have e2 := it_inj 8 (byte_lt (it_lt 8 (byte_lt hA hy)) hx) (byte_lt (it_lt 8 (byte_lt hA hx)) hy) e1
  rw [it_xor, it_xor] at e2
  have hd : x ^^^ y < 256 := Nat.xor_lt_two_pow (n := 8) hx hy
  refine it8_ne ⟨x ^^^ y, hd⟩ (fun z => h (eq_of_xor z)) ?_
  show it 8 (x ^^^ y) = x ^^^ y
  rw [it_xor]
  generalize it 8 m = M at *
  generalize it 8 x = X at *
  generalize it 8 y = Y at *
  have e3 : M ^^^ (M ^^^ Y ^^^ x) ^^^ (Y ^^^ y) = M ^^^ (M ^^^ X ^^^ y) ^^^ (Y ^^^ y) := by rw [e2]
  have l1 : M ^^^ (M ^^^ Y ^^^ x) ^^^ (Y ^^^ y) = x ^^^ y := by
    rw [Nat.xor_assoc M Y x, ← Nat.xor_assoc M M, Nat.xor_self, Nat.zero_xor, Nat.xor_comm Y x, Nat.xor_assoc, ← Nat.xor_assoc Y Y, Nat.xor_self, Nat.zero_xor]
  have l2 : M ^^^ (M ^^^ X ^^^ y) ^^^ (Y ^^^ y) = X ^^^ Y := by
    rw [Nat.xor_assoc M X y, ← Nat.xor_assoc M M, Nat.xor_self, Nat.zero_xor, Nat.xor_comm Y y, Nat.xor_assoc, ← Nat.xor_assoc y y, Nat.xor_self, Nat.zero_xor]
  rw [l1, l2] at e3
  exact e3.symm

/-! What a square of numbers says of a number: bit by bit. -/
/-- From bit i on. -/
def lin (s : Nat → Nat) : Nat → Nat → Nat → Nat
  | 0, _, _ => 0
  | f + 1, i, n => (if n % 2 = 1 then s i else 0) ^^^ lin s f (i + 1) (n / 2)
theorem lin_of (L : Nat → Nat) (h0 : L 0 = 0) (hx : ∀ a b, L (a ^^^ b) = L a ^^^ L b) (f : Nat) : ∀ i n, n < 2 ^ f → lin (fun j => L (2 ^ j)) f i n = L (n * 2 ^ i) := by
  induction f with
  | zero => intro i n h; obtain rfl : n = 0 := by simpa using h
            rw [Nat.zero_mul, h0]; rfl
  | succ f ih =>
    intro i n h
    have hn : n / 2 < 2 ^ f := by rw [Nat.pow_succ] at h; omega
    show _ ^^^ lin _ f (i + 1) (n / 2) = _
    rw [ih (i + 1) (n / 2) hn]
    have e : n * 2 ^ i = (n % 2) * 2 ^ i ^^^ (n / 2) * 2 ^ (i + 1) := by
      have hp : 2 ^ (i + 1) = 2 * 2 ^ i := by rw [Nat.pow_succ, Nat.mul_comm]
      have e1 : n * 2 ^ i = 2 ^ (i + 1) * (n / 2) + (n % 2) * 2 ^ i := by
        rw [hp]
        have := Nat.div_add_mod n 2
        calc n * 2 ^ i = (2 * (n / 2) + n % 2) * 2 ^ i := by rw [this]
          _ = _ := by rw [Nat.add_mul, Nat.mul_assoc, Nat.mul_assoc, Nat.mul_comm (n / 2) (2 ^ i)]
      have lt : (n % 2) * 2 ^ i < 2 ^ (i + 1) := by
        rw [hp]
        have : n % 2 < 2 := Nat.mod_lt _ (by decide)
        exact Nat.mul_lt_mul_of_pos_right this (Nat.two_pow_pos i)
      rw [e1, Nat.two_pow_add_eq_or_of_lt lt]
      have dis : ∀ (x y k : Nat), y < 2 ^ k → 2 ^ k * x ||| y = y ^^^ x * 2 ^ k := by
        intro x y k hy
        rw [Nat.mul_comm x]
        apply Nat.eq_of_testBit_eq
        intro j
        rw [Nat.testBit_or, Nat.testBit_xor, Nat.testBit_two_pow_mul]
        by_cases hj : k ≤ j
        · rw [Nat.testBit_lt_two_pow (Nat.lt_of_lt_of_le hy (Nat.pow_le_pow_right (by decide) hj))]
          simp [hj]
        · simp [hj]
      exact dis (n / 2) ((n % 2) * 2 ^ i) (i + 1) lt
    rw [e, hx]
    rcases Nat.mod_two_eq_zero_or_one n with h2 | h2 <;> simp [h2, h0]
end Go.Proofs.Ytdpljfpcpfdlcaa.Crc
