
import Derived.Test.YtdfnpjmebnlfbaaQHalvesFindsPAllx7
import Derived.Test.YtdfnpjmebnlfbaaQHalvesFindsSame
namespace Go.Proofs.YtdfnpjmebnlfbaaW.PrintMore
end Go.Proofs.YtdfnpjmebnlfbaaW.PrintMore
set_option linter.unusedVariables false
namespace Go.Proofs.Ytdfnpjmebnlfbaa.Pure
open Go.RowKit Go.Proofs.Ytdfnpjmebnlfbaa Go.Proofs.Ytdfnpjmebnlfbaa.PAll Go.Proofs.YtdfnpjmebnlfbaaW.PrintWords Go.Proofs.YtdfnpjmebnlfbaaW.PrintLast Go.Proofs.YtdfnpjmebnlfbaaW.PrintMore
def bl (n : Nat) : Nat := if n = 0 then 0 else n.log2 + 1
theorem bl_le (n k : Nat) : bl n ≤ k ↔ n < 2 ^ k := by
  unfold bl
  by_cases h : n = 0
  · subst h; exact ⟨fun _ => Nat.two_pow_pos k, fun _ => Nat.zero_le _⟩
  · rw [if_neg h, Nat.add_one_le_iff, Nat.log2_lt h]
theorem bl_eq {n m : Nat} (h : ∀ k, n < 2 ^ k ↔ m ≤ k) : bl n = m :=
  Nat.le_antisymm ((bl_le n m).2 ((h m).2 (Nat.le_refl _))) ((h _).1 ((bl_le n _).1 (Nat.le_refl _)))
theorem bl_shift (n c : Nat) (h : 2 ^ c ≤ n) : bl n = c + bl (n / 2 ^ c) := by
  refine bl_eq fun k => ?_
  by_cases hk : c ≤ k
  · obtain ⟨j, rfl⟩ := Nat.exists_eq_add_of_le hk
    rw [Nat.add_le_add_iff_left, bl_le, Nat.div_lt_iff_lt_mul (Nat.two_pow_pos c), Nat.pow_add, Nat.mul_comm]
  · refine ⟨fun h2 => ?_, fun h2 => by omega⟩
    have := Nat.pow_le_pow_right (n := 2) (by decide) (show k ≤ c by omega)
    omega
theorem tab_bl : ∀ i : Nat, i < 256 → bt (⟨#[0, 1, 2, 2, 3, 3, 3, 3, 4, 4, 4, 4, 4, 4, 4, 4, 5, 5, 5, 5, 5, 5, 5, 5, 5, 5, 5, 5, 5, 5, 5, 5, 6, 6, 6, 6, 6, 6, 6, 6, 6, 6, 6, 6, 6, 6, 6, 6, 6, 6, 6, 6, 6, 6, 6, 6, 6, 6, 6, 6, 6, 6, 6, 6, 7, 7, 7, 7, 7, 7, 7, 7, 7, 7, 7, 7, 7, 7, 7, 7, 7, 7, 7, 7, 7, 7, 7, 7, 7, 7, 7, 7, 7, 7, 7, 7, 7, 7, 7, 7, 7, 7, 7, 7, 7, 7, 7, 7, 7, 7, 7, 7, 7, 7, 7, 7, 7, 7, 7, 7, 7, 7, 7, 7, 7, 7, 7, 7, 8, 8, 8, 8, 8, 8, 8, 8, 8, 8, 8, 8, 8, 8, 8, 8, 8, 8, 8, 8, 8, 8, 8, 8, 8, 8, 8, 8, 8, 8, 8, 8, 8, 8, 8, 8, 8, 8, 8, 8, 8, 8, 8, 8, 8, 8, 8, 8, 8, 8, 8, 8, 8, 8, 8, 8, 8, 8, 8, 8, 8, 8, 8, 8, 8, 8, 8, 8, 8, 8, 8, 8, 8, 8, 8, 8, 8, 8, 8, 8, 8, 8, 8, 8, 8, 8, 8, 8, 8, 8, 8, 8, 8, 8, 8, 8, 8, 8, 8, 8, 8, 8, 8, 8, 8, 8, 8, 8, 8, 8, 8, 8, 8, 8, 8, 8, 8, 8, 8, 8, 8, 8, 8, 8, 8, 8, 8, 8]⟩ : ByteArray) (i : Int) = (bl i : Int) := by decide +kernel
theorem bl_small {n k : Nat} (h : n < 2 ^ k) : bl n ≤ k := (bl_le n k).2 h
theorem len_j (x : Nat) (hx : x < 1048576) (k : Nat) : bits_Len64.j0 (k + 1) (x : Int) 0 = some (bl x : Int) := by
  rw [bits_Len64.j0]
  by_cases c : 65536 ≤ x
  · have e : bl x = 16 + bl (x / 65536) := bl_shift x 16 c
    have e2 : bl (x / 65536) ≤ 8 := bl_small (by omega)
    rw [if_pos (by omega), if_neg (by omega), if_pos (by omega), if_pos (by omega), show ((x : Int) / 65536) % 256 = ((x / 65536 : Nat) : Int) from by omega, tab_bl _ (by omega), w64 (x := (bl (x / 65536) : Int)) (by omega) (by omega), w64 (x := (0 : Int) + 16) (by omega) (by omega), w64 (by omega) (by omega), e]
    congr 1
  · rw [if_neg (by omega)]
    by_cases c2 : 256 ≤ x
    · have e : bl x = 8 + bl (x / 256) := bl_shift x 8 c2
      have e2 : bl (x / 256) ≤ 8 := bl_small (by omega)
      rw [if_pos (by omega), if_pos (by omega), if_pos (by omega), show ((x : Int) / 256) % 256 = ((x / 256 : Nat) : Int) from by omega, tab_bl _ (by omega), w64 (x := (bl (x / 256) : Int)) (by omega) (by omega), w64 (x := (0 : Int) + 8) (by omega) (by omega), w64 (by omega) (by omega), e]
      congr 1
    · have e2 : bl x ≤ 8 := bl_small (by omega)
      rw [if_neg (by omega), if_pos (by omega), if_pos (by omega), show (x : Int) % 256 = (x : Int) from by omega, tab_bl _ (by omega), w64 (x := (bl x : Int)) (by omega) (by omega), w64 (by omega) (by omega)]
      congr 1
      omega
theorem len_f (x : Nat) (hx : x < 1048576) : Ev (fun k => bits_Len.f k (x : Int)) (bl x : Int) := by
  refine ⟨1, fun k hk => ?_⟩
  obtain ⟨j, rfl⟩ := Nat.exists_eq_add_of_le' hk
  show (bits_Len64.f (j + 1) (x : Int)).bind _ = _
  rw [show bits_Len64.f (j + 1) (x : Int) = some (bl x : Int) from by rw [bits_Len64.f, if_neg (by omega), len_j x hx]]
  rfl
def bnd (n b : Int) : Int := wrap64 ((wrap64 ((wrap64 (2 * b)) * (wrap64 ((bl (n - 1).toNat : Int) + 1)))) + 1)
theorem bound_f (n : Nat) (b : Int) (h1 : 1 ≤ n) (hn : n ≤ 1000000) (h2 : 0 ≤ b) (h3 : b ≤ n) : Ev (fun k => halves_Bound.f k (n : Int) b) (bnd n b) := by
  unfold halves_Bound.f
  refine Ev.ifn (by omega) (Ev.ifn (by omega) (Ev.ifn (by omega) ?_))
  have e : IntKind.u64.wrap (wrap64 ((n : Int) - 1)) = ((n - 1 : Nat) : Int) := by
    rw [w64 (by omega) (by omega), show (n : Int) - 1 = ((n - 1 : Nat) : Int) from by omega]
    exact IntWalk.u64_in _ ⟨Int.natCast_nonneg _, by omega⟩
  rw [e]
  refine Ev.bind (len_f (n - 1) (by omega)) ?_
  unfold bnd
  rw [show ((n : Int) - 1).toNat = n - 1 from by omega]
  exact Ev.now _
theorem bnd_eq (n b : Nat) (h1 : 1 ≤ n) (hn : n ≤ 1000000) (h3 : b ≤ n) : bnd n b = ((2 * b * (bl (n - 1) + 1) + 1 : Nat) : Int) := by
  have e2 : bl (n - 1) ≤ 20 := bl_small (by omega)
  have e3 : 2 * b * (bl (n - 1) + 1) ≤ 2000000 * 21 := Nat.mul_le_mul (by omega) (by omega)
  have e4 : (2 * (b : Int)) * ((bl (n - 1) : Int) + 1) = ((2 * b * (bl (n - 1) + 1) : Nat) : Int) := by push_cast; rfl
  unfold bnd
  rw [show ((n : Int) - 1).toNat = n - 1 from by omega, w64 (x := 2 * (b : Int)) (by omega) (by omega), w64 (x := (bl (n - 1) : Int) + 1) (by omega) (by omega), e4, w64 (x := ((2 * b * (bl (n - 1) + 1) : Nat) : Int)) (by omega) (by omega), w64 (by omega) (by omega)]
  omega
theorem bound_calls (n b : Nat) (w : World) (h1 : 1 ≤ n) (hn : n ≤ 1000000) (h3 : b ≤ n) :
    Calls Try.prog 21 #[.int .i64 (n : Int), .int .i64 (b : Int)] w fun e w' => e = .returned (.int .i64 ((2 * b * (bl (n - 1) + 1) + 1 : Nat) : Int)) ∧ Below w.heap.size w w' := by
  obtain ⟨k, hk⟩ := (bound_f n b h1 hn (by omega) (by omega)).rounds
  refine (halves_Bound.calls k n b _ w hk).mono ?_
  rintro e w' ⟨rfl, hd⟩
  rw [bnd_eq n b h1 hn h3]
  exact ⟨rfl, hd.below⟩
end Go.Proofs.Ytdfnpjmebnlfbaa.Pure
