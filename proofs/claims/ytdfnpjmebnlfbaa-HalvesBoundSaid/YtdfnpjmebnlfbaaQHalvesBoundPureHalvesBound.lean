
import Derived.Test.YtdfnpjmebnlfbaaQHalvesBoundOps
import Derived.Test.YtdfnpjmebnlfbaaQHalvesBoundSame
namespace Go.Proofs.YtdfnpjmebnlfbaaW.PrintMore
end Go.Proofs.YtdfnpjmebnlfbaaW.PrintMore
set_option linter.unusedVariables false
namespace Go.Proofs.Ytdfnpjmebnlfbaa.Pure
open Go.RowKit Go.Proofs.Ytdfnpjmebnlfbaa Go.Proofs.Ytdfnpjmebnlfbaa.PAll Go.Proofs.YtdfnpjmebnlfbaaW.PrintWords Go.Proofs.YtdfnpjmebnlfbaaW.PrintLast Go.Proofs.YtdfnpjmebnlfbaaW.PrintMore
def bl (n : Nat) : Nat := if n = 0 then 0 else n.log2 + 1
theorem bl_le (n k : Nat) : bl n ≤ k ↔ n < 2 ^ k := by
  unfold bl
  by_cases h : n = 0
  · subst h; exact ⟨fun _ => Nat.two_pow_pos k, fun _ => Nat.zero_le _⟩
  · rw [if_neg h, Nat.add_one_le_iff, Nat.log2_lt h]
theorem bl_eq {n m : Nat} (h : ∀ k, n < 2 ^ k ↔ m ≤ k) : bl n = m :=
  Nat.le_antisymm ((bl_le n m).2 ((h m).2 (Nat.le_refl _))) ((h _).1 ((bl_le n _).1 (Nat.le_refl _)))
theorem bl_shift (n c : Nat) (h : 2 ^ c ≤ n) : bl n = c + bl (n / 2 ^ c) := by
  refine bl_eq fun k => ?_
  by_cases hk : c ≤ k
  · obtain ⟨j, rfl⟩ := Nat.exists_eq_add_of_le hk
    rw [Nat.add_le_add_iff_left, bl_le, Nat.div_lt_iff_lt_mul (Nat.two_pow_pos c), Nat.pow_add, Nat.mul_comm]
  · refine ⟨fun h2 => ?_, fun h2 => by omega⟩
    have := Nat.pow_le_pow_right (n := 2) (by decide) (show k ≤ c by omega)
    omega
theorem tab_bl : ∀ i : Nat, i < 256 → bt (⟨#[0, 1, 2, 2, 3, 3, 3, 3, 4, 4, 4, 4, 4, 4, 4, 4, 5, 5, 5, 5, 5, 5, 5, 5, 5, 5, 5, 5, 5, 5, 5, 5, 6, 6, 6, 6, 6, 6, 6, 6, 6, 6, 6, 6, 6, 6, 6, 6, 6, 6, 6, 6, 6, 6, 6, 6, 6, 6, 6, 6, 6, 6, 6, 6, 7, 7, 7, 7, 7, 7, 7, 7, 7, 7, 7, 7, 7, 7, 7, 7, 7, 7, 7, 7, 7, 7, 7, 7, 7, 7, 7, 7, 7, 7, 7, 7, 7, 7, 7, 7, 7, 7, 7, 7, 7, 7, 7, 7, 7, 7, 7, 7, 7, 7, 7, 7, 7, 7, 7, 7, 7, 7, 7, 7, 7, 7, 7, 7, 8, 8, 8, 8, 8, 8, 8, 8, 8, 8, 8, 8, 8, 8, 8, 8, 8, 8, 8, 8, 8, 8, 8, 8, 8, 8, 8, 8, 8, 8, 8, 8, 8, 8, 8, 8, 8, 8, 8, 8, 8, 8, 8, 8, 8, 8, 8, 8, 8, 8, 8, 8, 8, 8, 8, 8, 8, 8, 8, 8, 8, 8, 8, 8, 8, 8, 8, 8, 8, 8, 8, 8, 8, 8, 8, 8, 8, 8, 8, 8, 8, 8, 8, 8, 8, 8, 8, 8, 8, 8, 8, 8, 8, 8, 8, 8, 8, 8, 8, 8, 8, 8, 8, 8, 8, 8, 8, 8, 8, 8, 8, 8, 8, 8, 8, 8, 8, 8, 8, 8, 8, 8, 8, 8, 8, 8, 8, 8]⟩ : ByteArray) (i : Int) = (bl i : Int) := by decide +kernel
theorem bl_small {n k : Nat} (h : n < 2 ^ k) : bl n ≤ k := (bl_le n k).2 h
theorem len_j (x : Nat) (hx : x < 1048576) (k : Nat) : bits_Len64.j0 (k + 1) (x : Int) 0 = some (bl x : Int) := by
  rw [bits_Len64.j0]
  by_cases c : 65536 ≤ x
  · have e : bl x = 16 + bl (x / 65536) := bl_shift x 16 c
    have e2 : bl (x / 65536) ≤ 8 := bl_small (by omega)
    rw [if_pos (by omega), if_neg (by omega), if_pos (by omega), if_pos (by omega), show ((x : Int) / 65536) % 256 = ((x / 65536 : Nat) : Int) from by omega, tab_bl _ (by omega), w64 (x := (bl (x / 65536) : Int)) (by omega) (by omega), w64 (x := (0 : Int) + 16) (by omega) (by omega), w64 (by omega) (by omega), e]
    congr 1
  · rw [if_neg (by omega)]
    by_cases c2 : 256 ≤ x
    · have e : bl x = 8 + bl (x / 256) := bl_shift x 8 c2
      have e2 : bl (x / 256) ≤ 8 := bl_small (by omega)
      rw [if_pos (by omega), if_pos (by omega), if_pos (by omega), show ((x : Int) / 256) % 256 = ((x / 256 : Nat) : Int) from by omega, tab_bl _ (by omega), w64 (x := (bl (x / 256) : Int)) (by omega) (by omega), w64 (x := (0 : Int) + 8) (by omega) (by omega), w64 (by omega) (by omega), e]
      congr 1
    · have e2 : bl x ≤ 8 := bl_small (by omega)
      rw [if_neg (by omega), if_pos (by omega), if_pos (by omega), show (x : Int) % 256 = (x : Int) from by omega, tab_bl _ (by omega), w64 (x := (bl x : Int)) (by omega) (by omega), w64 (by omega) (by omega)]
      congr 1
      omega
theorem len_f (x : Nat) (hx : x < 1048576) : Ev (fun k => bits_Len.f k (x : Int)) (bl x : Int) := by
  refine ⟨1, fun k hk => ?_⟩
  obtain ⟨j, rfl⟩ := Nat.exists_eq_add_of_le' hk
  show (bits_Len64.f (j + 1) (x : Int)).bind _ = _
  rw [show bits_Len64.f (j + 1) (x : Int) = some (bl x : Int) from by rw [bits_Len64.f, if_neg (by omega), len_j x hx]]
  rfl
def bnd (n b : Int) : Int := wrap64 ((wrap64 ((wrap64 (2 * b)) * (wrap64 ((bl (n - 1).toNat : Int) + 1)))) + 1)
theorem ref_l (n : Nat) (b : Int) (h1 : 1 ≤ n) (hn : n ≤ 1000000) (d : Nat) : ∀ j p : Nat, p = 2 ^ j → j + d = bl (n - 1) → Ev (fun k => packhorseref12_Bound.l0 k (n : Int) b (j : Int) (p : Int)) (bnd n b) := by
  have e2 : bl (n - 1) ≤ 20 := bl_small (by omega)
  induction d with
  | zero =>
    intro j p hp hj
    have h2 : n - 1 < p := by rw [hp]; exact (bl_le _ _).1 (by omega)
    refine Ev.step (f := fun _ => some (bnd n b)) (fun k => ?_) (Ev.now _)
    rw [packhorseref12_Bound.l0, if_neg (by omega)]
    unfold bnd
    rw [show ((n : Int) - 1).toNat = n - 1 from by omega, show bl (n - 1) = j from by omega]
  | succ d ih =>
    intro j p hp hj
    have h2 : ¬ n - 1 < p := fun h => by rw [hp] at h; have := (bl_le _ _).2 h; omega
    have k := ih (j + 1) (2 * p) (by rw [hp, Nat.pow_succ, Nat.mul_comm]) (by omega)
    rw [show ((j + 1 : Nat) : Int) = (j : Int) + 1 from by omega, show ((2 * p : Nat) : Int) = 2 * (p : Int) from by omega] at k
    refine Ev.step (fun k => ?_) k
    rw [packhorseref12_Bound.l0, if_pos (by omega), w64 (x := (j : Int) + 1) (by omega) (by omega), w64 (x := 2 * (p : Int)) (by omega) (by omega)]
theorem HalvesBound : packhorselaw12_HalvesBound.PureQ := by
  intro a0 a1 w0 w1
  refine Ev.rounds (g := fun k => packhorselaw12_HalvesBound.f k a0 a1) ?_
  unfold packhorselaw12_HalvesBound.f
  refine Ev.bindc (a := true) rfl (Ev.ifp rfl ?_)
  by_cases c : a0 > 1000000
  · exact Ev.ifp c (Ev.now _)
  refine Ev.ifn c ?_
  have both : ∀ r : Int, Ev (fun k => halves_Bound.f k a0 a1) r → Ev (fun k => packhorseref12_Bound.f k a0 a1) r → Ev (fun k => (halves_Bound.f k a0 a1).bind fun t => (packhorseref12_Bound.f k a0 a1).bind fun u => some (t == u)) true := by
    intro r h1 h2
    refine Ev.bind h1 (Ev.bind h2 ?_)
    rw [show (r == r) = true from by simp]
    exact Ev.now _
  have stop : ∀ x17 : Bool, x17 = true → Ev (fun k => packhorseref12_Bound.j0 k a0 a1 x17) 0 := by
    rintro _ rfl
    exact Ev.step (f := fun _ => some 0) (fun k => by rw [packhorseref12_Bound.j0, if_pos rfl]) (Ev.now _)
  by_cases c1 : a0 < 1
  · refine both 0 ?_ ?_
    · unfold halves_Bound.f; exact Ev.ifp c1 (Ev.now _)
    · unfold packhorseref12_Bound.f; exact Ev.ifp c1 (stop _ rfl)
  by_cases c2 : a1 < 0
  · refine both 0 ?_ ?_
    · unfold halves_Bound.f; exact Ev.ifn c1 (Ev.ifp c2 (Ev.now _))
    · unfold packhorseref12_Bound.f; exact Ev.ifn c1 (Ev.ifp c2 (stop _ rfl))
  by_cases c3 : a1 > a0
  · refine both 0 ?_ ?_
    · unfold halves_Bound.f; exact Ev.ifn c1 (Ev.ifn c2 (Ev.ifp c3 (Ev.now _)))
    · unfold packhorseref12_Bound.f; exact Ev.ifn c1 (Ev.ifn c2 (stop _ (decide_eq_true c3)))
  obtain ⟨n, rfl⟩ : ∃ n : Nat, a0 = (n : Int) := ⟨a0.toNat, by omega⟩
  refine both (bnd n a1) ?_ ?_
  · unfold halves_Bound.f
    refine Ev.ifn c1 (Ev.ifn c2 (Ev.ifn c3 ?_))
    have e : IntKind.u64.wrap (wrap64 ((n : Int) - 1)) = ((n - 1 : Nat) : Int) := by
      rw [w64 (by omega) (by omega), show (n : Int) - 1 = ((n - 1 : Nat) : Int) from by omega]
      exact IntWalk.u64_in _ ⟨Int.natCast_nonneg _, by omega⟩
    rw [e]
    refine Ev.bind (len_f (n - 1) (by omega)) ?_
    unfold bnd
    rw [show ((n : Int) - 1).toNat = n - 1 from by omega]
    exact Ev.now _
  · unfold packhorseref12_Bound.f
    refine Ev.ifn c1 (Ev.ifn c2 ?_)
    refine Ev.step (f := fun k => packhorseref12_Bound.l0 k (n : Int) a1 0 1) (fun k => by rw [packhorseref12_Bound.j0, if_neg (by simpa using c3)]) ?_
    exact ref_l n a1 (by omega) (by omega) (bl (n - 1)) 0 1 rfl (by omega)
end Go.Proofs.Ytdfnpjmebnlfbaa.Pure
