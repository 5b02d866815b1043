/- Layer 2 (tally), TallyTells: for every input, of two numbers together, one less the other, one so many times, the program's answers are the reference's. No condition. -/
import Derived.Test.YtafmpeibdbadaaaLib
namespace Go.Proofs.Ytafmpeibdbadaaa.Pure
open Go.RowKit Go.Proofs.Ytafmpeibdbadaaa.PAll Go.Proofs.YtafmpeibdbadaaaW.PrintWords Go.Proofs.YtafmpeibdbadaaaW.PrintLast

theorem ref_add (a b : Int) : packhorseref02_Add.f a b = some (addS a b) := by
  unfold packhorseref02_Add.f
  rw [ref_right, ref_right]; simp only [Option.bind_some]
  by_cases h : ok a = true
  · by_cases k : ok b = true
    · have h1 := (ok_iff a).1 h
      have k1 := (ok_iff b).1 k
      rw [if_pos h, if_pos k, addS_yes h k, w64 (by omega) (by omega), w64 (by omega) (by omega)]
      by_cases c : ok (a + b) = true
      · rw [tell_yes c, if_neg (by have := (ok_iff _).1 c; omega)]
      · rw [tell_no c, if_pos (by rw [ok_iff] at c; omega)]
    · rw [if_pos h, if_neg k]; unfold addS; rw [if_neg (fun z => k z.2)]
  · rw [if_neg h]; unfold addS; rw [if_neg (fun z => h z.1)]

theorem ref_less (a b : Int) : packhorseref02_Less.f a b = some (lessS a b) := by
  unfold packhorseref02_Less.f
  rw [ref_right, ref_right]; simp only [Option.bind_some]
  by_cases h : ok a = true
  · by_cases k : ok b = true
    · have h1 := (ok_iff a).1 h
      have k1 := (ok_iff b).1 k
      rw [if_pos h, if_pos k, lessS_yes h k, w64 (by omega) (by omega)]
      by_cases c : ok (a - b) = true
      · rw [tell_yes c, if_neg (by have := (ok_iff _).1 c; omega)]
      · rw [tell_no c, if_pos (by rw [ok_iff] at c; omega)]
    · rw [if_pos h, if_neg k]; unfold lessS; rw [if_neg (fun z => k z.2)]
  · rw [if_neg h]; unfold lessS; rw [if_neg (fun z => h z.1)]

theorem ref_times (a b : Int) : packhorseref02_Times.f a b = some (timesS a b) := by
  unfold packhorseref02_Times.f
  rw [ref_right, ref_right]; simp only [Option.bind_some]
  by_cases h : ok a = true
  · by_cases k : ok b = true
    · have h1 := (ok_iff a).1 h
      have k1 := (ok_iff b).1 k
      rw [if_pos h, if_pos k, timesS_yes h k]
      have hm := mul_le h1.1 k1.1 h1.2 k1.2
      by_cases z : b > 0
      · rw [if_pos z, if_neg (by omega), Int.tdiv_eq_ediv_of_nonneg (by omega)]
        have q0 : 0 ≤ (1000000000000 : Int) / b := Int.ediv_nonneg (by omega) (by omega)
        have q1 : (1000000000000 : Int) / b ≤ 1000000000000 := Int.ediv_le_self _ (by omega)
        rw [w64 (x := 1000000000000 / b) (by omega) (by omega)]
        have key : a ≤ 1000000000000 / b ↔ a * b ≤ 1000000000000 := Int.le_ediv_iff_mul_le z
        by_cases c : ok (a * b) = true
        · have c1 := (ok_iff _).1 c
          rw [tell_yes c, if_neg (by omega), w64 (by omega) (by omega)]
        · rw [tell_no c, if_pos (by rw [ok_iff] at c; omega)]
      · obtain rfl : b = 0 := by omega
        rw [if_neg (by omega)]; simp [tell, ok, wrap64]
    · rw [if_pos h, if_neg k]; unfold timesS; rw [if_neg (fun z => k z.2)]
  · rw [if_neg h]; unfold timesS; rw [if_neg (fun z => h z.1)]

theorem TallyTells : packhorselaw02_TallyTells.Pure := by
  intro a b _ _
  refine Ev.rounds (g := fun k => packhorselaw02_TallyTells.f k a b) ?_
  unfold packhorselaw02_TallyTells.f
  refine Ev.bind alive_ev ?_
  simp only [if_true]
  rw [add_eq, ref_add, less_eq, ref_less, ref_times, right_eq, ref_right]
  simp only [Option.bind_some]
  refine Ev.bind (times_ev a b) ?_
  simp
  exact Ev.now _

end Go.Proofs.Ytafmpeibdbadaaa.Pure
