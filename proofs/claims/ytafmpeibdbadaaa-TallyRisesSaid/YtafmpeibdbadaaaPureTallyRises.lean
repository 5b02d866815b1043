/- Layer 2 (tally), TallyRises: for every input, more of one is more of all, and the least and the greatest have their places. No condition. -/
import Derived.Test.YtafmpeibdbadaaaLib
namespace Go.Proofs.Ytafmpeibdbadaaa.Pure
open Go.RowKit Go.Proofs.Ytafmpeibdbadaaa.PAll Go.Proofs.YtafmpeibdbadaaaW.PrintWords Go.Proofs.YtafmpeibdbadaaaW.PrintLast

theorem TallyRises : packhorselaw02_TallyRises.Pure := by
  intro a b c _ _ _
  refine Ev.rounds (g := fun k => packhorselaw02_TallyRises.f k a b c) ?_
  unfold packhorselaw02_TallyRises.f
  refine Ev.bind alive_ev ?_
  simp only [if_true]
  rw [add_eq, add_eq, add_eq]
  simp only [Option.bind_some]
  refine Ev.bind (times_ev a c) ?_
  refine Ev.bind (times_ev b c) ?_
  have fin : Ev (fun k => packhorselaw02_TallyRises.j0 k a (addS a 0).1 (addS a 0).2 false) true := by
    refine Ev.of (packhorselaw02_TallyRises.mono_l · _ _ _ _) (k := 1) ?_
    simp only [packhorselaw02_TallyRises.j0]
    rw [right_eq]; simp only [Option.bind_some]
    by_cases h : ok a = true
    · have h0 : ok 0 = true := by decide
      rw [addS_yes h h0, show a + 0 = a by omega, tell_yes h]; simp [h]
    · have e : addS a 0 = (0, 21) := by unfold addS; rw [if_neg (fun z => h z.1)]
      rw [e, Bool.eq_false_iff.2 h]; simp
  have hlt : (addS a c).2 = 0 → (addS b c).2 = 0 → (decide ((addS a c).1 < (addS b c).1) != decide (a < b)) = false := by
    intro h1 h2
    obtain ⟨_, _, _, e1⟩ := addS_ok h1
    obtain ⟨_, _, _, e2⟩ := addS_ok h2
    rw [e1, e2]
    by_cases h : a < b
    · rw [decide_eq_true h, decide_eq_true (by simp only; omega)]; rfl
    · rw [decide_eq_false h, decide_eq_false (by simp only; omega)]; rfl
  have hmul : (timesS a c).2 = 0 → (timesS b c).2 = 0 → a ≤ b → ¬ (timesS a c).1 > (timesS b c).1 := by
    intro h1 h2 h
    obtain ⟨_, q, _, e1⟩ := timesS_ok h1
    obtain ⟨_, _, _, e2⟩ := timesS_ok h2
    rw [e1, e2]
    have := Int.mul_le_mul_of_nonneg_right h ((ok_iff c).1 q).1
    simp only; omega
  have rest : Ev (fun k => if (timesS a c).2 = 0 then if (timesS b c).2 = 0 then if a ≤ b then packhorselaw02_TallyRises.j0 k a (addS a 0).1 (addS a 0).2 (decide ((timesS a c).1 > (timesS b c).1)) else packhorselaw02_TallyRises.j0 k a (addS a 0).1 (addS a 0).2 false else packhorselaw02_TallyRises.j0 k a (addS a 0).1 (addS a 0).2 false else packhorselaw02_TallyRises.j0 k a (addS a 0).1 (addS a 0).2 false) true := by
    by_cases h1 : (timesS a c).2 = 0
    · by_cases h2 : (timesS b c).2 = 0
      · by_cases h3 : a ≤ b
        · simp only [if_pos h1, if_pos h2, if_pos h3, decide_eq_false (hmul h1 h2 h3)]; exact fin
        · simp only [if_pos h1, if_pos h2, if_neg h3]; exact fin
      · simp only [if_pos h1, if_neg h2]; exact fin
    · simp only [if_neg h1]; exact fin
  by_cases h1 : (addS a c).2 = 0
  · by_cases h2 : (addS b c).2 = 0
    · simp only [if_pos h1, if_pos h2, hlt h1 h2]; exact rest
    · simp only [if_pos h1, if_neg h2]; exact rest
  · simp only [if_neg h1]; exact rest

end Go.Proofs.Ytafmpeibdbadaaa.Pure
