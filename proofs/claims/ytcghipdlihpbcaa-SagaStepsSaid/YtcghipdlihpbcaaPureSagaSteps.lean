/- Layer 14 (saga), SagaSteps: of any saga, any event and any limit the program's Step answers as the document says. No condition. -/
import Derived.Test.YtcghipdlihpbcaaLib
namespace Go.Proofs.Ytcghipdlihpbcaa.Pure
open Go.RowKit Go.Proofs.Ytcghipdlihpbcaa.PAll Go.Proofs.YtcghipdlihpbcaaW.PrintWords Go.Proofs.YtcghipdlihpbcaaW.PrintLast Go.Proofs.YtcghipdlihpbcaaW.PrintMore

theorem same_lim (lim : Int) : max lim 1 = (if lim < 1 then 1 else lim) := by split <;> omega
theorem same_max (lim : Int) : max (max lim 1) 1 = max lim 1 := by omega
set_option maxHeartbeats 16000000 in
set_option maxRecDepth 100000 in
/-- Within the table: the same. -/
theorem in_same (p : Int) (g : Bool) (r e lim : Int) (h0 : 0 ≤ r) (h1 : r ≤ 1000000) (hp0 : 1 ≤ p) (hp1 : p ≤ 12) (he0 : 1 ≤ e) (he1 : e ≤ 4) : stepQ (rq g p e) (ra g p e) p g r e lim = stepS p g r e lim := by
  have hw : wrap64 (mn r 999999 + 1) = min r 999999 + 1 := by rw [mn_eq]; exact w64 (by omega) (by omega)
  have hl := same_lim lim
  generalize hM : (if lim < 1 then (1 : Int) else lim) = M at hl
  have hp : p = 1 ∨ p = 2 ∨ p = 3 ∨ p = 4 ∨ p = 5 ∨ p = 6 ∨ p = 7 ∨ p = 8 ∨ p = 9 ∨ p = 10 ∨ p = 11 ∨ p = 12 := by omega
  have he : e = 1 ∨ e = 2 ∨ e = 3 ∨ e = 4 := by omega
  unfold stepQ
  rw [hw, hM]
  rcases he with rfl | rfl | rfl | rfl
  · rcases hp with rfl | rfl | rfl | rfl | rfl | rfl | rfl | rfl | rfl | rfl | rfl | rfl <;> cases g <;> rfl
  · have e2 : stepS p g r 2 lim = noS p g r M := by
      unfold stepS
      rw [if_neg (show ¬ (2 : Int) = 1 by decide), if_pos (show (2 : Int) = 2 from rfl), hl]
    have hM1 : max M 1 = M := by omega
    rw [e2]
    unfold noS
    rw [hM1]
    generalize min r 999999 + 1 = V
    rcases hp with rfl | rfl | rfl | rfl | rfl | rfl | rfl | rfl | rfl | rfl | rfl | rfl <;> cases g <;> rfl
  · rcases hp with rfl | rfl | rfl | rfl | rfl | rfl | rfl | rfl | rfl | rfl | rfl | rfl <;> cases g <;> rfl
  · rcases hp with rfl | rfl | rfl | rfl | rfl | rfl | rfl | rfl | rfl | rfl | rfl | rfl <;> cases g <;> rfl
theorem out_same (p : Int) (g : Bool) (r e lim : Int) (h : ¬ (1 ≤ p ∧ p ≤ 12 ∧ 1 ≤ e ∧ e ≤ 4)) : stepS p g r e lim = (p, g, r, 0, 142) := by
  unfold stepS
  by_cases e1 : e = 1
  · rw [if_pos e1]; unfold yesS wrongS
    repeat' split
    all_goals first | rfl | omega
  rw [if_neg e1]
  by_cases e2 : e = 2
  · rw [if_pos e2]; unfold noS wrongS
    repeat' split
    all_goals first | rfl | omega
  rw [if_neg e2]
  by_cases e3 : e = 3
  · rw [if_pos e3]; unfold cancelS wrongS
    repeat' split
    all_goals first | rfl | omega
  rw [if_neg e3]
  by_cases e4 : e = 4
  · rw [if_pos e4]; unfold wrongS
    repeat' split
    all_goals first | rfl | omega
  rw [if_neg e4]; rfl
theorem ref_step (p : Int) (g : Bool) (r e lim : Int) (h0 : 0 ≤ r) (h1 : r ≤ 1000000) : packhorseref14_Step.f p g r e lim = some (stepS p g r e lim) := by
  unfold packhorseref14_Step.f
  by_cases c : 1 ≤ p ∧ p ≤ 12 ∧ 1 ≤ e ∧ e ≤ 4
  · rw [if_pos c, in_same p g r e lim h0 h1 c.1 c.2.1 c.2.2.1 c.2.2.2]
  · rw [if_neg c, out_same p g r e lim c]
theorem SagaSteps : packhorselaw14_SagaSteps.PureQ := by
  intro p g r e lim _ hr _ _
  refine Ev.rounds (g := fun k => packhorselaw14_SagaSteps.f k p g r e lim) ?_
  have fin : Ev (fun k => packhorselaw14_SagaSteps.j0 k e lim true p g r) true := Ev.of (packhorselaw14_SagaSteps.mono_l · _ _ _ _ _ _) (k := 1) (by rw [packhorselaw14_SagaSteps.j0, if_pos rfl])
  unfold packhorselaw14_SagaSteps.f
  refine Ev.bind alive_ev (Ev.congr (fun k => if_pos rfl) ?_)
  by_cases c1 : r < 0
  · exact Ev.congr (fun k => if_pos c1) fin
  refine Ev.congr (fun k => if_neg c1) ?_
  by_cases c2 : r > 1000000
  · rw [decide_eq_true c2]; exact fin
  rw [decide_eq_false c2]
  refine Ev.step (fun k => by rw [packhorselaw14_SagaSteps.j0, if_neg (by decide)]) ?_
  refine Ev.bind (step_ev p g r e lim (by omega)) ?_
  rw [ref_step p g r e lim (by omega) (by omega)]
  generalize stepS p g r e lim = x
  obtain ⟨x1, x2, x3, x4, x5⟩ := x
  refine ⟨0, fun k _ => ?_⟩
  simp
end Go.Proofs.Ytcghipdlihpbcaa.Pure
