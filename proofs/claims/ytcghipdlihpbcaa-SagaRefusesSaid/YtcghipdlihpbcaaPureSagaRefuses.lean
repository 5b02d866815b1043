/- Layer 14 (saga), SagaRefuses: for every input, what undoes is tried as often as the limit says, no more, no less; then it is stuck. No condition. -/
import Derived.Test.YtcghipdlihpbcaaLib
namespace Go.Proofs.Ytcghipdlihpbcaa.Pure
open Go.RowKit Go.Proofs.Ytcghipdlihpbcaa.PAll Go.Proofs.YtcghipdlihpbcaaW.PrintWords Go.Proofs.YtcghipdlihpbcaaW.PrintLast Go.Proofs.YtcghipdlihpbcaaW.PrintMore

theorem no_more (p lim i : Int) (hp : p = 9 ∨ p = 10) (h0 : 1 ≤ i) (h1 : i ≤ 2000) :
    stepS p false (i - 1) 2 lim = if i ≥ max lim 1 then (12, false, i, 0, 0) else (p, false, i, asksS p, 0) := by
  have e : min (i - 1) 999999 + 1 = i := by omega
  have m : max (max lim 1) 1 = max lim 1 := by omega
  rcases hp with rfl | rfl <;> simp [stepS, noS, toS, e, m] <;> split <;> simp [asksS]

theorem refuse_loop (p lim : Int) (hp : p = 9 ∨ p = 10) (hl : lim ≤ 2000) (d : Nat) : ∀ i : Int, 1 ≤ i → i + d = max lim 1 →
    Ev (fun k => packhorselaw14_SagaRefuses.l0 k lim (asksS p) i p false (i - 1)) true := by
  induction d with
  | zero =>
    intro i h0 h
    refine Ev.step (f := fun k => (saga_Step.f k p false (i - 1) 2 lim).bind fun b => if b.2.2.2.2 = 0 then (if b.2.2.2.1 = 0 then (if b.1 = 12 then (some (b.2.2.1 == (mx lim 1))) else (some false)) else (some false)) else (some false)) (fun k => ?_) ?_
    · simp only [packhorselaw14_SagaRefuses.l0]
      rw [if_neg (by rw [mx_eq]; omega)]
    · refine Ev.bind (step_ev p false (i - 1) 2 lim (by omega)) ?_
      have e := no_more p lim i hp h0 (by omega)
      rw [if_pos (show i ≥ max lim 1 by omega)] at e
      rw [e]
      simp only [if_true, mx_eq]
      rw [show (i == max lim 1) = true by rw [beq_iff_eq]; omega]
      exact Ev.now _
  | succ d ih =>
    intro i h0 h
    have := ih (i + 1) (by omega) (by omega)
    rw [show i + 1 - 1 = i by omega] at this
    refine Ev.step (f := fun k => (saga_Step.f k p false (i - 1) 2 lim).bind fun b => if b.2.2.2.2 = 0 then (if b.2.2.2.1 = asksS p then (if b.1 = p then (if b.2.2.1 = i then (packhorselaw14_SagaRefuses.l0 k lim (asksS p) (i + 1) b.1 b.2.1 b.2.2.1) else (some false)) else (some false)) else (some false)) else (some false)) (fun k => ?_) ?_
    · simp only [packhorselaw14_SagaRefuses.l0]
      rw [if_pos (by rw [mx_eq]; omega), w64 (by omega) (by omega)]
    · refine Ev.bind (step_ev p false (i - 1) 2 lim (by omega)) ?_
      have e := no_more p lim i hp h0 (by omega)
      rw [if_neg (show ¬ i ≥ max lim 1 by omega)] at e
      rw [e]
      simp only [if_true]
      exact this

theorem SagaRefuses : packhorselaw14_SagaRefuses.PureQ := by
  intro rel lim _
  refine Ev.rounds (g := fun k => packhorselaw14_SagaRefuses.f k rel lim) ?_
  unfold packhorselaw14_SagaRefuses.f
  refine Ev.bind alive_ev ?_
  simp only [if_true]
  by_cases h : lim > 2000
  · simp only [if_pos h]; exact Ev.now _
  · simp only [if_neg h]
    have go : ∀ p : Int, p = 9 ∨ p = 10 → Ev (fun k => packhorselaw14_SagaRefuses.j0 k lim p false 0) true := by
      intro p hp
      have := refuse_loop p lim hp (by omega) (max lim 1 - 1).toNat 1 (by omega) (by omega)
      refine Ev.step (f := fun k => packhorselaw14_SagaRefuses.l0 k lim (asksS p) 1 p false (1 - 1)) (fun k => ?_) this
      simp only [packhorselaw14_SagaRefuses.j0]
      rw [asks_eq]; rfl
    cases rel
    · simp only [Bool.false_eq_true, if_false]; exact go 9 (.inl rfl)
    · simp only [if_true]; exact go 10 (.inr rfl)
end Go.Proofs.Ytcghipdlihpbcaa.Pure
