/- Layer 14 (saga), SagaGivenUp: for every input, behind a Cancel that was fine it never leaves the house; each phase asks for what is its own. No condition. -/
import Derived.Test.YtcghipdlihpbcaaLib
namespace Go.Proofs.Ytcghipdlihpbcaa.Pure
open Go.RowKit Go.Proofs.Ytcghipdlihpbcaa.PAll Go.Proofs.YtcghipdlihpbcaaW.PrintWords Go.Proofs.YtcghipdlihpbcaaW.PrintLast Go.Proofs.YtcghipdlihpbcaaW.PrintMore

/-- Given up: it can't leave any more. -/
def Up (p : Int) (g : Bool) : Prop := ((p = 1 ∨ p = 2 ∨ p = 4) ∧ g = true) ∨ 9 ≤ p
theorem step_given (p : Int) (g : Bool) (r e lim : Int) (hp : 1 ≤ p) (hp1 : p ≤ 12) (hr : 0 ≤ r) (hr1 : r ≤ 1000000) :
    ((stepS p g r e lim).2.2.2.2 = 0 → (1 ≤ (stepS p g r e lim).1 ∧ (stepS p g r e lim).1 ≤ 12) ∧ (0 ≤ (stepS p g r e lim).2.2.1 ∧ (stepS p g r e lim).2.2.1 ≤ 1000000) ∧
      ((stepS p g r e lim).2.2.2.1 ≠ 0 → (stepS p g r e lim).2.2.2.1 = asksS (stepS p g r e lim).1) ∧ (e ≠ 3 → asksS (stepS p g r e lim).1 = (stepS p g r e lim).2.2.2.1) ∧
      (Up p g ∨ e = 3 → Up (stepS p g r e lim).1 (stepS p g r e lim).2.1)) ∧
    ((stepS p g r e lim).2.2.2.2 ≠ 0 → (stepS p g r e lim).1 = p ∧ (stepS p g r e lim).2.1 = g ∧ (stepS p g r e lim).2.2.1 = r ∧ (stepS p g r e lim).2.2.2.1 = 0) := by
  have hc : p = 1 ∨ p = 2 ∨ p = 3 ∨ p = 4 ∨ p = 5 ∨ p = 6 ∨ p = 7 ∨ p = 8 ∨ p = 9 ∨ p = 10 ∨ p = 11 ∨ p = 12 := by omega
  have he : e = 1 ∨ e = 2 ∨ e = 3 ∨ e = 4 ∨ (e ≠ 1 ∧ e ≠ 2 ∧ e ≠ 3 ∧ e ≠ 4) := by omega
  rcases hc with rfl | rfl | rfl | rfl | rfl | rfl | rfl | rfl | rfl | rfl | rfl | rfl <;> rcases he with rfl | rfl | rfl | rfl | ⟨h1, h2, h3, h4⟩ <;> cases g <;>
    simp [stepS, yesS, noS, cancelS, wrongS, toS, asksS, Up, *] <;> (try (split <;> simp)) <;> (try omega)
theorem up_left {p : Int} {g : Bool} (h : Up p g) : ¬ p = 7 ∧ ¬ p = 8 := by
  rcases h with ⟨h, _⟩ | h <;> omega

theorem given_j1 (l : List Int) (lim : Int) (G : Bool) (x a i p : Int) (g : Bool) (r : Int) (ha : a ≠ 0 → a = asksS p) (hx : x ≠ 3 → asksS p = a) (hu : G = true → Up p g)
    (h : Ev (fun k => packhorselaw14_SagaGivenUp.l0 k lim G l (l.length : Int) (wrap64 (i + 1)) p g r) true) :
    Ev (fun k => packhorselaw14_SagaGivenUp.j1 k lim G x a l (l.length : Int) i p g r) true := by
  refine Ev.step (f := fun k => packhorselaw14_SagaGivenUp.l0 k lim G l (l.length : Int) (wrap64 (i + 1)) p g r) (fun k => ?_) h
  simp only [packhorselaw14_SagaGivenUp.j1]
  have e1 : saga_Left.f p g r = some (decide (p = 7 ∨ p = 8)) := by
    unfold saga_Left.f
    by_cases h7 : p = 7
    · simp [h7]
    · by_cases h8 : p = 8 <;> simp [h7, h8]
  have e2 : G = true → saga_Left.f p g r = some false := fun z => by
    rw [e1, decide_eq_false (fun h => h.elim (up_left (hu z)).1 (up_left (hu z)).2)]
  by_cases a0 : a = 0
  · by_cases x3 : x = 3
    · cases G
      · simp [a0, x3]
      · simp [a0, x3, e2]
    · have := hx x3
      cases G
      · simp [a0, x3, asks_eq, this]
      · simp [a0, x3, asks_eq, this, e2]
  · have h1 := ha a0
    by_cases x3 : x = 3
    · cases G
      · simp [a0, x3, asks_eq, ← h1]
      · simp [a0, x3, asks_eq, ← h1, e2]
    · cases G
      · simp [a0, x3, asks_eq, ← h1]
      · simp [a0, x3, asks_eq, ← h1, e2]

theorem given_loop (l : List Int) (lim : Int) (hl : l.length ≤ 1000) (d : Nat) : ∀ (i : Int) (G : Bool) (p : Int) (g : Bool) (r : Int), 0 ≤ i → i + d = l.length → 1 ≤ p → p ≤ 12 → 0 ≤ r → r ≤ 1000000 → (G = true → Up p g) →
    Ev (fun k => packhorselaw14_SagaGivenUp.l0 k lim G l (l.length : Int) i p g r) true := by
  induction d with
  | zero =>
    intro i G p g r h0 h hp hp1 hr hr1 hu
    refine Ev.step (f := fun _ => some true) (fun k => ?_) (Ev.now _)
    simp only [packhorselaw14_SagaGivenUp.l0]
    rw [if_neg (by omega), if_pos (by omega), decide_eq_true hp1]
  | succ d ih =>
    intro i G p g r h0 h hp hp1 hr hr1 hu
    obtain ⟨s1, s2⟩ := step_given p g r (rd l i) lim hp hp1 hr hr1
    refine Ev.step (f := fun k => (saga_Step.f k p g r (rd l i) lim).bind fun b => (if b.2.2.2.2 = 0 then (if G = true then (packhorselaw14_SagaGivenUp.j1 k lim true (rd l i) b.2.2.2.1 l (l.length : Int) i b.1 b.2.1 b.2.2.1) else (packhorselaw14_SagaGivenUp.j1 k lim ((rd l i) == 3) (rd l i) b.2.2.2.1 l (l.length : Int) i b.1 b.2.1 b.2.2.1)) else (if (!(b.1 == p) || (!(b.2.1 == g) || (!(b.2.2.1 == r)))) = true then (some false) else (if b.2.2.2.1 = 0 then (packhorselaw14_SagaGivenUp.l0 k lim G l (l.length : Int) (wrap64 (i + 1)) p g r) else (some false))))) (fun k => ?_) ?_
    · simp only [packhorselaw14_SagaGivenUp.l0]
      rw [if_pos (by omega), if_pos h0, if_pos (by omega)]
    · refine Ev.bind (step_ev p g r (rd l i) lim (by omega)) ?_
      by_cases e0 : (stepS p g r (rd l i) lim).2.2.2.2 = 0
      · obtain ⟨⟨t1, t2⟩, ⟨t3, t4⟩, t5, t6, t7⟩ := s1 e0
        simp only [if_pos e0]
        cases G
        · simp only [Bool.false_eq_true, if_false]
          refine given_j1 l lim _ _ _ i _ _ _ t5 t6 (fun z => t7 (.inr (by simpa using z))) ?_
          rw [w64 (by omega) (by omega)]
          exact ih (i + 1) _ _ _ _ (by omega) (by omega) t1 t2 t3 t4 (fun z => t7 (.inr (by simpa using z)))
        · simp only [if_true]
          refine given_j1 l lim _ _ _ i _ _ _ t5 t6 (fun z => t7 (.inl (hu rfl))) ?_
          rw [w64 (by omega) (by omega)]
          exact ih (i + 1) _ _ _ _ (by omega) (by omega) t1 t2 t3 t4 (fun z => t7 (.inl (hu rfl)))
      · obtain ⟨t1, t2, t3, t4⟩ := s2 e0
        simp only [if_neg e0, t1, t2, t3, t4, beq_self_eq_true, Bool.not_true, Bool.or_false, Bool.false_eq_true, if_false, if_true]
        rw [w64 (by omega) (by omega)]
        exact ih (i + 1) _ _ _ _ (by omega) (by omega) hp hp1 hr hr1 hu

theorem SagaGivenUp : packhorselaw14_SagaGivenUp.PureQ := by
  intro l lim _ _
  refine Ev.rounds (g := fun k => packhorselaw14_SagaGivenUp.f k l lim) ?_
  unfold packhorselaw14_SagaGivenUp.f
  refine Ev.bind alive_ev ?_
  simp only [if_true]
  by_cases h1 : (l.length : Int) > 1000
  · simp only [if_pos h1]; exact Ev.now _
  simp only [if_neg h1]
  exact given_loop l lim (by omega) l.length 0 false 1 false 0 (by omega) (by omega) (by omega) (by omega) (by omega) (by omega) (fun z => by cases z)
end Go.Proofs.Ytcghipdlihpbcaa.Pure
