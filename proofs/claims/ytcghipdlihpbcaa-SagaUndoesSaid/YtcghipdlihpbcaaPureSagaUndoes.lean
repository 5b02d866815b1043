/- Layer 14 (saga), SagaUndoes: for every input, who is being undone is never done any more; who is over stays so, whatever happens. No condition. -/
import Derived.Test.YtcghipdlihpbcaaLib
namespace Go.Proofs.Ytcghipdlihpbcaa.Pure
open Go.RowKit Go.Proofs.Ytcghipdlihpbcaa.PAll Go.Proofs.YtcghipdlihpbcaaW.PrintWords Go.Proofs.YtcghipdlihpbcaaW.PrintLast Go.Proofs.YtcghipdlihpbcaaW.PrintMore

/-- Who is over stays so. -/
theorem step_over (p : Int) (g : Bool) (r e lim : Int) (hp : p = 8 ∨ p = 11 ∨ p = 12) : (stepS p g r e lim).1 = p ∧ (stepS p g r e lim).2.1 = g ∧ (stepS p g r e lim).2.2.1 = r := by
  have he : e = 1 ∨ e = 2 ∨ e = 3 ∨ e = 4 ∨ (e ≠ 1 ∧ e ≠ 2 ∧ e ≠ 3 ∧ e ≠ 4) := by omega
  rcases hp with rfl | rfl | rfl <;> rcases he with rfl | rfl | rfl | rfl | ⟨h1, h2, h3, h4⟩ <;> simp [stepS, yesS, noS, cancelS, wrongS, *]
/-- Who is being undone goes on, if anywhere. -/
theorem step_undo (p : Int) (g : Bool) (r e lim : Int) (hp : 9 ≤ p) (hp1 : p ≤ 12) (hr : 0 ≤ r) (hr1 : r ≤ 1000000) :
    p ≤ (stepS p g r e lim).1 ∧ (stepS p g r e lim).1 ≤ 12 ∧ 0 ≤ (stepS p g r e lim).2.2.1 ∧ (stepS p g r e lim).2.2.1 ≤ 1000000 := by
  have hc : p = 9 ∨ p = 10 ∨ p = 11 ∨ p = 12 := by omega
  have he : e = 1 ∨ e = 2 ∨ e = 3 ∨ e = 4 ∨ (e ≠ 1 ∧ e ≠ 2 ∧ e ≠ 3 ∧ e ≠ 4) := by omega
  rcases hc with rfl | rfl | rfl | rfl <;> rcases he with rfl | rfl | rfl | rfl | ⟨h1, h2, h3, h4⟩ <;> simp [stepS, yesS, noS, cancelS, wrongS, toS, *] <;> (try (split <;> simp)) <;> omega

theorem undo_loop (l : List Int) (lim : Int) (over : Bool) (p0 : Int) (g0 : Bool) (r0 : Int) (hl : l.length ≤ 500) (d : Nat) : ∀ (i p : Int) (g : Bool) (r : Int), 0 ≤ i → i + d = l.length → 0 ≤ r → r ≤ 1000000 →
    (over = true → (p = 8 ∨ p = 11 ∨ p = 12) ∧ p = p0 ∧ g = g0 ∧ r = r0) → (over = false → 9 ≤ p ∧ p ≤ 12) →
    Ev (fun k => packhorselaw14_SagaUndoes.l0 k lim over l (l.length : Int) i p g r p0 g0 r0) true := by
  induction d with
  | zero =>
    intro i p g r h0 h hr hr1 ho hn
    refine Ev.step (f := fun _ => some true) (fun k => ?_) (Ev.now _)
    simp only [packhorselaw14_SagaUndoes.l0]
    rw [if_neg (by omega)]
    cases over
    · rw [if_neg (by decide), decide_eq_true (by have := hn rfl; omega)]
    · rfl
  | succ d ih =>
    intro i p g r h0 h hr hr1 ho hn
    cases over
    · obtain ⟨h1, h2⟩ := hn rfl
      obtain ⟨s1, s2, s3, s4⟩ := step_undo p g r (rd l i) lim h1 h2 hr hr1
      have := ih (i + 1) (stepS p g r (rd l i) lim).1 (stepS p g r (rd l i) lim).2.1 (stepS p g r (rd l i) lim).2.2.1 (by omega) (by omega) s3 s4 (fun z => by cases z) (fun _ => ⟨by omega, s2⟩)
      refine Ev.step (f := fun k => (saga_Step.f k p g r (rd l i) lim).bind fun b => if b.1 < p then (if b.2.2.2.2 = 0 then (some false) else (if b.1 < 8 then (some false) else (packhorselaw14_SagaUndoes.l0 k lim false l (l.length : Int) (i + 1) b.1 b.2.1 b.2.2.1 p0 g0 r0))) else (if b.1 < 8 then (some false) else (packhorselaw14_SagaUndoes.l0 k lim false l (l.length : Int) (i + 1) b.1 b.2.1 b.2.2.1 p0 g0 r0))) (fun k => ?_) ?_
      · simp only [packhorselaw14_SagaUndoes.l0]
        rw [if_pos (by omega), if_pos h0, if_pos (by omega), w64 (by omega) (by omega)]
        simp only [Bool.false_eq_true, if_false]
      · refine Ev.bind (step_ev p g r (rd l i) lim (by omega)) ?_
        simp only [if_neg (show ¬ (stepS p g r (rd l i) lim).1 < p by omega), if_neg (show ¬ (stepS p g r (rd l i) lim).1 < 8 by omega)]
        exact this
    · obtain ⟨h1, rfl, rfl, rfl⟩ := ho rfl
      obtain ⟨s1, s2, s3⟩ := step_over p g r (rd l i) lim h1
      have := ih (i + 1) p g r (by omega) (by omega) hr hr1 (fun _ => ⟨h1, rfl, rfl, rfl⟩) (fun z => by cases z)
      refine Ev.step (f := fun k => (saga_Step.f k p g r (rd l i) lim).bind fun b => if (!(b.1 == p) || (!(b.2.1 == g) || (!(b.2.2.1 == r)))) = true then (some false) else if b.1 < p then (if b.2.2.2.2 = 0 then (some false) else (if b.1 < 8 then (some false) else (packhorselaw14_SagaUndoes.l0 k lim true l (l.length : Int) (i + 1) b.1 b.2.1 b.2.2.1 p g r))) else (if b.1 < 8 then (some false) else (packhorselaw14_SagaUndoes.l0 k lim true l (l.length : Int) (i + 1) b.1 b.2.1 b.2.2.1 p g r))) (fun k => ?_) ?_
      · simp only [packhorselaw14_SagaUndoes.l0]
        rw [if_pos (by omega), if_pos h0, if_pos (by omega), w64 (by omega) (by omega)]
        simp only [if_true]
      · refine Ev.bind (step_ev p g r (rd l i) lim (by omega)) ?_
        simp only [s1, s2, s3, beq_self_eq_true, Bool.not_true, Bool.or_false, Bool.false_eq_true, if_false, if_neg (show ¬ p < p by omega), if_neg (show ¬ p < 8 by omega)]
        exact this

theorem SagaUndoes : packhorselaw14_SagaUndoes.PureQ := by
  intro p g r l lim _ _ _ _
  refine Ev.rounds (g := fun k => packhorselaw14_SagaUndoes.f k p g r l lim) ?_
  unfold packhorselaw14_SagaUndoes.f
  refine Ev.bind alive_ev ?_
  simp only [if_true]
  have fin : Ev (fun k => packhorselaw14_SagaUndoes.j0 k l lim true p g r) true := Ev.of (packhorselaw14_SagaUndoes.mono_l · |>.1 _ _ _ _ _ _) (k := 1) (by simp [packhorselaw14_SagaUndoes.j0])
  by_cases h1 : p < 8
  · simp only [if_pos h1]; exact fin
  by_cases h2 : p > 12
  · simp only [if_neg h1, if_pos h2]; exact fin
  by_cases h3 : r < 0
  · simp only [if_neg h1, if_neg h2, if_pos h3]; exact fin
  by_cases h4 : r > 1000
  · simp only [if_neg h1, if_neg h2, if_neg h3, if_pos h4]; exact fin
  simp only [if_neg h1, if_neg h2, if_neg h3, if_neg h4]
  by_cases h5 : (l.length : Int) > 500
  · rw [decide_eq_true h5]; exact fin
  rw [decide_eq_false h5]
  have hc : p = 8 ∨ p = 11 ∨ p = 12 ∨ p = 9 ∨ p = 10 := by omega
  have go : ∀ over : Bool, (over = true → (p = 8 ∨ p = 11 ∨ p = 12)) → (over = false → 9 ≤ p) → Ev (fun k => packhorselaw14_SagaUndoes.j1 k l lim over p g r) true := by
    intro over ho hn
    refine Ev.step (f := fun k => packhorselaw14_SagaUndoes.l0 k lim over l (l.length : Int) 0 p g r p g r) (fun k => rfl) ?_
    exact undo_loop l lim over p g r (by omega) l.length 0 p g r (by omega) (by omega) (by omega) (by omega) (fun z => ⟨ho z, rfl, rfl, rfl⟩) (fun z => ⟨hn z, by omega⟩)
  rcases hc with rfl | rfl | rfl | rfl | rfl
  · exact Ev.step (fun k => by simp only [packhorselaw14_SagaUndoes.j0]; rfl) (go true (fun _ => by omega) (fun z => by cases z))
  · exact Ev.step (fun k => by simp only [packhorselaw14_SagaUndoes.j0]; rfl) (go true (fun _ => by omega) (fun z => by cases z))
  · exact Ev.step (fun k => by simp only [packhorselaw14_SagaUndoes.j0]; rfl) (go true (fun _ => by omega) (fun z => by cases z))
  · exact Ev.step (fun k => by simp only [packhorselaw14_SagaUndoes.j0]; rfl) (go false (fun z => by cases z) (fun _ => by omega))
  · exact Ev.step (fun k => by simp only [packhorselaw14_SagaUndoes.j0]; rfl) (go false (fun z => by cases z) (fun _ => by omega))
end Go.Proofs.Ytcghipdlihpbcaa.Pure
