/- Layer 14 (saga), SagaEnds: for every input, each comes to an end; stuck only, if what undoes was refused as often as the limit says. No condition. -/
import Derived.Test.YtcghipdlihpbcaaLib
namespace Go.Proofs.Ytcghipdlihpbcaa.Pure
open Go.RowKit Go.Proofs.Ytcghipdlihpbcaa.PAll Go.Proofs.YtcghipdlihpbcaaW.PrintWords Go.Proofs.YtcghipdlihpbcaaW.PrintLast Go.Proofs.YtcghipdlihpbcaaW.PrintMore

/-- How far a phase stands. -/
def rank (p : Int) : Int := if p = 1 then 0 else if p = 2 then 1 else if p = 3 then 2 else if p = 4 then 3 else if p = 5 then 4 else if p = 6 then 5 else if p = 7 then 6 else if p = 9 then 7 else if p = 10 then 8 else 9
theorem rank_le (p : Int) : rank p ≤ 9 := by
  unfold rank
  repeat' split
  all_goals omega
theorem rank_nn (p : Int) : 0 ≤ rank p := by
  unfold rank
  repeat' split
  all_goals omega
/-- What happens to a phase that isn't over. -/
def evt (p : Int) (no : Bool) : Int := if p = 3 ∨ p = 5 then 4 else if no = true then 2 else 1
/-- The refusals that are counted. -/
def cnt (p c e : Int) : Int := if p = 9 ∨ p = 10 then (if e = 2 then c + 1 else 0) else c
def isOver (p : Int) : Prop := p = 8 ∨ p = 11 ∨ p = 12

theorem step_on (p : Int) (g : Bool) (r c lim : Int) (no : Bool) (hp : 1 ≤ p) (hp1 : p ≤ 12) (hn : ¬ isOver p) (hr : 0 ≤ r) (hr1 : r ≤ 300) (hc : c = r) (hl : 1 ≤ lim) :
    (stepS p g r (evt p no) lim).2.2.2.2 = 0 ∧ 1 ≤ (stepS p g r (evt p no) lim).1 ∧ (stepS p g r (evt p no) lim).1 ≤ 12 ∧
    rank p + 1 ≤ rank (stepS p g r (evt p no) lim).1 + (if evt p no = 2 then 1 else 0) ∧
    ((stepS p g r (evt p no) lim).1 = 12 → cnt p c (evt p no) ≥ lim) ∧
    (¬ isOver (stepS p g r (evt p no) lim).1 → cnt p c (evt p no) = (stepS p g r (evt p no) lim).2.2.1 ∧ 0 ≤ (stepS p g r (evt p no) lim).2.2.1 ∧ (stepS p g r (evt p no) lim).2.2.1 ≤ r + 1) := by
  unfold isOver at *
  subst hc
  have hcs : p = 1 ∨ p = 2 ∨ p = 3 ∨ p = 4 ∨ p = 5 ∨ p = 6 ∨ p = 7 ∨ p = 9 ∨ p = 10 := by omega
  have e1 : min c 999999 + 1 = c + 1 := by omega
  have e2 : max (max lim 1) 1 = lim := by omega
  rcases hcs with rfl | rfl | rfl | rfl | rfl | rfl | rfl | rfl | rfl <;> cases no <;> cases g <;> simp [evt, stepS, yesS, noS, toS, rank, cnt, e1, e2] <;> (try (split <;> simp <;> omega)) <;> omega

theorem ends_round (l : List Bool) (lim : Int) (c i p : Int) (g : Bool) (r : Int) (hi : 0 ≤ i) (hi1 : i < 300) (hc0 : -1000 ≤ c) (hc1 : c ≤ 1000) (hp : 1 ≤ p) (hp1 : p ≤ 12) (hn : ¬ isOver p) (hr : -9223372036854775808 ≤ r)
    (no : Bool) (hno : no = decide (i < (l.length : Int) ∧ rdOf false l i = true))
    (h0 : (stepS p g r (evt p no) lim).2.2.2.2 = 0)
    (next : Ev (fun k => packhorselaw14_SagaEnds.l0 k l lim (cnt p c (evt p no)) (i + 1) (stepS p g r (evt p no) lim).1 (stepS p g r (evt p no) lim).2.1 (stepS p g r (evt p no) lim).2.2.1) true) :
    Ev (fun k => packhorselaw14_SagaEnds.l0 k l lim c i p g r) true := by
  unfold isOver at hn
  have hcs : p = 1 ∨ p = 2 ∨ p = 3 ∨ p = 4 ∨ p = 5 ∨ p = 6 ∨ p = 7 ∨ p = 9 ∨ p = 10 := by omega
  have w1 : wrap64 (i + 1) = i + 1 := w64 (by omega) (by omega)
  have w2 : wrap64 (c + 1) = c + 1 := w64 (by omega) (by omega)
  have key : Ev (fun k => (saga_Step.f k p g r (evt p no) lim).bind fun b => if b.2.2.2.2 = 0 then packhorselaw14_SagaEnds.l0 k l lim (cnt p c (evt p no)) (i + 1) b.1 b.2.1 b.2.2.1 else some false) true := by
    refine Ev.bind (step_ev p g r _ lim hr) ?_
    simp only [h0, if_true]
    exact next
  refine Ev.steps 7 (fun k => ?_) key
  by_cases d1 : i < (l.length : Int)
  · by_cases d2 : rdOf false l i = true
    · have e : no = true := by rw [hno]; exact decide_eq_true ⟨d1, d2⟩
      subst e
      rcases hcs with rfl | rfl | rfl | rfl | rfl | rfl | rfl | rfl | rfl <;> simp [packhorselaw14_SagaEnds.l0, packhorselaw14_SagaEnds.j2, packhorselaw14_SagaEnds.j3, packhorselaw14_SagaEnds.j4, packhorselaw14_SagaEnds.j5, packhorselaw14_SagaEnds.j6, packhorselaw14_SagaEnds.j7, hi, hi1, d1, d2, w1, w2, evt, cnt]
    · have e : no = false := by rw [hno]; exact decide_eq_false (fun z => d2 z.2)
      subst e
      rcases hcs with rfl | rfl | rfl | rfl | rfl | rfl | rfl | rfl | rfl <;> simp [packhorselaw14_SagaEnds.l0, packhorselaw14_SagaEnds.j2, packhorselaw14_SagaEnds.j3, packhorselaw14_SagaEnds.j4, packhorselaw14_SagaEnds.j5, packhorselaw14_SagaEnds.j6, packhorselaw14_SagaEnds.j7, hi, hi1, d1, d2, w1, evt, cnt]
  · have e : no = false := by rw [hno]; exact decide_eq_false (fun z => d1 z.1)
    subst e
    rcases hcs with rfl | rfl | rfl | rfl | rfl | rfl | rfl | rfl | rfl <;> simp [packhorselaw14_SagaEnds.l0, packhorselaw14_SagaEnds.j2, packhorselaw14_SagaEnds.j3, packhorselaw14_SagaEnds.j4, packhorselaw14_SagaEnds.j5, packhorselaw14_SagaEnds.j6, packhorselaw14_SagaEnds.j7, hi1, d1, w1, evt, cnt]

theorem ends_over (l : List Bool) (lim c i p : Int) (g : Bool) (r : Int) (hl : l.length ≤ 300) (hlim : 1 ≤ lim) (hlim1 : lim ≤ 50) (hi : 0 ≤ i) (hi1 : i < 300) (hp : isOver p) (hk : i ≤ 12 + 2 * lim + l.length) (h12 : p = 12 → c ≥ lim ∨ i = 0) :
    Ev (fun k => packhorselaw14_SagaEnds.l0 k l lim c i p g r) true := by
  have w : wrap64 (wrap64 (12 + wrap64 (2 * lim)) + (l.length : Int)) = 12 + 2 * lim + l.length := by
    rw [w64 (x := 2 * lim) (by omega) (by omega), w64 (x := 12 + 2 * lim) (by omega) (by omega), w64 (by omega) (by omega)]
  refine Ev.steps 2 (f := fun _ => some true) (fun k => ?_) (Ev.now _)
  unfold isOver at hp
  rcases hp with rfl | rfl | rfl
  · simp [packhorselaw14_SagaEnds.l0, packhorselaw14_SagaEnds.j2, hi1, w, hk]
  · simp [packhorselaw14_SagaEnds.l0, packhorselaw14_SagaEnds.j2, hi1, w, hk]
  · rcases h12 rfl with h | h
    · simp [packhorselaw14_SagaEnds.l0, packhorselaw14_SagaEnds.j2, hi1, w, hk, h]
    · subst h
      by_cases hc : c ≥ lim <;> simp [packhorselaw14_SagaEnds.l0, packhorselaw14_SagaEnds.j2, w, hk, hc]

theorem ends_loop (l : List Bool) (lim : Int) (hl : l.length ≤ 300) (hlim : 1 ≤ lim) (hlim1 : lim ≤ 50) (d : Nat) : ∀ (c i p : Int) (g : Bool) (r m : Int), 0 ≤ i → i + d = 300 → 1 ≤ p → p ≤ 12 →
    0 ≤ m → m ≤ i → m ≤ l.length → i ≤ rank p + m → (p = 12 → c ≥ lim ∨ i = 0) → (¬ isOver p → c = r ∧ 0 ≤ r ∧ r ≤ i) →
    Ev (fun k => packhorselaw14_SagaEnds.l0 k l lim c i p g r) true := by
  induction d with
  | zero =>
    intro c i p g r m h0 h _ _ _ _ h3 h4 _ _
    have := rank_le p
    refine Ev.step (f := fun _ => some true) (fun k => ?_) (Ev.now _)
    simp only [packhorselaw14_SagaEnds.l0]
    rw [if_neg (by omega), decide_eq_true (by omega)]
  | succ d ih =>
    intro c i p g r m h0 h hp hp1 hm0 hm1 hm2 hk h12 hon
    have hrk := rank_le p
    by_cases ho : isOver p
    · exact ends_over l lim c i p g r hl hlim hlim1 h0 (by omega) ho (by omega) h12
    · obtain ⟨hc, hr0, hr1⟩ := hon ho
      obtain ⟨no, hno⟩ : ∃ no, no = decide (i < (l.length : Int) ∧ rdOf false l i = true) := ⟨_, rfl⟩
      obtain ⟨s1, s2, s3, s4, s5, s6⟩ := step_on p g r c lim no hp hp1 ho hr0 (by omega) hc hlim
      refine ends_round l lim c i p g r h0 (by omega) (by omega) (by omega) hp hp1 ho (by omega) no hno s1 ?_
      by_cases e2 : evt p no = 2
      · have hlt : i < (l.length : Int) := by
          cases no
          · unfold evt at e2; split at e2 <;> simp at e2
          · exact (of_decide_eq_true hno.symm).1
        rw [if_pos e2] at s4
        exact ih _ (i + 1) _ _ _ (m + 1) (by omega) (by omega) s2 s3 (by omega) (by omega) (by omega) (by omega) (fun z => .inl (s5 z)) (fun z => by obtain ⟨q1, q2, q3⟩ := s6 z; exact ⟨q1, q2, by omega⟩)
      · rw [if_neg e2] at s4
        exact ih _ (i + 1) _ _ _ m (by omega) (by omega) s2 s3 (by omega) (by omega) (by omega) (by omega) (fun z => .inl (s5 z)) (fun z => by obtain ⟨q1, q2, q3⟩ := s6 z; exact ⟨q1, q2, by omega⟩)

theorem SagaEnds : packhorselaw14_SagaEnds.PureQ := by
  intro p g r l lim _ _ _ _
  refine Ev.rounds (g := fun k => packhorselaw14_SagaEnds.f k p g r l lim) ?_
  unfold packhorselaw14_SagaEnds.f
  refine Ev.bind alive_ev ?_
  simp only [if_true]
  have fin : Ev (fun k => packhorselaw14_SagaEnds.j0 k l lim true p g r) true := Ev.of (packhorselaw14_SagaEnds.mono_l · |>.1 _ _ _ _ _ _) (k := 1) (by simp [packhorselaw14_SagaEnds.j0])
  by_cases h1 : p < 1
  · simp only [if_pos h1]; exact fin
  by_cases h2 : p > 12
  · simp only [if_neg h1, if_pos h2]; exact fin
  by_cases h3 : r = 0
  · simp only [if_neg h1, if_neg h2, if_pos h3]
    by_cases h4 : lim < 1
    · simp only [if_pos h4]; exact fin
    by_cases h5 : lim > 50
    · simp only [if_neg h4, if_pos h5]; exact fin
    simp only [if_neg h4, if_neg h5]
    by_cases h6 : (l.length : Int) > 300
    · rw [decide_eq_true h6]; exact fin
    rw [decide_eq_false h6]
    have hrk := rank_nn p
    refine Ev.step (f := fun k => packhorselaw14_SagaEnds.l0 k l lim 0 0 p g r) (fun k => by simp only [packhorselaw14_SagaEnds.j0]; rfl) ?_
    exact ends_loop l lim (by omega) (by omega) (by omega) 300 0 0 p g r 0 (by omega) (by omega) (by omega) (by omega) (by omega) (by omega) (by omega) (by omega) (fun _ => .inr rfl) (fun _ => ⟨h3.symm, by omega, by omega⟩)
  · simp only [if_neg h1, if_neg h2, if_neg h3]; exact fin
end Go.Proofs.Ytcghipdlihpbcaa.Pure
