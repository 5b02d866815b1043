
import Derived.Test.YtnacmehhmheooaaDoorQOutboxWaitsYPlaceGo
set_option linter.unusedVariables false
namespace Go.Proofs.YtnacmehhmheooaaDoor.Pure
open Go.RowKit Go.Proofs.YtnacmehhmheooaaDoor Go.Proofs.YtnacmehhmheooaaDoor.PAll Go.Proofs.YtnacmehhmheooaaDoorW.PrintWords Go.Proofs.YtnacmehhmheooaaDoorW.PrintLast Go.Proofs.YtnacmehhmheooaaDoorW.PrintMore
theorem alive : Ev (fun k => packhorselaw13_outboxAlive.f k) true := Ev.of (packhorselaw13_outboxAlive.mono ·) (k := 60) (by decide +kernel)
theorem tally_R (x : Int) : tally_Right.f x = some (decide (0 ≤ x ∧ x ≤ 1000000000000)) := by
  unfold tally_Right.f
  by_cases c : 0 ≤ x
  · rw [if_pos (by omega)]; simp [c]
  · rw [if_neg (by omega), decide_eq_false (by omega)]
theorem day_R (x : Int) : day_Right.f x = some (decide (0 ≤ x ∧ x ≤ 1099511627776)) := by
  unfold day_Right.f
  by_cases c : 0 ≤ x
  · rw [if_pos (by omega)]; simp [c]
  · rw [if_neg (by omega), decide_eq_false (by omega)]
theorem one_ex (a b c d e : Int) (s : ByteArray) (hs : s.size ≤ 140737488351232) : ∃ v, Ev (fun k => outbox_one.f k a b c d e s) v ∧ (v = true → (1 ≤ a ∧ a ≤ 1000000000000) ∧ (0 ≤ c ∧ c ≤ 1099511627776) ∧ (0 ≤ e ∧ e ≤ 1000000)) := by
  have no : Ev (fun k => outbox_one.j0 k true a b c d e s) false := Ev.step (f := fun _ => some false) (fun k => by rw [outbox_one.j0, if_pos rfl]) (Ev.now _)
  unfold outbox_one.f
  by_cases c1 : a < 1
  · exact ⟨false, Ev.ifp c1 no, fun h => absurd h (by decide)⟩
  by_cases c2 : 0 ≤ a ∧ a ≤ 1000000000000
  rotate_left
  · exact ⟨false, Ev.ifn c1 (Ev.bindc (tally_R a) (Ev.ifn (by simpa using c2) no)), fun h => absurd h (by decide)⟩
  by_cases c3 : 0 ≤ c ∧ c ≤ 1099511627776
  rotate_left
  · exact ⟨false, Ev.ifn c1 (Ev.bindc (tally_R a) (Ev.ifp (decide_eq_true c2) (Ev.bindc (day_R c) (Ev.ifn (by simpa using c3) no)))), fun h => absurd h (by decide)⟩
  by_cases c4 : e < 0
  · exact ⟨false, Ev.ifn c1 (Ev.bindc (tally_R a) (Ev.ifp (decide_eq_true c2) (Ev.bindc (day_R c) (Ev.ifp (decide_eq_true c3) (Ev.ifp c4 no))))), fun h => absurd h (by decide)⟩
  by_cases c5 : e > 1000000
  · exact ⟨false, Ev.ifn c1 (Ev.bindc (tally_R a) (Ev.ifp (decide_eq_true c2) (Ev.bindc (day_R c) (Ev.ifp (decide_eq_true c3) (Ev.ifn c4 (Ev.ifp c5 no)))))), fun h => absurd h (by decide)⟩
  by_cases c6 : d < 1
  · exact ⟨false, Ev.ifn c1 (Ev.bindc (tally_R a) (Ev.ifp (decide_eq_true c2) (Ev.bindc (day_R c) (Ev.ifp (decide_eq_true c3) (Ev.ifn c4 (Ev.ifn c5 (Ev.ifp c6 no))))))), fun h => absurd h (by decide)⟩
  have last : ∃ v, Ev (fun k => outbox_one.j0 k (decide (d > 7)) a b c d e s) v := by
    by_cases c7 : d > 7
    · rw [decide_eq_true c7]; exact ⟨false, no⟩
    rw [decide_eq_false c7]
    have bt : ∃ t, outbox_batched.f d = some t := by
      unfold outbox_batched.f
      repeat' split
      all_goals exact ⟨_, rfl⟩
    obtain ⟨t, ht⟩ := bt
    have st : ∀ v, Ev (fun k => if t = true then (if b ≥ 1 then ((tally_Right.f b).bind fun t113 => (if t113 = true then (some (s.toList == ([] : List UInt8))) else (some false))) else (some false)) else (if b = 0 then ((label_Right.f s).bind fun t114 => (some t114)) else (some false))) v → Ev (fun k => outbox_one.j0 k false a b c d e s) v := fun v h => Ev.step (fun k => by rw [outbox_one.j0, if_neg (by decide)]) (Ev.bindc ht h)
    cases t
    · by_cases b0 : b = 0
      · exact ⟨lab s, st _ (Ev.ifn (by decide) (Ev.ifp b0 (Ev.bindc (right_eq s hs) (Ev.now _))))⟩
      · exact ⟨false, st _ (Ev.ifn (by decide) (Ev.ifn b0 (Ev.now _)))⟩
    · by_cases b1 : b ≥ 1
      · by_cases b2 : 0 ≤ b ∧ b ≤ 1000000000000
        · exact ⟨_, st _ (Ev.ifp rfl (Ev.ifp b1 (Ev.bindc (tally_R b) (Ev.ifp (decide_eq_true b2) (Ev.now _)))))⟩
        · exact ⟨false, st _ (Ev.ifp rfl (Ev.ifp b1 (Ev.bindc (tally_R b) (Ev.ifn (by simpa using b2) (Ev.now _)))))⟩
      · exact ⟨false, st _ (Ev.ifp rfl (Ev.ifn b1 (Ev.now _)))⟩
  obtain ⟨v, hv⟩ := last
  exact ⟨v, Ev.ifn c1 (Ev.bindc (tally_R a) (Ev.ifp (decide_eq_true c2) (Ev.bindc (day_R c) (Ev.ifp (decide_eq_true c3) (Ev.ifn c4 (Ev.ifn c5 (Ev.ifn c6 hv))))))), fun _ => ⟨by omega, c3, by omega⟩⟩
theorem rise_one (x : S27) : Rise [x] := fun i j hi hj hij => by simp at hi hj; omega
theorem place_one (x : S27) : Ev (fun k => outbox_place.f k [x] x.f0) (0, true) := by
  have := place_eq [x] x.f0 (rise_one x) (by simp)
  have e : pos [x] x.f0 = 0 := by simp [pos]
  have e2 : hit [x] x.f0 = true := by unfold hit; rw [dif_pos (by rw [e]; simp)]; simp [e]
  rw [e, e2] at this
  exact this
theorem place_nil (key : Int) : Ev (fun k => outbox_place.f k [] key) (0, false) := place_eq [] key (fun i j hi _ _ => absurd hi (by simp)) (by simp)
theorem due_one (x : S27) (now : Int) : Ev (fun k => outbox_Due.f k [x] now) (if x.f2 ≤ now then [x] else []) := by
  unfold outbox_Due.f
  refine Ev.step (fun k => by rw [outbox_Due.l0, if_pos (by simp), if_pos (by omega), if_pos (by simp), show rd_T27 [x] 0 = x from rd_27 [x] 0 (by simp), w64 (by omega) (by omega)]) ?_
  by_cases c : x.f2 ≤ now
  · rw [if_pos c]
    refine Ev.ifp c (Ev.ifp (by simp) ?_)
    exact Ev.step (f := fun _ => some [x]) (fun k => by rw [outbox_Due.l0, if_neg (by simp)]; rfl) (Ev.now _)
  · rw [if_neg c]
    refine Ev.ifn c ?_
    exact Ev.step (f := fun _ => some []) (fun k => by rw [outbox_Due.l0, if_neg (by simp)]) (Ev.now _)
theorem back_ex (n : Int) : ∃ t, outbox_Backoff.f n = some t ∧ 1 ≤ t ∧ t ≤ 64 := by
  unfold outbox_Backoff.f
  have h : (mx 0 (mn n 6)).toNat ≤ 6 := by unfold mx mn; split <;> split <;> omega
  generalize (mx 0 (mn n 6)).toNat = m at h
  refine ⟨_, rfl, ?_⟩
  have : m = 0 ∨ m = 1 ∨ m = 2 ∨ m = 3 ∨ m = 4 ∨ m = 5 ∨ m = 6 := by omega
  rcases this with e | e | e | e | e | e | e <;> subst e <;> decide +kernel
theorem sent_one (x : S27) (h1 : 0 ≤ x.f2) (h2 : x.f2 ≤ 600000000000) (h3 : 0 ≤ x.f4 ∧ x.f4 ≤ 1000000) : ∃ t u, 1 ≤ t ∧ t ≤ 64 ∧ (0 ≤ u ∧ u ≤ 1000000) ∧ Ev (fun k => outbox_Sent.f k [x] x.f0 x.f2) ([(⟨x.f0, x.f1, x.f2 + t, x.f3, u, x.f5⟩ : S27)], 0) := by
  obtain ⟨t, ht, t1, t2⟩ := back_ex x.f4
  refine ⟨t, mn (wrap64 (x.f4 + 1)) 1000000, t1, t2, ?_, ?_⟩
  · rw [w64 (by omega) (by omega)]; unfold mn; split <;> omega
  unfold outbox_Sent.f
  refine Ev.bind (place_one x) (Ev.ifp rfl (Ev.bindc (day_R x.f2) ?_))
  rw [decide_eq_true (show 0 ≤ x.f2 ∧ x.f2 ≤ 1099511627776 by omega)]
  refine Ev.step (fun k => by rw [outbox_Sent.j0, if_neg (by decide)]) ?_
  refine Ev.bindc (a := [x]) (by unfold api_Effect_32.f; rw [if_pos (by simp)]) (Ev.ifp (by omega) (Ev.ifp (by simp) ?_))
  rw [show rd_T27 [x] 0 = x from rd_27 [x] 0 (by simp)]
  refine Ev.bindc ht (Ev.bindc rfl ?_)
  have e : mn (wrap64 (x.f2 + t)) 1099511627776 = x.f2 + t := by rw [w64 (by omega) (by omega)]; unfold mn; rw [if_neg (by omega)]
  rw [e]
  exact Ev.now _
section
variable (times key b kind : Int) (ord : ByteArray) (ht : times ≤ 200)
include ht
theorem waits_l (d : Nat) : ∀ (i : Nat) (now tries : Int) (y0 y1 y2 y3 y4 : Int) (y5 : ByteArray), y0 = key → i ≤ 200 → times ≤ (i : Int) + d → (0 ≤ now ∧ now ≤ 549755813888 + 64 * i) → (0 ≤ tries ∧ tries ≤ 1000000) →
    Ev (fun k => packhorselaw13_OutboxWaits.l0 k times [(⟨key, b, now, kind, tries, ord⟩ : S27)] now (i : Int) y0 y1 y2 y3 y4 y5) true := by
  have leaf : ∀ (i : Nat) (now tries : Int) (y0 y1 y2 y3 y4 : Int) (y5 : ByteArray), y0 = key → ¬ (i : Int) < times → Ev (fun k => packhorselaw13_OutboxWaits.l0 k times [(⟨key, b, now, kind, tries, ord⟩ : S27)] now (i : Int) y0 y1 y2 y3 y4 y5) true := by
    intro i now tries y0 y1 y2 y3 y4 y5 e h
    subst e
    refine Ev.step (fun k => by rw [packhorselaw13_OutboxWaits.l0, if_neg h]) ?_
    have s1 : Ev (fun k => outbox_Settle.f k [(⟨y0, b, now, kind, tries, ord⟩ : S27)] y0) (([] : List S27), 0) := by
      unfold outbox_Settle.f
      refine Ev.bind (place_one ⟨y0, b, now, kind, tries, ord⟩) (Ev.ifp rfl (Ev.ifp (by omega) (Ev.ifp (by simp) ?_)))
      have w1 : wrap64 ((0 : Int) + 1) = 1 := w64 (by omega) (by omega)
      simp only [w1]
      refine Ev.ifp (by omega) (Ev.ifp (by simp) (Ev.bindc (a := []) ?_ (Ev.now _)))
      unfold api_Effect_34.f
      simp
    have s2 : Ev (fun k => outbox_Settle.f k ([] : List S27) y0) (([] : List S27), 131) := by
      unfold outbox_Settle.f
      exact Ev.bind (place_nil y0) (Ev.ifn (by decide) (Ev.now _))
    exact Ev.bind s1 (Ev.bind s2 (Ev.ifp rfl (Ev.ifp rfl (Ev.now _))))
  induction d with
  | zero => intro i now tries y0 y1 y2 y3 y4 y5 e _ h _ _; exact leaf i now tries y0 y1 y2 y3 y4 y5 e (by omega)
  | succ d ih =>
    intro i now tries y0 y1 y2 y3 y4 y5 e hi h hn hq
    by_cases c : (i : Int) < times
    rotate_left
    · exact leaf i now tries y0 y1 y2 y3 y4 y5 e c
    refine Ev.step (fun k => by rw [packhorselaw13_OutboxWaits.l0, if_pos c, w64 (x := now - 1) (by omega) (by omega)]) ?_
    have d1 := due_one ⟨key, b, now, kind, tries, ord⟩ (now - 1)
    have d2 := due_one ⟨key, b, now, kind, tries, ord⟩ now
    rw [if_neg (show ¬ now ≤ now - 1 by omega)] at d1
    rw [if_pos (show now ≤ now from Int.le_refl _)] at d2
    refine Ev.bind d1 (Ev.ifp rfl (Ev.bind d2 ?_))
    refine Ev.step (fun k => by rw [packhorselaw13_OutboxWaits.j2, if_neg (by simp)]) ?_
    obtain ⟨t, u, t1, t2, hu, hs⟩ := sent_one ⟨key, b, now, kind, tries, ord⟩ hn.1 (by simp only; omega) hq
    subst e
    refine Ev.bind hs (Ev.ifp rfl (Ev.ifp rfl (Ev.ifp (by simp) ?_)))
    rw [show rd_T27 [(⟨y0, b, now + t, kind, u, ord⟩ : S27)] 0 = ⟨y0, b, now + t, kind, u, ord⟩ from rd_27 _ 0 (by simp)]
    refine Ev.ifn (by simp only; omega) (Ev.ifn (by rw [w64 (by omega) (by omega)]; simp only; omega) ?_)
    rw [w64 (x := (i : Int) + 1) (by omega) (by omega)]
    exact ih (i + 1) (now + t) u y0 y1 y2 y3 y4 y5 rfl (by omega) (by omega) (by omega) hu
end
theorem OutboxWaits : packhorselaw13_OutboxWaits.PureQ := by
  intro a b c d e s times _ _ _ _ _ hs _
  refine Ev.rounds (g := fun k => packhorselaw13_OutboxWaits.f k a b c d e s times) ?_
  have fin : ∀ l, Ev (fun k => packhorselaw13_OutboxWaits.j0 k times l true a b c d e s) true := fun l => Ev.step (f := fun _ => some true) (fun k => by rw [packhorselaw13_OutboxWaits.j0, if_pos rfl]) (Ev.now _)
  unfold packhorselaw13_OutboxWaits.f
  refine Ev.bind alive (Ev.ifp rfl ?_)
  obtain ⟨v, hv, ok⟩ := one_ex a b c d e s hs
  cases v
  · have add : Ev (fun k => outbox_Add.f k ([] : List S27) a b c d e s) (([] : List S27), 131) := by
      unfold outbox_Add.f
      exact Ev.bind hv (Ev.ifn (by decide) (Ev.now _))
    exact Ev.bind add (Ev.ifn (by decide) (fin _))
  have add : Ev (fun k => outbox_Add.f k ([] : List S27) a b c d e s) ([(⟨a, b, c, d, e, s⟩ : S27)], 0) := by
    unfold outbox_Add.f
    exact Ev.bind hv (Ev.ifp rfl (Ev.ifn (by simp) (Ev.bindc (a := []) rfl (Ev.bindc rfl (Ev.ifp (by simp) (Ev.now _))))))
  obtain ⟨k1, k2, k3⟩ := ok rfl
  refine Ev.bind add (Ev.ifp rfl ?_)
  by_cases ct : times > 200
  · exact Ev.ifp ct (fin _)
  refine Ev.ifn ct ?_
  by_cases cd : c > 549755813888
  · rw [decide_eq_true cd]; exact fin _
  rw [decide_eq_false cd]
  refine Ev.step (fun k => by rw [packhorselaw13_OutboxWaits.j0, if_neg (by decide)]) ?_
  exact waits_l times a b d s (by omega) times.toNat 0 c e a b c d e s rfl (by omega) (by omega) (by omega) k3
end Go.Proofs.YtnacmehhmheooaaDoor.Pure
