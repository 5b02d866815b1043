/- Layer 2 (tally), TallyShares: for every input, a number in parts: the parts are it together, fall, and none is more than one above another one. No condition. -/
import Derived.Test.YtafmpeibdbadaaaLib
namespace Go.Proofs.Ytafmpeibdbadaaa.Pure
open Go.RowKit Go.Proofs.Ytafmpeibdbadaaa.PAll Go.Proofs.YtafmpeibdbadaaaW.PrintWords Go.Proofs.YtafmpeibdbadaaaW.PrintLast

/-- What part i of n in p parts is. -/
def sh (n p i : Int) : Int := n / p + (if i < n % p then 1 else 0)

theorem rd_set_same {l : List Int} {i : Int} {v : Int} (h0 : 0 ≤ i) (h : i < l.length) : rd (l.set i.toNat v) i = v := by
  unfold rd
  rw [List.getD_eq_getElem?_getD, List.getElem?_set_self (by omega)]; rfl
theorem rd_set_other {l : List Int} {i j : Int} {v : Int} (h0 : 0 ≤ i) (h1 : 0 ≤ j) (h : j ≠ i) : rd (l.set i.toNat v) j = rd l j := by
  unfold rd
  rw [List.getD_eq_getElem?_getD, List.getD_eq_getElem?_getD, List.getElem?_set_ne (by omega)]

theorem share_loop {n p : Int} (hn : ok n = true) (hp : 1 ≤ p) (hp1 : p ≤ 1000) (d : Nat) : ∀ (l : List Int) (i : Int), 0 ≤ i → i + d = p → (l.length : Int) = p → (∀ j, 0 ≤ j → j < i → rd l j = sh n p j) →
    ∃ r : List Int, Ev (fun k => tally_Share.l0 k n p l p i) (r, 0) ∧ (r.length : Int) = p ∧ ∀ j, 0 ≤ j → j < p → rd r j = sh n p j := by
  have n1 := (ok_iff n).1 hn
  have q0 : 0 ≤ n / p := Int.ediv_nonneg (by omega) (by omega)
  have q1 : n / p ≤ n := Int.ediv_le_self _ (by omega)
  induction d with
  | zero =>
    intro l i h0 h hl hj
    refine ⟨l, Ev.step (f := fun _ => some (l, 0)) (fun k => ?_) (Ev.now _), hl, fun j a b => hj j a (by omega)⟩
    simp only [tally_Share.l0]
    rw [if_neg (by omega)]
  | succ d ih =>
    intro l i h0 h hl hj
    have e1 : wrap64 (Int.tdiv n p) = n / p := by rw [Int.tdiv_eq_ediv_of_nonneg (by omega)]; exact w64 (by omega) (by omega)
    have e2 : Int.tmod n p = n % p := Int.tmod_eq_emod_of_nonneg (by omega)
    have e3 : wrap64 (i + 1) = i + 1 := w64 (by omega) (by omega)
    have e4 : rd (l.set i.toNat (n / p)) i = n / p := rd_set_same h0 (by omega)
    have e5 : wrap64 (n / p + 1) = n / p + 1 := w64 (by omega) (by omega)
    by_cases c : i < n % p
    · obtain ⟨r, hr, hr1, hr2⟩ := ih ((l.set i.toNat (n / p)).set i.toNat (n / p + 1)) (i + 1) (by omega) (by omega) (by simpa using hl) (fun j a b => by
        by_cases e : j = i
        · subst e
          rw [rd_set_same h0 (by simp; omega)]; unfold sh; rw [if_pos c]
        · rw [rd_set_other h0 a e, rd_set_other h0 a e]; exact hj j a (by omega))
      refine ⟨r, Ev.step (f := fun k => tally_Share.l0 k n p ((l.set i.toNat (n / p)).set i.toNat (n / p + 1)) p (i + 1)) (fun k => ?_) hr, hr1, hr2⟩
      simp only [tally_Share.l0]
      rw [if_pos (by omega), if_neg (by omega), if_pos h0, if_pos (by omega)]
      simp only [Option.bind_some]
      rw [e1, e2, if_pos c, e3, e4, e5]
    · obtain ⟨r, hr, hr1, hr2⟩ := ih (l.set i.toNat (n / p)) (i + 1) (by omega) (by omega) (by simpa using hl) (fun j a b => by
        by_cases e : j = i
        · subst e
          rw [rd_set_same h0 (by omega)]; unfold sh; rw [if_neg c]; omega
        · rw [rd_set_other h0 a e]; exact hj j a (by omega))
      refine ⟨r, Ev.step (f := fun k => tally_Share.l0 k n p (l.set i.toNat (n / p)) p (i + 1)) (fun k => ?_) hr, hr1, hr2⟩
      simp only [tally_Share.l0]
      rw [if_pos (by omega), if_neg (by omega), if_pos h0, if_pos (by omega)]
      simp only [Option.bind_some]
      rw [e1, e2, if_neg c, e3]

theorem share_no (n p : Int) (h : ok n = false ∨ p < 1 ∨ 1000 < p) : Ev (fun k => tally_Share.f k n p) ([], 21) := by
  have fin : Ev (fun k => tally_Share.j0 k n p true) ([], 21) := Ev.of (tally_Share.mono_l · |>.1 _ _ _) (k := 1) (by simp [tally_Share.j0])
  unfold tally_Share.f
  rw [right_eq]; simp only [Option.bind_some]
  by_cases h1 : ok n = true
  · simp only [if_pos h1]
    by_cases h2 : p < 1
    · simp only [if_pos h2]; exact fin
    · simp only [if_neg h2]
      have h3 : p > 1000 := by
        rcases h with h | h | h
        · rw [h] at h1; cases h1
        · omega
        · omega
      rw [decide_eq_true h3]; exact fin
  · simp only [if_neg h1]; exact fin

theorem share_yes {n p : Int} (hn : ok n = true) (hp : 1 ≤ p) (hp1 : p ≤ 1000) :
    ∃ r : List Int, Ev (fun k => tally_Share.f k n p) (r, 0) ∧ (r.length : Int) = p ∧ ∀ j, 0 ≤ j → j < p → rd r j = sh n p j := by
  have hlen : ((List.replicate p.toNat (0 : Int)).length : Int) = p := by rw [List.length_replicate]; omega
  obtain ⟨r, hr, h1, h2⟩ := share_loop hn hp hp1 p.toNat (List.replicate p.toNat 0) 0 (by omega) (by omega) hlen (fun j a b => by omega)
  refine ⟨r, ?_, h1, h2⟩
  unfold tally_Share.f
  rw [right_eq]; simp only [Option.bind_some]
  simp only [if_pos hn, if_neg (show ¬ p < 1 by omega), decide_eq_false (show ¬ p > 1000 by omega)]
  refine Ev.step (f := fun k => tally_Share.l0 k n p (List.replicate p.toNat 0) p 0) (fun k => ?_) hr
  simp only [tally_Share.j0]
  rw [if_neg (by decide), if_pos (by omega), if_pos (by omega)]
  simp only [Option.bind_some]
  rw [hlen]

/-- The parts from the i-th one on, behind what those ahead are together. -/
theorem share_sum {n p : Int} (hn : ok n = true) (hp : 1 ≤ p) (r : List Int) (hl : (r.length : Int) = p) (hr : ∀ j, 0 ≤ j → j < p → rd r j = sh n p j) (d : Nat) :
    ∀ i : Nat, (i : Int) + d = p → sumS (i * (n / p) + (if (i : Int) < n % p then (i : Int) else n % p)) (r.drop i) = (n, 0) := by
  have n1 := (ok_iff n).1 hn
  have q0 : 0 ≤ n / p := Int.ediv_nonneg (by omega) (by omega)
  have m0 : 0 ≤ n % p := Int.emod_nonneg _ (by omega)
  have m1 : n % p < p := Int.emod_lt_of_pos _ (by omega)
  have e := Int.mul_ediv_add_emod n p
  induction d with
  | zero =>
    intro i h
    rw [List.drop_of_length_le (by omega), if_neg (by omega), show (i : Int) = p by omega, e]; rfl
  | succ d ih =>
    intro i h
    have hi : i < r.length := by omega
    rw [List.drop_eq_getElem_cons hi]
    have e1 : r[i] = sh n p i := by
      rw [← hr i (by omega) (by omega)]; unfold rd
      rw [List.getD_eq_getElem?_getD, Int.toNat_natCast, List.getElem?_eq_getElem hi]; rfl
    have e2 := ih (i + 1) (by omega)
    have le : ∀ j : Nat, (j : Int) ≤ p → 0 ≤ (j : Int) * (n / p) ∧ (j : Int) * (n / p) ≤ p * (n / p) := fun j hj => ⟨Int.mul_nonneg (by omega) q0, Int.mul_le_mul_of_nonneg_right hj q0⟩
    have l0 := le i (by omega)
    have l1 := le (i + 1) (by omega)
    have s1 : ((i + 1 : Nat) : Int) * (n / p) = (i : Int) * (n / p) + n / p := by rw [Int.natCast_add, Int.add_mul]; simp
    rw [s1] at l1 e2
    unfold sumS
    rw [e1]; unfold sh
    generalize hA : (i : Int) * (n / p) = A at *
    generalize hB : p * (n / p) = B at *
    generalize n / p = q at *
    generalize n % p = m at *
    have e3 : A + (if (i : Int) < m then (i : Int) else m) + (q + (if (i : Int) < m then 1 else 0)) = A + q + (if ((i + 1 : Nat) : Int) < m then ((i + 1 : Nat) : Int) else m) := by
      split <;> split <;> omega
    rw [e3, e2, if_pos]
    refine ⟨(ok_iff _).2 ?_, (ok_iff _).2 ?_, (ok_iff _).2 ?_⟩ <;> split <;> omega

theorem fall_loop {n p : Int} (hn : ok n = true) (hp : 1 ≤ p) (hp1 : p ≤ 1000) (r : List Int) (hl : (r.length : Int) = p) (hr : ∀ j, 0 ≤ j → j < p → rd r j = sh n p j) (d : Nat) :
    ∀ i : Int, 1 ≤ i → i + d = p → Ev (fun k => packhorselaw02_TallyShares.l0 k n p r i) true := by
  induction d with
  | zero =>
    intro i h0 h
    refine Ev.step (f := fun k => (tally_Sum.f k r).bind fun b => if b.2 = 0 then some (b.1 == n) else some false) (fun k => ?_) ?_
    · simp only [packhorselaw02_TallyShares.l0]
      rw [if_neg (by omega)]
    · refine Ev.bind (sum_ev r (by omega)) ?_
      have := share_sum hn hp r hl hr p.toNat 0 (by omega)
      rw [List.drop_zero] at this
      have z : (((0 : Nat) : Int) * (n / p) + (if ((0 : Nat) : Int) < n % p then ((0 : Nat) : Int) else n % p)) = 0 := by
        have m0 : 0 ≤ n % p := Int.emod_nonneg _ (by omega)
        simp; omega
      rw [z] at this
      rw [this]
      simp
      exact Ev.now _
  | succ d ih =>
    intro i h0 h
    refine Ev.step (f := fun k => packhorselaw02_TallyShares.l0 k n p r (i + 1)) (fun k => ?_) (ih (i + 1) (by omega) (by omega))
    simp only [packhorselaw02_TallyShares.l0]
    rw [if_pos (by omega), if_pos (by omega), if_pos (by omega), w64 (x := i - 1) (by omega) (by omega), if_pos (by omega), if_pos (by omega), hr i (by omega) (by omega), hr (i - 1) (by omega) (by omega), w64 (x := i + 1) (by omega) (by omega)]
    rw [if_neg]
    unfold sh
    split <;> split <;> omega

theorem TallyShares : packhorselaw02_TallyShares.Pure := by
  intro n p _ hp
  replace hp := wf64 hp
  refine Ev.rounds (g := fun k => packhorselaw02_TallyShares.f k n p) ?_
  unfold packhorselaw02_TallyShares.f
  refine Ev.bind alive_ev ?_
  simp only [if_true]
  by_cases h : ok n = true ∧ 1 ≤ p ∧ p ≤ 1000
  · obtain ⟨hn, h1, h2⟩ := h
    obtain ⟨r, hr, hl, hv⟩ := share_yes hn h1 h2
    refine Ev.bind hr ?_
    simp only
    rw [right_eq]; simp only [Option.bind_some]
    simp only [if_pos hn, if_neg (show ¬ p < 1 by omega), decide_eq_false (show ¬ p > 1000 by omega)]
    have n1 := (ok_iff n).1 hn
    have q0 : 0 ≤ n / p := Int.ediv_nonneg (by omega) (by omega)
    have q1 : n / p ≤ n := Int.ediv_le_self _ (by omega)
    have a1 : rd r 0 = sh n p 0 := hv 0 (by omega) (by omega)
    have a2 : rd r (p - 1) = sh n p (p - 1) := hv (p - 1) (by omega) (by omega)
    have b1 : n / p ≤ sh n p 0 ∧ sh n p 0 ≤ n / p + 1 := by unfold sh; split <;> omega
    have b2 : n / p ≤ sh n p (p - 1) ∧ sh n p (p - 1) ≤ n / p + 1 := by unfold sh; split <;> omega
    refine Ev.step (f := fun k => packhorselaw02_TallyShares.j1 k n p r false) (fun k => ?_) ?_
    · simp only [packhorselaw02_TallyShares.j0]
      rw [if_neg (by decide), if_pos trivial, if_pos hl, if_pos (by omega), w64 (x := p - 1) (by omega) (by omega), if_pos (by omega), if_pos (by omega), a1, a2, w64 (by omega) (by omega), if_neg (by omega), decide_eq_false (by omega)]
    · refine Ev.step (f := fun k => packhorselaw02_TallyShares.l0 k n p r 1) (fun k => ?_) (fall_loop hn h1 h2 r hl hv (p - 1).toNat 1 (by omega) (by omega))
      simp only [packhorselaw02_TallyShares.j1]
      rw [if_neg (by decide)]
  · have no : ok n = false ∨ p < 1 ∨ 1000 < p := by
      by_cases h1 : ok n = true
      · by_cases h2 : 1 ≤ p
        · exact .inr (.inr (by by_cases h3 : p ≤ 1000; exact absurd ⟨h1, h2, h3⟩ h; omega))
        · exact .inr (.inl (by omega))
      · exact .inl (Bool.eq_false_iff.2 h1)
    refine Ev.bind (share_no n p no) ?_
    simp only
    have fin : Ev (fun k => packhorselaw02_TallyShares.j0 k n p [] 21 true) true := Ev.of (packhorselaw02_TallyShares.mono_l · |>.1 _ _ _ _ _) (k := 1) (by simp [packhorselaw02_TallyShares.j0])
    rw [right_eq]; simp only [Option.bind_some]
    by_cases h1 : ok n = true
    · simp only [if_pos h1]
      by_cases h2 : p < 1
      · simp only [if_pos h2]; exact fin
      · simp only [if_neg h2]
        rw [decide_eq_true (show p > 1000 by rcases no with q | q | q; (rw [q] at h1; cases h1); omega; omega)]
        exact fin
    · simp only [if_neg h1]; exact fin

end Go.Proofs.Ytafmpeibdbadaaa.Pure
