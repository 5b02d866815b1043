/- Layer 2 (tally), TallyBack: for every input, what is added and taken away again is what it was; so many times is so many together. No condition. -/
import Derived.Test.YtafmpeibdbadaaaLib
namespace Go.Proofs.Ytafmpeibdbadaaa.Pure
open Go.RowKit Go.Proofs.Ytafmpeibdbadaaa.PAll Go.Proofs.YtafmpeibdbadaaaW.PrintWords Go.Proofs.YtafmpeibdbadaaaW.PrintLast

theorem sum_same {a : Int} (ha : ok a = true) (m : Nat) : ∀ s, ok s = true → sumS s (List.replicate m a) = tell (s + a * m) := by
  have a1 := (ok_iff a).1 ha
  induction m with
  | zero => intro s hs; simp [sumS, tell, hs]
  | succ m ih =>
    intro s hs
    have s1 := (ok_iff s).1 hs
    rw [List.replicate_succ]; unfold sumS
    have e : a * ((m + 1 : Nat) : Int) = a + a * m := by rw [Int.natCast_add, Int.mul_add]; simp; omega
    have nn : 0 ≤ a * (m : Int) := Int.mul_nonneg a1.1 (by omega)
    rw [e]
    by_cases c : ok (s + a) = true
    · rw [if_pos ⟨hs, ha, c⟩, ih (s + a) c, Int.add_assoc]
    · rw [if_neg (fun z => c z.2.2)]
      unfold tell
      rw [if_neg]
      rw [ok_iff] at c ⊢
      omega

theorem fill_loop {a n : Int} (ha : ok a = true) (hn : 0 ≤ n) (hn1 : n ≤ 100) (d : Nat) : ∀ i : Nat, (i : Int) + d = n →
    Ev (fun k => packhorselaw02_TallyBack.l0 k a n (List.replicate i a ++ List.replicate d 0) n i) true := by
  induction d with
  | zero =>
    intro i h
    refine Ev.step (f := fun k => (tally_Sum.f k (List.replicate i a)).bind fun b => (tally_Times.f k a n).bind fun c => if b.1 = c.1 then some (b.2 == c.2) else some false) (fun k => ?_) ?_
    · simp only [packhorselaw02_TallyBack.l0]
      rw [if_neg (by omega)]; simp
    · refine Ev.bind (sum_ev _ (by rw [List.length_replicate]; omega)) ?_
      refine Ev.bind (times_ev a n) ?_
      have h0 : ok 0 = true := by decide
      have hok : ok n = true := (ok_iff n).2 (by omega)
      have e : sumS 0 (List.replicate i a) = timesS a n := by
        rw [sum_same ha i 0 h0]; unfold timesS; rw [if_pos ⟨ha, hok⟩, show (i : Int) = n by omega]; simp
      rw [e]
      simp
      exact Ev.now _
  | succ d ih =>
    intro i h
    have hl : (List.replicate i a ++ List.replicate (d + 1) (0 : Int)).length = i + d + 1 := by simp; omega
    have hs : (List.replicate i a ++ List.replicate (d + 1) (0 : Int)).set i a = List.replicate (i + 1) a ++ List.replicate d 0 := by
      rw [List.set_append_right _ _ (by simp), List.length_replicate, Nat.sub_self, List.replicate_succ (n := d), List.set_cons_zero, List.replicate_succ' (n := i), List.append_assoc]; rfl
    have := ih (i + 1) (by omega)
    refine Ev.step (f := fun k => packhorselaw02_TallyBack.l0 k a n (List.replicate (i + 1) a ++ List.replicate d 0) n ((i + 1 : Nat) : Int)) (fun k => ?_) this
    simp only [packhorselaw02_TallyBack.l0]
    rw [if_pos (by omega), if_pos (by omega), if_pos (by rw [hl]; omega), w64 (x := (i : Int) + 1) (by omega) (by omega), Int.toNat_natCast, hs]; rfl

theorem back_j {a n : Int} : Ev (fun k => packhorselaw02_TallyBack.j0 k a n) true := by
  have fin : Ev (fun k => packhorselaw02_TallyBack.j1 k a n true) true := Ev.of (packhorselaw02_TallyBack.mono_l · |>.2.1 _ _ _) (k := 1) (by simp [packhorselaw02_TallyBack.j1])
  by_cases h1 : n < 0
  · refine Ev.step (f := fun k => packhorselaw02_TallyBack.j1 k a n true) (fun k => ?_) fin
    simp only [packhorselaw02_TallyBack.j0]; rw [if_pos h1]
  · by_cases h2 : n > 100
    · refine Ev.step (f := fun k => packhorselaw02_TallyBack.j1 k a n true) (fun k => ?_) fin
      simp only [packhorselaw02_TallyBack.j0]; rw [if_neg h1, if_pos h2]
    · refine Ev.step (f := fun k => packhorselaw02_TallyBack.j1 k a n (!ok a)) (fun k => ?_) ?_
      · simp only [packhorselaw02_TallyBack.j0]; rw [if_neg h1, if_neg h2, right_eq]; rfl
      · by_cases h3 : ok a = true
        · rw [h3]
          have hlen : ((List.replicate n.toNat (0 : Int)).length : Int) = n := by rw [List.length_replicate]; omega
          refine Ev.step (f := fun k => packhorselaw02_TallyBack.l0 k a n (List.replicate n.toNat 0) n 0) (fun k => ?_) ?_
          · simp only [packhorselaw02_TallyBack.j1]
            rw [if_neg (by decide), if_pos (show 0 ≤ n by omega), if_pos (show n.toNat ≤ 35184372088832 by omega)]
            simp only [Option.bind_some]
            rw [hlen]
          · have := fill_loop (n := n) h3 (by omega) (by omega) n.toNat 0 (by omega)
            simpa using this
        · rw [Bool.eq_false_iff.2 h3]; exact fin

theorem TallyBack : packhorselaw02_TallyBack.Pure := by
  intro a b n _ _ _
  refine Ev.rounds (g := fun k => packhorselaw02_TallyBack.f k a b n) ?_
  unfold packhorselaw02_TallyBack.f
  refine Ev.bind alive_ev ?_
  simp only [if_true]
  rw [add_eq]; simp only [Option.bind_some]
  by_cases h : (addS a b).2 = 0
  · simp only [if_pos h]
    obtain ⟨o1, o2, o3, e⟩ := addS_ok h
    have hl : lessS (a + b) b = (a, 0) := by
      rw [lessS_yes o3 o2, show a + b - b = a by omega, tell_yes o1]
    rw [e, less_eq, hl]
    simp
    exact back_j
  · simp only [if_neg h]
    exact back_j

end Go.Proofs.Ytafmpeibdbadaaa.Pure
