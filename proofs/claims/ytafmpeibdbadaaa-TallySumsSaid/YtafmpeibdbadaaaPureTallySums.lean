/- Layer 2 (tally), TallySums: for every input, the program's sum of any numbers is the reference's. No condition. -/
import Derived.Test.YtafmpeibdbadaaaLib
namespace Go.Proofs.Ytafmpeibdbadaaa.Pure
open Go.RowKit Go.Proofs.Ytafmpeibdbadaaa.PAll Go.Proofs.YtafmpeibdbadaaaW.PrintWords Go.Proofs.YtafmpeibdbadaaaW.PrintLast

theorem ref_loop (l : List Int) (hl : l.length ≤ 9223372036854775806) (d : Nat) : ∀ (s i : Int), 0 ≤ i → i + d = l.length → ok s = true →
    Ev (fun k => packhorseref02_Sum.l0 k s l (l.length : Int) i) (sumS s (l.drop i.toNat)) := by
  induction d with
  | zero =>
    intro s i h0 h hs
    rw [List.drop_of_length_le (by omega)]
    refine Ev.step (f := fun _ => some (s, 0)) (fun k => ?_) (Ev.now _)
    simp only [packhorseref02_Sum.l0]
    rw [if_neg (by omega)]
  | succ d ih =>
    intro s i h0 h hs
    have hi : i.toNat < l.length := by omega
    rw [List.drop_eq_getElem_cons hi]
    have e1 : rd l i = l[i.toNat] := by unfold rd; rw [List.getD_eq_getElem?_getD, List.getElem?_eq_getElem hi]; rfl
    have e2 : wrap64 (i + 1) = i + 1 := w64 (by omega) (by omega)
    have s1 := (ok_iff s).1 hs
    generalize hx : l[i.toNat] = x at *
    unfold sumS
    by_cases c : ok x = true
    · have x1 := (ok_iff x).1 c
      by_cases c2 : ok (s + x) = true
      · rw [if_pos ⟨hs, c, c2⟩]
        have y1 := (ok_iff _).1 c2
        refine Ev.step (f := fun k => packhorseref02_Sum.l0 k (s + x) l (l.length : Int) (i + 1)) (fun k => ?_) ?_
        · simp only [packhorseref02_Sum.l0]
          rw [if_pos (by omega), if_pos h0, if_pos (by omega), ref_right, e1, e2]; simp only [Option.bind_some]
          rw [if_pos c, w64 (by omega) (by omega), if_neg (by omega), w64 (by omega) (by omega)]
        · have := ih (s + x) (i + 1) (by omega) (by omega) c2
          rw [show (i + 1).toNat = i.toNat + 1 by omega] at this
          exact this
      · rw [if_neg (fun z => c2 z.2.2)]
        refine Ev.step (f := fun _ => some (0, 21)) (fun k => ?_) (Ev.now _)
        simp only [packhorseref02_Sum.l0]
        rw [if_pos (by omega), if_pos h0, if_pos (by omega), ref_right, e1]; simp only [Option.bind_some]
        rw [if_pos c, w64 (by omega) (by omega), if_pos (by rw [ok_iff] at c2; omega)]
    · rw [if_neg (fun z => c z.2.1)]
      refine Ev.step (f := fun _ => some (0, 21)) (fun k => ?_) (Ev.now _)
      simp only [packhorseref02_Sum.l0]
      rw [if_pos (by omega), if_pos h0, if_pos (by omega), ref_right, e1]; simp only [Option.bind_some]
      rw [if_neg c]

theorem TallySums : packhorselaw02_TallySums.Pure := by
  intro l h1 _ _
  refine Ev.rounds (g := fun k => packhorselaw02_TallySums.f k l) ?_
  unfold packhorselaw02_TallySums.f
  refine Ev.bind alive_ev ?_
  simp only [if_true]
  by_cases h : (l.length : Int) > 200
  · simp only [if_pos h]; exact Ev.now _
  · simp only [if_neg h]
    refine Ev.bind (sum_ev l (by omega)) ?_
    refine Ev.bind (ref_loop l (by omega) l.length 0 0 (by omega) (by omega) (by decide)) ?_
    simp
    exact Ev.now _

end Go.Proofs.Ytafmpeibdbadaaa.Pure
