
import Derived.Test.YtmcdbjcbfjnfoaaDoorQOrderTakesCodMore
set_option linter.unusedVariables false
namespace Go.Proofs.YtmcdbjcbfjnfoaaDoor.Pure
open Go.RowKit Go.Proofs.YtmcdbjcbfjnfoaaDoor Go.Proofs.YtmcdbjcbfjnfoaaDoor.PAll Go.Proofs.YtmcdbjcbfjnfoaaDoorW.PrintWords Go.Proofs.YtmcdbjcbfjnfoaaDoorW.PrintLast Go.Proofs.YtmcdbjcbfjnfoaaDoorW.PrintMore
theorem rnum_l (l : List Int) (hl : l.length ≤ 140737488355328) (hb : Byt l) (most : Nat) (hm : most < 72057594037927936) (d : Nat) : ∀ (i n w : Nat), i + d = l.length → n < w → Wt i w → (i = 0 ∨ w ≤ most) →
    Ev (fun k => packhorseref06_Take.l0 k l (most : Int) (n : Int) (w : Int) (i : Int)) (dec (most : Int) (n : Int) (w : Int) i (l.drop i)) := by
  induction d with
  | zero =>
    intro i n w h _ _ _
    rw [List.drop_of_length_le (by omega), dec]
    exact Ev.step (f := fun _ => some (0, 0)) (fun k => by rw [packhorseref06_Take.l0, if_neg (by omega)]) (Ev.now _)
  | succ d ih =>
    intro i n w h hn hw hi
    have h1 : i < l.length := by omega
    have hx := hb l[i] (List.getElem_mem h1)
    have hi7 := few i w most hw hm hi
    have hw0 := wt_pos hw
    have hw7 := wt_le hw hi7
    obtain ⟨p, hp⟩ : ∃ p, p = (l[i] % 128).toNat := ⟨_, rfl⟩
    have hp1 : l[i] % 128 = (p : Int) := by omega
    have hp2 : p < 128 := by omega
    have hpw : p * w ≤ 127 * w := Nat.mul_le_mul_right w (by omega)
    have et : IntKind.u64.wrap (Int.tmod l[i] 128) = (p : Int) := by
      rw [Int.tmod_eq_emod_of_nonneg hx.1, wrap_u (by omega) (by omega)]; exact hp1
    have e0 : ((p : Int) * (w : Int)) = ((p * w : Nat) : Int) := by simp
    have em : IntKind.u64.wrap ((p : Int) * (w : Int)) = ((p * w : Nat) : Int) := by rw [e0]; exact wrap_u (by omega) (by omega)
    have ea : IntKind.u64.wrap ((n : Int) + ((p * w : Nat) : Int)) = ((n + p * w : Nat) : Int) := by rw [wrap_u (by omega) (by omega)]; omega
    have bad : Ev (fun k => packhorseref06_Take.j1 k l (most : Int) (n : Int) (w : Int) (i : Int) (p : Int) true) (0, -1) :=
      Ev.step (f := fun _ => some (0, -1)) (fun k => by rw [packhorseref06_Take.j1, if_pos rfl]) (Ev.now _)
    rw [List.drop_eq_getElem_cons h1, dec]
    have esum : (n : Int) + l[i] % 128 * (w : Int) = ((n + p * w : Nat) : Int) := by rw [hp1, e0]; omega
    have good : Ev (fun k => packhorseref06_Take.j1 k l (most : Int) (n : Int) (w : Int) (i : Int) (p : Int) false)
        (if (most : Int) < (n : Int) + l[i] % 128 * (w : Int) then (0, -1) else if l[i] < 128 then ((n : Int) + l[i] % 128 * (w : Int), ((i + 1 : Nat) : Int)) else if (most : Int) - ((n : Int) + l[i] % 128 * (w : Int)) < (w : Int) * 128 then (0, -1) else dec most ((n : Int) + l[i] % 128 * w) ((w : Int) * 128) (i + 1) (l.drop (i + 1))) := by
      refine Ev.step (fun k => by rw [packhorseref06_Take.j1, if_neg (by decide), em, ea, rd_i l i h1, w64 (x := (i : Int) + 1) (by omega) (by omega)]) ?_
      rw [esum]
      by_cases c1 : (most : Int) < ((n + p * w : Nat) : Int)
      · rw [if_pos c1]; exact Ev.ifp c1 (Ev.now _)
      rw [if_neg c1]
      refine Ev.ifn c1 (Ev.ifp (by omega) (Ev.ifp (by omega) ?_))
      by_cases c2 : l[i] < 128
      · rw [if_pos c2]; exact Ev.ifp c2 (Ev.now _)
      rw [if_neg c2]
      refine Ev.ifn c2 ?_
      have e3 : IntKind.u64.wrap ((most : Int) - ((n + p * w : Nat) : Int)) = (most : Int) - ((n + p * w : Nat) : Int) := wrap_u (by omega) (by omega)
      have e4 : IntKind.u64.wrap ((w : Int) * 128) = (w : Int) * 128 := wrap_u (by omega) (by omega)
      simp only [e3, e4]
      by_cases c3 : (most : Int) - ((n + p * w : Nat) : Int) < (w : Int) * 128
      · rw [if_pos c3]; exact Ev.ifp c3 (Ev.now _)
      rw [if_neg c3]
      refine Ev.ifn c3 ?_
      have := ih (i + 1) (n + p * w) (w * 128) (by omega) (by omega) (next_w i w hw) (.inr (by omega))
      rw [show ((w * 128 : Nat) : Int) = (w : Int) * 128 from by omega] at this
      exact this
    refine Ev.step (fun k => by rw [packhorseref06_Take.l0, if_pos (by omega), if_pos (by omega), if_neg (by omega), if_neg (by omega), rd_i l i h1, et]) ?_
    by_cases cx : l[i] = 0
    · refine Ev.ifp cx ?_
      by_cases c0 : 0 < i
      · rw [if_pos ⟨cx, c0⟩, decide_eq_true (by omega)]; exact bad
      · rw [if_neg (fun e => c0 e.2), decide_eq_false (by omega)]; exact good
    · rw [if_neg (fun e => cx e.1)]
      exact Ev.ifn cx good
theorem rnum_eq (l : List Int) (hl : l.length ≤ 140737488355328) (hb : Byt l) (most : Nat) (hm : most < 72057594037927936) : Ev (fun k => packhorseref06_Take.f k l (most : Int)) (dec (most : Int) 0 1 0 l) :=
  rnum_l l hl hb most hm l.length 0 0 1 (by omega) (by omega) rfl (.inl rfl)
theorem sN_eq (l : List Int) (bad : Bool) (hl : l.length ≤ 140737488355328) (hb : Byt l) (most : Nat) (hm : most < 72057594037927936) : Ev (fun k => packhorseref10_Scan_Number.f k l (!bad) (most : Int)) ((rdN (most : Int) l bad).1, (rdN (most : Int) l bad).2.1, !(rdN (most : Int) l bad).2.2) := by
  unfold packhorseref10_Scan_Number.f
  refine Ev.bind (rnum_eq l hl hb most hm) ?_
  have u := dec_used most l hb
  cases bad
  · by_cases c : (dec (most : Int) 0 1 0 l).2 ≤ 0
    · have e : rdN (most : Int) l false = (0, l, true) := by unfold rdN; rw [if_neg (by decide), if_pos c]
      rw [e]
      exact Ev.ifn (by decide) (Ev.ifp c (Ev.now _))
    · have e : rdN (most : Int) l false = ((dec (most : Int) 0 1 0 l).1, l.drop (dec (most : Int) 0 1 0 l).2.toNat, false) := by unfold rdN; rw [if_neg (by decide), if_neg c]
      rw [e]
      refine Ev.ifn (by decide) (Ev.ifn c (Ev.ifp u.1 ?_))
      rw [w64 (x := (dec (most : Int) 0 1 0 l).1) (by omega) (by omega)]
      exact Ev.now _
  · have e : rdN (most : Int) l true = (0, l, true) := by unfold rdN; rw [if_pos rfl]
    rw [e]
    exact Ev.ifp rfl (Ev.now _)
theorem sT_eq (l : List Int) (bad : Bool) (hl : l.length ≤ 140737488355328) (hb : Byt l) (most : Nat) (hm : most ≤ 1000000) : Ev (fun k => packhorseref10_Scan_Text.f k l (!bad) (most : Int)) ((rdT (most : Int) l bad).1, (rdT (most : Int) l bad).2.1, !(rdT (most : Int) l bad).2.2) := by
  unfold packhorseref10_Scan_Text.f
  refine Ev.ifp (by omega) (Ev.bind (sN_eq l bad hl hb most (by omega)) ?_)
  have r := rdN_range most l bad hb
  by_cases c : (rdN (most : Int) l bad).2.2 = true
  · have e : rdT (most : Int) l bad = (⟨#[]⟩, (rdN (most : Int) l bad).2.1, true) := by unfold rdT; rw [if_pos c]
    rw [e]
    exact Ev.ifp (by simp [c]) (Ev.now _)
  · by_cases c2 : ((rdN (most : Int) l bad).2.1.length : Int) < (rdN (most : Int) l bad).1
    · have e : rdT (most : Int) l bad = (⟨#[]⟩, (rdN (most : Int) l bad).2.1, true) := by unfold rdT; rw [if_neg c, if_pos c2]
      rw [e]
      exact Ev.ifn (by simp [c]) (Ev.ifp c2 (Ev.now _))
    · have e : rdT (most : Int) l bad = (strOfNums ((rdN (most : Int) l bad).2.1.take (rdN (most : Int) l bad).1.toNat), (rdN (most : Int) l bad).2.1.drop (rdN (most : Int) l bad).1.toNat, false) := by unfold rdT; rw [if_neg c, if_neg c2]
      rw [e]
      exact Ev.ifn (by simp [c]) (Ev.ifn c2 (Ev.ifp r.1 (Ev.now _)))
end Go.Proofs.YtmcdbjcbfjnfoaaDoor.Pure
