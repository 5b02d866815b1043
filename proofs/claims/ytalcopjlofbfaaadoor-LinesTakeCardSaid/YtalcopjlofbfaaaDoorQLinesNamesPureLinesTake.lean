
import Derived.Test.YtalcopjlofbfaaaDoorQLinesNamesTakLaw
set_option linter.unusedVariables false
namespace Go.Proofs.YtalcopjlofbfaaaDoor.Pure
open Go.RowKit Go.Proofs.YtalcopjlofbfaaaDoor Go.Proofs.YtalcopjlofbfaaaDoor.PAll Go.Proofs.YtalcopjlofbfaaaDoorW.PrintWords Go.Proofs.YtalcopjlofbfaaaDoorW.PrintLast Go.Proofs.YtalcopjlofbfaaaDoorW.PrintMore Go.Lib
theorem alive : Ev (fun k => packhorselaw04_linesAlive.f k) true := Ev.of (packhorselaw04_linesAlive.mono ·) (k := 60) (by decide +kernel)
theorem skip_l (l : List S37) (s : ByteArray) (q : Int) (hb : l.length ≤ 1000) (hone : AllB l) (r : List S37 × Int) (n : Nat) : ∀ (i : Nat) (o : List S37) (met : Bool), i + n ≤ l.length → o.length ≤ i → (∀ x ∈ (l.drop i).take n, x.f0 ≠ s) →
    Ev (fun k => packhorseref04_Take.l0 k s q (o ++ (l.drop i).take n) met l (l.length : Int) ((i + n : Nat) : Int)) r → Ev (fun k => packhorseref04_Take.l0 k s q o met l (l.length : Int) (i : Int)) r := by
  induction n with
  | zero => intro i o met _ _ _ h; simpa using h
  | succ n ih =>
    intro i o met hn ho hne h
    have h1 : i < l.length := by omega
    have rx := line_rngs (hone _ (List.getElem_mem h1))
    rw [List.drop_eq_getElem_cons h1, List.take_succ_cons] at hne h
    have hx := hne l[i] (by simp)
    refine Ev.step (fun k => by rw [packhorseref04_Take.l0, if_pos (by omega), if_pos (by omega), if_pos (by omega), rd_37 l i h1, if_neg (fun q => hx (toList_inj q)), if_pos (by omega), if_pos (by omega), w64 (x := (i : Int) + 1) (by omega) (by omega)]) ?_
    refine ih (i + 1) (o ++ [l[i]]) met (by omega) (by rw [List.length_append, List.length_singleton]; omega) (fun x hx2 => hne x (by simp [hx2])) ?_
    rw [List.append_assoc, show i + 1 + n = i + (n + 1) from by omega]
    exact h
theorem fin_l (l : List S37) (s : ByteArray) (q : Int) (o : List S37) (met : Bool) (i : Nat) (hi : ¬ i < l.length) : Ev (fun k => packhorseref04_Take.l0 k s q o met l (l.length : Int) (i : Int)) (if met = true then (if o = [] then (([] : List S37), (41 : Int)) else (o, 0)) else ([], 41)) := by
  refine Ev.step (fun k => by rw [packhorseref04_Take.l0, if_neg (by omega)]) ?_
  cases met
  · exact Ev.ifn (by decide) (Ev.now _)
  · refine Ev.ifp rfl ?_
    rw [if_pos rfl]
    by_cases c : o = []
    · rw [if_pos c]; exact Ev.ifp (by rw [c]; rfl) (Ev.now _)
    · rw [if_neg c]
      have := List.length_pos_iff.2 c
      exact Ev.ifn (by omega) (Ev.now _)
theorem take_ref (l : List S37) (s : ByteArray) (q : Int) (hq : (Lit.int .i64 q).wf = true) (hb : l.length ≤ 1000) (hs : ∀ x ∈ l, x.f0.size ≤ 140737488351232) :
    (∀ A x B, l = A ++ x :: B → x.f0 = s → linesB l = true → 1 ≤ q → q ≤ x.f1 → Ev (fun k => packhorseref04_Take.f k l s q) (if left A x B q = [] then (([] : List S37), (41 : Int)) else (left A x B q, 0))) ∧
    ((∀ A x B, l = A ++ x :: B → x.f0 = s → linesB l = true → 1 ≤ q → ¬ q ≤ x.f1) → Ev (fun k => packhorseref04_Take.f k l s q) (([] : List S37), 41)) := by
  have E := ref_lines_eq l (by omega) hs
  have bad : Ev (fun k => packhorseref04_Take.j0 k l s q true) (([] : List S37), 41) := Ev.step (f := fun _ => some (([] : List S37), (41 : Int))) (fun k => by rw [packhorseref04_Take.j0, if_pos rfl]) (Ev.now _)
  have run : linesB l = true → 1 ≤ q → ∀ r, Ev (fun k => packhorseref04_Take.l0 k s q ([] : List S37) false l (l.length : Int) ((0 : Nat) : Int)) r → Ev (fun k => packhorseref04_Take.f k l s q) r := fun hl h1 r hr => by
    rw [hl] at E
    unfold packhorseref04_Take.f
    refine Ev.bind E (Ev.ifp rfl ?_)
    rw [decide_eq_false (show ¬ q < 1 by omega)]
    refine Ev.step (fun k => ?_) hr
    rw [packhorseref04_Take.j0, if_neg (by decide)]; rfl
  have one : ∀ (A B : List S37) (x : S37), l = A ++ x :: B → x.f0 = s → linesB l = true → 1 ≤ q → (q ≤ x.f1 → Ev (fun k => packhorseref04_Take.f k l s q) (if left A x B q = [] then (([] : List S37), (41 : Int)) else (left A x B q, 0))) ∧ (¬ q ≤ x.f1 → Ev (fun k => packhorseref04_Take.f k l s q) (([] : List S37), (41 : Int))) := by
    intro A B x e ex hl h1
    have hu := linesB_up hl
    obtain ⟨hone, hl1, hl8⟩ := linesB_one hl
    have hp := List.pairwise_append.1 (by rw [e] at hu; exact hu)
    have hA : ∀ a ∈ A, a.f0 ≠ s := fun a ha g => by have := hp.2.2 a ha x (by simp); rw [g, ex] at this; exact lt_irr _ this
    have hB : ∀ b ∈ B, b.f0 ≠ s := fun b hb2 g => by have := (List.pairwise_cons.1 hp.2.1).1 b hb2; rw [g, ex] at this; exact lt_irr _ this
    have hlen : l.length = A.length + (B.length + 1) := by rw [e]; simp
    have hAi : A.length < l.length := by omega
    have hget : rd_T37 l (A.length : Int) = x := by rw [e]; exact rd_mid A B x
    have hx : x ∈ l := by rw [e]; simp
    have rx := line_rngs (hone x hx)
    have t1 : (l.drop 0).take A.length = A := by rw [List.drop_zero, e]; simp
    have t2 : (l.drop (A.length + 1)).take B.length = B := by
      have : l.drop (A.length + 1) = B := by rw [e]; simp
      rw [this]; simp
    have st : ∀ r, Ev (fun k => packhorseref04_Take.l0 k s q A false l (l.length : Int) (A.length : Int)) r → Ev (fun k => packhorseref04_Take.f k l s q) r := fun r hr => by
      refine run hl h1 r (skip_l l s q hb hone r A.length 0 [] false (by omega) (by simp) (fun y hy => by rw [t1] at hy; exact hA y hy) ?_)
      rw [t1, List.nil_append, Nat.zero_add]; exact hr
    have w1 : wrap64 ((A.length : Int) + 1) = ((A.length + 1 : Nat) : Int) := by rw [w64 (by omega) (by omega)]; omega
    have more : ∀ (o : List S37) r, o.length ≤ A.length + 1 → Ev (fun k => packhorseref04_Take.l0 k s q (o ++ B) true l (l.length : Int) ((A.length + 1 + B.length : Nat) : Int)) r → Ev (fun k => packhorseref04_Take.l0 k s q o true l (l.length : Int) ((A.length + 1 : Nat) : Int)) r := fun o r ho hr => by
      refine skip_l l s q hb hone r B.length (A.length + 1) o true (by omega) ho (fun y hy => by rw [t2] at hy; exact hB y hy) ?_
      rw [t2]; exact hr
    refine ⟨fun h2 => ?_, fun h2 => ?_⟩
    · refine st _ ?_
      have ww : wrap64 (x.f1 - q) = x.f1 - q := w64 (by omega) (by omega)
      have fin := fun o => fin_l l s q o true (A.length + 1 + B.length) (by omega)
      simp only [if_true] at fin
      by_cases c : x.f1 - q = 0
      · refine Ev.step (fun k => by rw [packhorseref04_Take.l0, if_pos (by omega), if_pos (by omega), if_pos (by omega), hget, if_pos (toList_iff.2 ex), if_neg (by omega), ww, if_neg (by omega), w1]) ?_
        refine more A _ (by omega) ?_
        have e2 : left A x B q = A ++ B := by unfold left; rw [if_pos c]
        rw [e2]; exact fin (A ++ B)
      · refine Ev.step (fun k => by rw [packhorseref04_Take.l0, if_pos (by omega), if_pos (by omega), if_pos (by omega), hget, if_pos (toList_iff.2 ex), if_neg (by omega), ww, if_pos (by omega), if_pos (by omega), w1]) ?_
        refine more (A ++ [⟨x.f0, x.f1 - q, x.f2⟩]) _ (by simp) ?_
        have e2 : left A x B q = A ++ [⟨x.f0, x.f1 - q, x.f2⟩] ++ B := by unfold left; rw [if_neg c]; simp
        rw [e2]; exact fin _
    · refine st _ (Ev.step (f := fun _ => some (([] : List S37), (41 : Int))) (fun k => ?_) (Ev.now _))
      rw [packhorseref04_Take.l0, if_pos (by omega), if_pos (by omega), if_pos (by omega), hget, if_pos (toList_iff.2 ex), if_pos (by omega)]
  refine ⟨fun A x B e ex hl h1 h2 => (one A B x e ex hl h1).1 h2, fun hno => ?_⟩
  cases hl : linesB l
  · rw [hl] at E
    unfold packhorseref04_Take.f
    exact Ev.bind E (Ev.ifn (show ¬ (false = true) by decide) bad)
  by_cases h1 : 1 ≤ q
  rotate_left
  · rw [hl] at E
    unfold packhorseref04_Take.f
    refine Ev.bind E (Ev.ifp rfl ?_)
    rw [decide_eq_true (show q < 1 by omega)]; exact bad
  obtain ⟨hone, hl1, hl8⟩ := linesB_one hl
  by_cases hex : ∃ x ∈ l, x.f0 = s
  · obtain ⟨x, hx, ex⟩ := hex
    obtain ⟨A, B, e, _, _⟩ := up_cut (linesB_up hl) hx
    exact (one A B x e ex hl h1).2 (hno A x B e ex hl h1)
  · refine run hl h1 _ (skip_l l s q hb hone _ l.length 0 [] false (by omega) (by simp) (fun y hy g => hex ⟨y, List.mem_of_mem_drop (List.mem_of_mem_take hy), g⟩) ?_)
    have := fin_l l s q ([] ++ (l.drop 0).take l.length) false (0 + l.length) (by omega)
    simpa using this
theorem LinesTake : packhorselaw04_LinesTake.PureQ := by
  intro l s q hl hss hq
  have hs : ∀ x ∈ l, x.f0.size ≤ 140737488351232 := fun x hx => (hl.2 x hx).1
  refine Ev.rounds (g := fun k => packhorselaw04_LinesTake.f k l s q) ?_
  unfold packhorselaw04_LinesTake.f
  refine Ev.bind alive (Ev.ifp rfl ?_)
  by_cases c : (l.length : Int) > 50
  · exact Ev.ifp c (Ev.now _)
  refine Ev.ifn c (Ev.bindc (a := []) rfl (Ev.ifp (by simp; omega) (Ev.bindc (a := l) (by rw [List.nil_append]) ?_)))
  have S2 := ref_equal_eq l l (by omega)
  rw [decide_eq_true rfl] at S2
  have fin : ∀ r : List S37 × Int, r.1.length ≤ 1000 → Ev (fun k => lines_Take.f k l s q) r → Ev (fun k => packhorseref04_Take.f k l s q) r → Ev (fun k => (lines_Take.f k l s q).bind fun bt208 => ((packhorseref04_Take.f k l s q).bind fun bt212 => ((packhorseref04_Same.f k bt208.1 bt212.1).bind fun t216 => (if t216 = true then (if bt208.2 = bt212.2 then ((packhorseref04_Same.f k l l).bind fun t217 => (some t217)) else (some false)) else (some false))))) true := fun r hr h1 h2 => by
    have S := ref_equal_eq r.1 r.1 (by omega)
    rw [decide_eq_true rfl] at S
    exact Ev.bind h1 (Ev.bind h2 (Ev.bind S (Ev.ifp rfl (Ev.ifp rfl (Ev.bind S2 (Ev.now _))))))
  obtain ⟨R1, R2⟩ := take_ref l s q hq (by omega) hs
  rcases take_eq l s q (by omega) hs with ⟨A, x, B, e, ex, hlb, h1, h2, h0, hlb2, hr⟩ | ⟨hno, hr⟩
  · have := R1 A x B e ex hlb h1 h2
    rw [if_neg h0] at this
    refine fin _ ?_ hr this
    have := (linesB_one hlb2).2.2
    simp only; omega
  · refine fin _ (by simp) hr ?_
    by_cases hex : ∃ A x B, l = A ++ x :: B ∧ x.f0 = s ∧ linesB l = true ∧ 1 ≤ q ∧ q ≤ x.f1
    · obtain ⟨A, x, B, e, ex, hlb, h1, h2⟩ := hex
      have := R1 A x B e ex hlb h1 h2
      rw [if_pos (hno A x B e ex hlb h1 h2)] at this
      exact this
    · exact R2 fun A x B e ex hlb h1 h2 => hex ⟨A, x, B, e, ex, hlb, h1, h2⟩
end Go.Proofs.YtalcopjlofbfaaaDoor.Pure
