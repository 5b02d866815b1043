
import Derived.Test.YtapfpdjcbeiibaaDoorQBatchCutBatGo
namespace Go.Proofs.YtapfpdjcbeiibaaDoor.Pure
open Go.RowKit Go.Proofs.YtapfpdjcbeiibaaDoor Go.Proofs.YtapfpdjcbeiibaaDoor.PAll Go.Proofs.YtapfpdjcbeiibaaDoorW.PrintWords Go.Proofs.YtapfpdjcbeiibaaDoorW.PrintLast Go.Proofs.YtapfpdjcbeiibaaDoorW.PrintMore
theorem alive : Ev (fun k => packhorselaw11_batchAlive.f k) true := Ev.of (packhorselaw11_batchAlive.mono ·) (k := 40) (by decide +kernel)
theorem dec_cons {x y : ByteArray} {t u : List ByteArray} (h : x = y) : decide (x :: t = y :: u) = decide (t = u) := by subst h; simp
theorem equal_l (l m : List ByteArray) (hl : l.length = m.length) (hb : l.length ≤ 9223372036854775806) (d : Nat) : ∀ i : Nat, i + d = l.length →
    Ev (fun k => slices_Equal_string_string.l0 k l m (l.length : Int) (i : Int)) (decide (l.drop i = m.drop i)) := by
  induction d with
  | zero =>
    intro i h
    rw [List.drop_of_length_le (by omega), List.drop_of_length_le (by omega)]
    refine Ev.step (f := fun _ => some true) (fun k => ?_) (Ev.now _)
    rw [slices_Equal_string_string.l0, if_neg (by omega)]
  | succ d ih =>
    intro i h
    have h1 : i < l.length := by omega
    have h2 : i < m.length := by omega
    refine Ev.step (fun k => by rw [slices_Equal_string_string.l0, if_pos (by omega), if_pos (by omega), if_pos (by omega), if_pos (by omega), rd_str l i h1, rd_str m i h2, w64 (by omega) (by omega)]) ?_
    rw [List.drop_eq_getElem_cons h1, List.drop_eq_getElem_cons h2]
    by_cases c : l[i] = m[i]
    · refine Ev.ifp (toList_iff.2 c) ?_
      rw [show decide (l[i] :: l.drop (i + 1) = m[i] :: m.drop (i + 1)) = decide (l.drop (i + 1) = m.drop (i + 1)) from dec_cons c]
      exact ih (i + 1) (by omega)
    · refine Ev.ifn (fun e => c (toList_inj e)) ?_
      rw [decide_eq_false (by intro e; injection e with e1 _; exact c e1)]
      exact Ev.now _
theorem equal_eq (l m : List ByteArray) (hb : l.length ≤ 9223372036854775806) : Ev (fun k => slices_Equal_string_string.f k l m) (decide (l = m)) := by
  unfold slices_Equal_string_string.f
  by_cases c : l.length = m.length
  · refine Ev.ifp (by omega) ?_
    exact equal_l l m c hb l.length 0 (by omega)
  · refine Ev.ifn (by omega) ?_
    rw [decide_eq_false (fun e => c (by rw [e]))]
    exact Ev.now _
theorem same_B (x0 x1 x2 x3 x4 y0 y1 y2 y3 y4 : Int) (x5 x6 x7 y5 y6 y7 : ByteArray) (l m : List ByteArray) (hb : l.length ≤ 9223372036854775806) :
    Ev (fun k => batch_Same.f k x0 x1 x2 x3 x4 x5 x6 x7 l y0 y1 y2 y3 y4 y5 y6 y7 m) (decide (x0 = y0 ∧ x1 = y1 ∧ x2 = y2 ∧ x3 = y3 ∧ x4 = y4 ∧ x5 = y5 ∧ x6 = y6 ∧ x7 = y7 ∧ l = m)) := by
  have no : ∀ {P : Prop} [Decidable P], ¬ P → Ev (fun _ => some false) (decide P) := fun h => by rw [decide_eq_false h]; exact Ev.now _
  unfold batch_Same.f
  by_cases c0 : x0 = y0
  rotate_left
  · exact Ev.ifn c0 (no fun h => c0 h.1)
  by_cases c1 : x1 = y1
  rotate_left
  · exact Ev.ifp c0 (Ev.ifn c1 (no fun h => c1 h.2.1))
  by_cases c2 : x2 = y2
  rotate_left
  · exact Ev.ifp c0 (Ev.ifp c1 (Ev.ifn c2 (no fun h => c2 h.2.2.1)))
  by_cases c3 : x3 = y3
  rotate_left
  · exact Ev.ifp c0 (Ev.ifp c1 (Ev.ifp c2 (Ev.ifn c3 (no fun h => c3 h.2.2.2.1))))
  by_cases c4 : x4 = y4
  rotate_left
  · exact Ev.ifp c0 (Ev.ifp c1 (Ev.ifp c2 (Ev.ifp c3 (Ev.ifn c4 (no fun h => c4 h.2.2.2.2.1)))))
  refine Ev.ifp c0 (Ev.ifp c1 (Ev.ifp c2 (Ev.ifp c3 (Ev.ifp c4 ?_))))
  rw [eqs, eqs, eqs]
  by_cases c5 : x5 = y5 ∧ x6 = y6 ∧ x7 = y7
  rotate_left
  · refine Ev.ifn (by simpa using c5) (no fun h => c5 ⟨h.2.2.2.2.2.1, h.2.2.2.2.2.2.1, h.2.2.2.2.2.2.2.1⟩)
  · refine Ev.ifp (by simpa using c5) (Ev.bind (equal_eq l m hb) ?_)
    rw [show decide (x0 = y0 ∧ x1 = y1 ∧ x2 = y2 ∧ x3 = y3 ∧ x4 = y4 ∧ x5 = y5 ∧ x6 = y6 ∧ x7 = y7 ∧ l = m) = decide (l = m) from decide_eq_decide.2 ⟨fun h => h.2.2.2.2.2.2.2.2, fun h => ⟨c0, c1, c2, c3, c4, c5.1, c5.2.1, c5.2.2, h⟩⟩]
    exact Ev.now _
theorem BatchCut : packhorselaw11_BatchCut.PureQ := by
  intro x0 x1 x2 x3 x4 x5 x6 x7 l y0 y1 y2 y3 y4 y5 y6 y7 m n _ _ _ _ _ h5 h6 h7 hl _ _ _ _ _ i5 i6 i7 hm _
  have hb : l.length ≤ 9223372036854775806 := by omega
  have hb' : m.length ≤ 9223372036854775806 := by omega
  refine Ev.rounds (g := fun k => packhorselaw11_BatchCut.f k x0 x1 x2 x3 x4 x5 x6 x7 l y0 y1 y2 y3 y4 y5 y6 y7 m n) ?_
  have fin : Ev (fun k => packhorselaw11_BatchCut.j0 k n true x0 x1 x2 x3 x4 x5 x6 x7 l y0 y1 y2 y3 y4 y5 y6 y7 m) true := Ev.step (f := fun _ => some true) (fun k => by rw [packhorselaw11_BatchCut.j0, if_pos rfl]) (Ev.now _)
  unfold packhorselaw11_BatchCut.f
  refine Ev.bind alive (Ev.ifp rfl ?_)
  refine Ev.bind (right_B x0 x1 x2 x3 x4 x5 x6 x7 l h5 h6 h7 hb hl.2) ?_
  by_cases ca : okB x0 x1 x2 x3 x4 x5 x6 x7 l = true
  rotate_left
  · exact Ev.ifn ca fin
  refine Ev.ifp ca (Ev.bind (right_B y0 y1 y2 y3 y4 y5 y6 y7 m i5 i6 i7 hb' hm.2) ?_)
  by_cases cb : okB y0 y1 y2 y3 y4 y5 y6 y7 m = true
  rotate_left
  · exact Ev.ifn cb fin
  refine Ev.ifp cb ?_
  by_cases cn : n < 0
  · rw [decide_eq_true cn]; exact fin
  rw [decide_eq_false cn]
  refine Ev.step (fun k => by rw [packhorselaw11_BatchCut.j0, if_neg (by decide)]) ?_
  refine Ev.bind (put_B ca) (Ev.bind (put_B cb) (Ev.bind (same_B x0 x1 x2 x3 x4 y0 y1 y2 y3 y4 x5 x6 x7 y5 y6 y7 l m hb) ?_))
  have Bx := putB_byt x0 x1 x2 x3 x4 x5 x6 x7 l
  have By := putB_byt y0 y1 y2 y3 y4 y5 y6 y7 m
  have Lx := putB_len ca
  refine Ev.ifn ?_ ?_
  · rw [eqs]
    by_cases c : x0 = y0 ∧ x1 = y1 ∧ x2 = y2 ∧ x3 = y3 ∧ x4 = y4 ∧ x5 = y5 ∧ x6 = y6 ∧ x7 = y7 ∧ l = m
    · rw [decide_eq_true c]
      obtain ⟨f1, f2, f3, f4, f5, f6, f7, f8, f9⟩ := c
      subst f1; subst f2; subst f3; subst f4; subst f5; subst f6; subst f7; subst f8; subst f9
      rw [decide_eq_true rfl]; decide
    · rw [decide_eq_false c, decide_eq_false]
      · decide
      · intro e
        exact c (begin_B ca cb [] (by rw [List.append_nil]; exact (str_inj Bx By e).symm)).1
  by_cases c : n ≥ ((putB x0 x1 x2 x3 x4 x5 x6 x7 l).length : Int)
  · exact Ev.ifp c (Ev.now _)
  refine Ev.ifn c (Ev.ifp (by omega) (Ev.ifp (by omega) ?_))
  have hlen : ((putB x0 x1 x2 x3 x4 x5 x6 x7 l).take n.toNat).length ≤ 3000 := by rw [List.length_take]; omega
  refine Ev.bindc (new_R _ (by omega)) ?_
  refine Ev.bind (take_B ((putB x0 x1 x2 x3 x4 x5 x6 x7 l).take n.toNat) false (byt_take _ Bx) (by omega)) ?_
  rcases takeB_got _ (byt_take n.toNat Bx) with ⟨r, bad, e⟩ | ⟨id, wt, born, kind, ph, c', z, s, l', u, ok, e, w⟩
  · rw [e]
    refine Ev.ifn (by simp [badB]) (Ev.bind (same_B 0 0 0 0 0 0 0 0 0 0 ⟨#[]⟩ ⟨#[]⟩ ⟨#[]⟩ ⟨#[]⟩ ⟨#[]⟩ ⟨#[]⟩ [] [] (by simp)) ?_)
    rw [decide_eq_true ⟨rfl, rfl, rfl, rfl, rfl, rfl, rfl, rfl, rfl⟩]
    exact Ev.now _
  · exfalso
    have e1 : putB x0 x1 x2 x3 x4 x5 x6 x7 l = putB id wt born kind ph c' z s l' ++ (u ++ (putB x0 x1 x2 x3 x4 x5 x6 x7 l).drop n.toNat) := by
      rw [← List.append_assoc, ← w, List.take_append_drop]
    have e2 := (begin_B ok ca _ e1).2
    have e3 := congrArg List.length e2
    rw [List.length_append, List.length_drop, List.length_nil] at e3
    omega
end Go.Proofs.YtapfpdjcbeiibaaDoor.Pure
