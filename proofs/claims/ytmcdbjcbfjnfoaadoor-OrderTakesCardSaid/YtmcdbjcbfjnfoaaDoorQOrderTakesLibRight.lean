
import Derived.Test.YtmcdbjcbfjnfoaaDoorQOrderTakesLabEq
import Derived.Test.YtmcdbjcbfjnfoaaDoorQOrderTakesLibGo
namespace Go.Proofs.YtmcdbjcbfjnfoaaDoor.Pure
open Go.RowKit Go.Proofs.YtmcdbjcbfjnfoaaDoor Go.Proofs.YtmcdbjcbfjnfoaaDoor.PAll Go.Proofs.YtmcdbjcbfjnfoaaDoorW.PrintWords Go.Proofs.YtmcdbjcbfjnfoaaDoorW.PrintLast Go.Proofs.YtmcdbjcbfjnfoaaDoorW.PrintMore Go.Lib
theorem ref_lines_l (l : List S52) (hb : l.length ≤ 9223372036854775806) (hs : ∀ x ∈ l, x.f0.size ≤ 140737488351232) (d : Nat) : ∀ i : Nat, i + d = l.length →
    Ev (fun k => packhorseref04_Right.l0 k l l (l.length : Int) (i : Int)) (rise l d i) := by
  induction d with
  | zero =>
    intro i h
    refine Ev.step (f := fun _ => some true) (fun k => ?_) (Ev.now _)
    rw [packhorseref04_Right.l0, if_neg (by omega)]
  | succ d ih =>
    intro i h
    have h1 : i < l.length := by omega
    have hx := hs _ (List.getElem_mem h1)
    have fin : Ev (fun k => packhorseref04_Right.j2 k l (i : Int) l (l.length : Int) (i : Int) true l[i].f0 l[i].f1 l[i].f2) false := Ev.step (f := fun _ => some false) (fun k => by rw [packhorseref04_Right.j2, if_pos rfl]) (Ev.now _)
    refine Ev.step (fun k => by rw [packhorseref04_Right.l0, if_pos (by omega), if_pos (by omega), if_pos (by omega), rd_52 l i h1]) ?_
    rw [rise, dif_pos h1]
    unfold lineB
    refine Ev.bind (right_ref _ hx) ?_
    cases lab l[i].f0
    · exact Ev.ifn (by decide) fin
    refine Ev.ifp rfl ?_
    rw [Bool.true_and]
    by_cases c1 : l[i].f1 < 1
    · rw [decide_eq_false (show ¬ (1 ≤ l[i].f1 ∧ l[i].f1 ≤ 1000 ∧ 0 ≤ l[i].f2 ∧ l[i].f2 ≤ 100000) by omega)]; exact Ev.ifp c1 fin
    refine Ev.ifn c1 ?_
    by_cases c2 : l[i].f1 > 1000
    · rw [decide_eq_false (show ¬ (1 ≤ l[i].f1 ∧ l[i].f1 ≤ 1000 ∧ 0 ≤ l[i].f2 ∧ l[i].f2 ≤ 100000) by omega)]; exact Ev.ifp c2 fin
    refine Ev.ifn c2 ?_
    by_cases c3 : l[i].f2 < 0
    · rw [decide_eq_false (show ¬ (1 ≤ l[i].f1 ∧ l[i].f1 ≤ 1000 ∧ 0 ≤ l[i].f2 ∧ l[i].f2 ≤ 100000) by omega)]; exact Ev.ifp c3 fin
    refine Ev.ifn c3 ?_
    by_cases c4 : l[i].f2 > 100000
    · rw [decide_eq_false (show ¬ (1 ≤ l[i].f1 ∧ l[i].f1 ≤ 1000 ∧ 0 ≤ l[i].f2 ∧ l[i].f2 ≤ 100000) by omega), decide_eq_true c4]; exact fin
    rw [decide_eq_true (show 1 ≤ l[i].f1 ∧ l[i].f1 ≤ 1000 ∧ 0 ≤ l[i].f2 ∧ l[i].f2 ≤ 100000 by omega), decide_eq_false c4, Bool.true_and]
    have e2 : wrap64 ((i : Int) + 1) = ((i + 1 : Nat) : Int) := by rw [w64 (by omega) (by omega)]; omega
    refine Ev.step (fun k => by rw [packhorseref04_Right.j2, if_neg (by decide), e2]) ?_
    by_cases c : 0 < i
    · have e1 : wrap64 ((i : Int) - 1) = ((i - 1 : Nat) : Int) := by rw [w64 (by omega) (by omega)]; omega
      rw [dif_pos c]
      refine Ev.ifp (by omega) ?_
      rw [e1]
      refine Ev.ifp (by omega) (Ev.ifp (by omega) ?_)
      rw [rd_52 l (i - 1) (by omega)]
      refine Ev.bind (compare_f _ _ (hs _ (List.getElem_mem _)) hx) ?_
      have rg := cb_range (l[i - 1]'(by omega)).f0.data.toList l[i].f0.data.toList
      by_cases c5 : compareBytes (l[i - 1]'(by omega)).f0.data.toList l[i].f0.data.toList = -1
      · rw [show ahead (l[i - 1]'(by omega)) l[i] = true from decide_eq_true (by omega), Bool.true_and]
        exact Ev.ifp c5 (ih (i + 1) (by omega))
      · rw [show ahead (l[i - 1]'(by omega)) l[i] = false from decide_eq_false (by omega), Bool.false_and]
        exact Ev.ifn c5 (Ev.now _)
    · rw [dif_neg c, Bool.true_and]
      exact Ev.ifn (by omega) (ih (i + 1) (by omega))
theorem ref_lines_eq (l : List S52) (hb : l.length ≤ 9223372036854775806) (hs : ∀ x ∈ l, x.f0.size ≤ 140737488351232) : Ev (fun k => packhorseref04_Right.f k l) (linesB l) := by
  have fin : Ev (fun k => packhorseref04_Right.j0 k l true) false := Ev.step (f := fun _ => some false) (fun k => by rw [packhorseref04_Right.j0, if_pos rfl]) (Ev.now _)
  unfold packhorseref04_Right.f linesB
  by_cases c1 : (l.length : Int) < 1
  · rw [decide_eq_false (show ¬ (1 ≤ l.length ∧ l.length ≤ 8) by omega), Bool.and_false]
    exact Ev.ifp c1 fin
  refine Ev.ifn c1 ?_
  by_cases c2 : (l.length : Int) > 8
  · rw [decide_eq_false (show ¬ (1 ≤ l.length ∧ l.length ≤ 8) by omega), Bool.and_false, decide_eq_true c2]
    exact fin
  rw [decide_eq_true (show 1 ≤ l.length ∧ l.length ≤ 8 by omega), Bool.and_true, decide_eq_false c2]
  refine Ev.step (fun k => by rw [packhorseref04_Right.j0, if_neg (by decide)]) ?_
  exact ref_lines_l l hb hs l.length 0 (by omega)
theorem group_ref (c z s : ByteArray) (hc : c.size ≤ 140737488351232) (hz : z.size ≤ 140737488351232) (hs : s.size ≤ 140737488351232) : Ev (fun k => packhorseref10_Group.f k c z s) (grp c z s) := by
  unfold packhorseref10_Group.f grp
  refine Ev.bind (right_ref c hc) ?_
  cases lab c
  · exact Ev.ifn (by decide) (Ev.now _)
  · refine Ev.ifp rfl (Ev.bind (right_ref z hz) ?_)
    cases lab z
    · exact Ev.ifn (by decide) (Ev.now _)
    · exact Ev.ifp rfl (Ev.bind (right_ref s hs) (Ev.now _))
theorem ref02_R (x : Int) : packhorseref02_Right.f x = some (decide (0 ≤ x ∧ x ≤ 1000000000000)) := by
  unfold packhorseref02_Right.f
  by_cases c : 0 ≤ x
  · rw [if_pos (by omega)]; simp [c]
  · rw [if_neg (by omega), decide_eq_false (by omega)]
section
variable (id : ByteArray) (l : List S52) (c z s : ByteArray) (t p : Int) (g : Bool) (r b : Int) (hi : id.size ≤ 140737488351232) (hc : c.size ≤ 140737488351232) (hz : z.size ≤ 140737488351232) (hs : s.size ≤ 140737488351232) (hb : l.length ≤ 9223372036854775806) (hl : ∀ x ∈ l, x.f0.size ≤ 140737488351232)
include hi hc hz hs hb hl
theorem right_R : Ev (fun k => packhorseref10_Right.f k id l c z s t p g r b) (okO id l c z s t p r b) := by
  have fin : Ev (fun k => packhorseref10_Right.j0 k true id l c z s t p g r b p g r) false := Ev.step (f := fun _ => some false) (fun k => by rw [packhorseref10_Right.j0, if_pos rfl]) (Ev.now _)
  unfold packhorseref10_Right.f okO
  refine Ev.bind (right_ref id hi) ?_
  cases lab id
  · exact Ev.ifn (by decide) fin
  refine Ev.ifp rfl (Ev.bind (group_ref c z s hc hz hs) ?_)
  cases grp c z s
  · exact Ev.ifn (by decide) fin
  refine Ev.ifp rfl (Ev.bind (ref_lines_eq l hb hl) ?_)
  cases linesB l
  · exact Ev.ifn (by decide) fin
  refine Ev.ifp rfl (Ev.bindc (ref02_R t) ?_)
  cases decide (0 ≤ t ∧ t ≤ 1000000000000)
  · exact Ev.ifn (by decide) fin
  refine Ev.ifp rfl (Ev.bindc (ref02_R b) ?_)
  by_cases cb : 0 ≤ b ∧ b ≤ 1000000000000
  rotate_left
  · rw [decide_eq_false cb, Bool.false_and, Bool.and_false, Bool.and_false, Bool.and_false, Bool.and_false, Bool.and_false]
    exact fin
  rw [decide_eq_true cb]
  simp only [Bool.true_and]
  refine Ev.step (fun k => by rw [packhorseref10_Right.j0, if_neg (by decide)]) ?_
  by_cases c1 : p < 1
  · rw [decide_eq_false (show ¬ (1 ≤ p ∧ p ≤ 12 ∧ 0 ≤ r ∧ r ≤ 1000000) by omega)]; exact Ev.ifp c1 (Ev.now _)
  refine Ev.ifn c1 ?_
  by_cases c2 : p > 12
  · rw [decide_eq_false (show ¬ (1 ≤ p ∧ p ≤ 12 ∧ 0 ≤ r ∧ r ≤ 1000000) by omega)]; exact Ev.ifp c2 (Ev.now _)
  refine Ev.ifn c2 ?_
  by_cases c3 : r < 0
  · rw [decide_eq_false (show ¬ (1 ≤ p ∧ p ≤ 12 ∧ 0 ≤ r ∧ r ≤ 1000000) by omega)]; exact Ev.ifp c3 (Ev.now _)
  refine Ev.ifn c3 ?_
  by_cases c4 : r > 1000000
  · rw [decide_eq_false (show ¬ (1 ≤ p ∧ p ≤ 12 ∧ 0 ≤ r ∧ r ≤ 1000000) by omega)]; exact Ev.ifp c4 (Ev.now _)
  refine Ev.ifn c4 ?_
  rw [decide_eq_true (show 1 ≤ p ∧ p ≤ 12 ∧ 0 ≤ r ∧ r ≤ 1000000 by omega), Bool.true_and]
  have eb : (b != 0) = decide (b > 0) := by
    by_cases h : b = 0
    · subst h; decide
    · rw [decide_eq_true (by omega)]; simpa using h
  rw [eb]
  by_cases p3 : p = 3
  · rw [decide_eq_true (show 3 ≤ p ∧ p ≤ 6 by omega)]; exact Ev.ifp p3 (Ev.now _)
  refine Ev.ifn p3 ?_
  by_cases p4 : p = 4
  · rw [decide_eq_true (show 3 ≤ p ∧ p ≤ 6 by omega)]; exact Ev.ifp p4 (Ev.now _)
  refine Ev.ifn p4 ?_
  by_cases p5 : p = 5
  · rw [decide_eq_true (show 3 ≤ p ∧ p ≤ 6 by omega)]; exact Ev.ifp p5 (Ev.now _)
  refine Ev.ifn p5 ?_
  rw [show decide (3 ≤ p ∧ p ≤ 6) = (p == 6) from by by_cases h : p = 6; · rw [decide_eq_true (by omega), h]; rfl
                                                     · rw [decide_eq_false (by omega)]; simp [h]]
  exact Ev.now _
end
end Go.Proofs.YtmcdbjcbfjnfoaaDoor.Pure
