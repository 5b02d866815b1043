
import Derived.Test.YtalcopjlofbfaaaDoorQLinesNamesLabCmp
import Derived.Test.YtalcopjlofbfaaaDoorQLinesNamesLabEq
namespace Go.Proofs.YtalcopjlofbfaaaDoor.Pure
open Go.RowKit Go.Proofs.YtalcopjlofbfaaaDoor Go.Proofs.YtalcopjlofbfaaaDoor.PAll Go.Proofs.YtalcopjlofbfaaaDoorW.PrintWords Go.Proofs.YtalcopjlofbfaaaDoorW.PrintLast Go.Proofs.YtalcopjlofbfaaaDoorW.PrintMore Go.Lib
theorem rd_37 (l : List S37) (i : Nat) (h : i < l.length) : rd_T37 l (i : Int) = l[i] := by
  unfold rd_T37
  rw [List.getD_eq_getElem?_getD, Int.toNat_natCast, List.getElem?_eq_getElem h]; rfl
theorem toList_inj {a b : ByteArray} (h : a.toList = b.toList) : a = b := by
  rw [Lib.toList_data, Lib.toList_data] at h
  cases a with | mk x => cases b with | mk y => exact congrArg ByteArray.mk (Array.toList_inj.1 h)
theorem toList_iff {a b : ByteArray} : a.toList = b.toList ↔ a = b := ⟨toList_inj, fun h => by rw [h]⟩
theorem eqs (a b : ByteArray) : (a.toList == b.toList) = decide (a = b) := by
  by_cases h : a = b
  · rw [h, decide_eq_true rfl, beq_self_eq_true]
  · rw [decide_eq_false h, beq_eq_false_iff_ne]
    exact fun e => h (toList_inj e)
deriving instance DecidableEq for S37
theorem line_ne (x y : S37) : (!((x.f0.toList) == (y.f0.toList)) || (!(x.f1 == y.f1) || (!(x.f2 == y.f2)))) = !decide (x = y) := by
  rw [eqs]
  cases x with | mk a b c => cases y with | mk d e f =>
  by_cases h1 : a = d <;> by_cases h2 : b = e <;> by_cases h3 : c = f <;> simp [h1, h2, h3]
def lineB (x : S37) : Bool := lab x.f0 && decide (1 ≤ x.f1 ∧ x.f1 ≤ 1000 ∧ 0 ≤ x.f2 ∧ x.f2 ≤ 100000)
theorem one_eq (x : S37) (h : x.f0.size ≤ 140737488351232) : lines_one.f x.f0 x.f1 x.f2 = some (lineB x) := by
  unfold lines_one.f lineB
  rw [right_eq _ h]
  cases lab x.f0
  · rfl
  · rw [Option.bind_some, if_pos rfl]
    by_cases c1 : x.f1 ≥ 1
    · by_cases c2 : x.f1 ≤ 1000
      · by_cases c3 : x.f2 ≥ 0
        · rw [if_pos c1, if_pos c2, if_pos c3, Bool.true_and]
          exact congrArg some (decide_eq_decide.2 ⟨fun h => ⟨c1, c2, c3, h⟩, fun h => h.2.2.2⟩)
        · rw [if_pos c1, if_pos c2, if_neg c3, decide_eq_false (by omega)]; rfl
      · rw [if_pos c1, if_neg c2, decide_eq_false (by omega)]; rfl
    · rw [if_neg c1, decide_eq_false (by omega)]; rfl
def ahead (a b : S37) : Bool := decide (compareBytes a.f0.data.toList b.f0.data.toList < 0)
def rise (l : List S37) : Nat → Nat → Bool
  | 0, _ => true
  | d + 1, i => if h : i < l.length then lineB l[i] && ((if h0 : 0 < i then ahead (l[i - 1]'(by omega)) l[i] else true) && rise l d (i + 1)) else true
def linesB (l : List S37) : Bool := rise l l.length 0 && decide (1 ≤ l.length ∧ l.length ≤ 8)
theorem bySku_eq (x y : S37) : lines_bySku.f x.f0 x.f1 x.f2 y.f0 y.f1 y.f2 = some (compareBytes x.f0.data.toList y.f0.data.toList) := rfl
theorem lines_l (l : List S37) (hb : l.length ≤ 9223372036854775806) (hs : ∀ x ∈ l, x.f0.size ≤ 140737488351232) (d : Nat) : ∀ i : Nat, i + d = l.length →
    Ev (fun k => lines_Right.l0 k l l (l.length : Int) (i : Int)) (rise l d i && decide (1 ≤ l.length ∧ l.length ≤ 8)) := by
  induction d with
  | zero =>
    intro i h
    refine Ev.step (f := fun _ => some (decide (1 ≤ l.length ∧ l.length ≤ 8))) (fun k => ?_) (Ev.now _)
    rw [lines_Right.l0, if_neg (by omega)]
    by_cases c : (l.length : Int) ≥ 1
    · rw [if_pos c]; exact congrArg some (decide_eq_decide.2 (by omega))
    · rw [if_neg c, decide_eq_false (by omega)]
  | succ d ih =>
    intro i h
    have h1 : i < l.length := by omega
    refine Ev.step (fun k => by rw [lines_Right.l0, if_pos (by omega), if_pos (by omega), if_pos (by omega), rd_37 l i h1, one_eq _ (hs _ (List.getElem_mem h1))]) ?_
    rw [rise, dif_pos h1]
    refine Ev.bindc rfl ?_
    cases lineB l[i]
    · exact Ev.ifn (by decide) (Ev.now _)
    · refine Ev.ifp rfl ?_
      by_cases c : 0 < i
      · have e1 : wrap64 ((i : Int) - 1) = ((i - 1 : Nat) : Int) := by rw [w64 (by omega) (by omega)]; omega
        rw [dif_pos c]
        refine Ev.ifp (by omega) ?_
        rw [e1]
        refine Ev.ifp (by omega) (Ev.ifp (by omega) ?_)
        rw [rd_37 l (i - 1) (by omega)]
        refine Ev.bindc (bySku_eq _ _) ?_
        have e2 : wrap64 ((i : Int) + 1) = ((i + 1 : Nat) : Int) := by rw [w64 (by omega) (by omega)]; omega
        by_cases c2 : compareBytes (l[i - 1]'(by omega)).f0.data.toList l[i].f0.data.toList ≥ 0
        · rw [show ahead (l[i - 1]'(by omega)) l[i] = false from decide_eq_false (by omega)]
          exact Ev.ifp c2 (Ev.now _)
        · rw [show ahead (l[i - 1]'(by omega)) l[i] = true from decide_eq_true (by omega), e2]
          exact Ev.ifn c2 (ih (i + 1) (by omega))
      · rw [dif_neg c]
        have e2 : wrap64 ((i : Int) + 1) = ((i + 1 : Nat) : Int) := by rw [w64 (by omega) (by omega)]; omega
        refine Ev.ifn (by omega) ?_
        rw [e2]
        exact ih (i + 1) (by omega)
theorem lines_eq (l : List S37) (hb : l.length ≤ 9223372036854775806) (hs : ∀ x ∈ l, x.f0.size ≤ 140737488351232) : Ev (fun k => lines_Right.f k l) (linesB l) :=
  lines_l l hb hs l.length 0 (by omega)
theorem dec_cons {x y : S37} {t u : List S37} (h : x = y) : decide (x :: t = y :: u) = decide (t = u) := by subst h; simp
theorem ref_equal_l (l m : List S37) (hl : l.length = m.length) (hb : l.length ≤ 9223372036854775806) (d : Nat) : ∀ i : Nat, i + d = l.length →
    Ev (fun k => packhorseref04_Same.l0 k l m (l.length : Int) (i : Int)) (decide (l.drop i = m.drop i)) := by
  induction d with
  | zero =>
    intro i h
    rw [List.drop_of_length_le (by omega), List.drop_of_length_le (by omega)]
    refine Ev.step (f := fun _ => some true) (fun k => ?_) (Ev.now _)
    rw [packhorseref04_Same.l0, if_neg (by omega)]
  | succ d ih =>
    intro i h
    have h1 : i < l.length := by omega
    have h2 : i < m.length := by omega
    refine Ev.step (fun k => by rw [packhorseref04_Same.l0, if_pos (by omega), if_pos (by omega), if_pos (by omega), if_pos (by omega), rd_37 l i h1, rd_37 m i h2, line_ne, w64 (by omega) (by omega)]) ?_
    rw [List.drop_eq_getElem_cons h1, List.drop_eq_getElem_cons h2]
    by_cases c : l[i] = m[i]
    · refine Ev.ifn (by simp [c]) ?_
      rw [show decide (l[i] :: l.drop (i + 1) = m[i] :: m.drop (i + 1)) = decide (l.drop (i + 1) = m.drop (i + 1)) from dec_cons c]
      exact ih (i + 1) (by omega)
    · refine Ev.ifp (by simp [c]) ?_
      rw [decide_eq_false (by intro e; injection e with e1 _; exact c e1)]
      exact Ev.now _
theorem ref_equal_eq (l m : List S37) (hb : l.length ≤ 9223372036854775806) : Ev (fun k => packhorseref04_Same.f k l m) (decide (l = m)) := by
  unfold packhorseref04_Same.f
  by_cases c : l.length = m.length
  · refine Ev.ifp (by omega) ?_
    exact ref_equal_l l m c hb l.length 0 (by omega)
  · refine Ev.ifn (by omega) ?_
    rw [decide_eq_false (fun e => c (by rw [e]))]
    exact Ev.now _
theorem ref_lines_l (l : List S37) (hb : l.length ≤ 9223372036854775806) (hs : ∀ x ∈ l, x.f0.size ≤ 140737488351232) (d : Nat) : ∀ i : Nat, i + d = l.length →
    Ev (fun k => packhorseref04_Right.l0 k l l (l.length : Int) (i : Int)) (rise l d i) := by
  induction d with
  | zero =>
    intro i h
    refine Ev.step (f := fun _ => some true) (fun k => ?_) (Ev.now _)
    rw [packhorseref04_Right.l0, if_neg (by omega)]
  | succ d ih =>
    intro i h
    have h1 : i < l.length := by omega
    have hx := hs _ (List.getElem_mem h1)
    have fin : Ev (fun k => packhorseref04_Right.j2 k l (i : Int) l (l.length : Int) (i : Int) true l[i].f0 l[i].f1 l[i].f2) false := Ev.step (f := fun _ => some false) (fun k => by rw [packhorseref04_Right.j2, if_pos rfl]) (Ev.now _)
    refine Ev.step (fun k => by rw [packhorseref04_Right.l0, if_pos (by omega), if_pos (by omega), if_pos (by omega), rd_37 l i h1]) ?_
    rw [rise, dif_pos h1]
    unfold lineB
    refine Ev.bind (right_ref _ hx) ?_
    cases lab l[i].f0
    · exact Ev.ifn (by decide) fin
    refine Ev.ifp rfl ?_
    rw [Bool.true_and]
    by_cases c1 : l[i].f1 < 1
    · rw [decide_eq_false (show ¬ (1 ≤ l[i].f1 ∧ l[i].f1 ≤ 1000 ∧ 0 ≤ l[i].f2 ∧ l[i].f2 ≤ 100000) by omega)]; exact Ev.ifp c1 fin
    refine Ev.ifn c1 ?_
    by_cases c2 : l[i].f1 > 1000
    · rw [decide_eq_false (show ¬ (1 ≤ l[i].f1 ∧ l[i].f1 ≤ 1000 ∧ 0 ≤ l[i].f2 ∧ l[i].f2 ≤ 100000) by omega)]; exact Ev.ifp c2 fin
    refine Ev.ifn c2 ?_
    by_cases c3 : l[i].f2 < 0
    · rw [decide_eq_false (show ¬ (1 ≤ l[i].f1 ∧ l[i].f1 ≤ 1000 ∧ 0 ≤ l[i].f2 ∧ l[i].f2 ≤ 100000) by omega)]; exact Ev.ifp c3 fin
    refine Ev.ifn c3 ?_
    by_cases c4 : l[i].f2 > 100000
    · rw [decide_eq_false (show ¬ (1 ≤ l[i].f1 ∧ l[i].f1 ≤ 1000 ∧ 0 ≤ l[i].f2 ∧ l[i].f2 ≤ 100000) by omega), decide_eq_true c4]; exact fin
    rw [decide_eq_true (show 1 ≤ l[i].f1 ∧ l[i].f1 ≤ 1000 ∧ 0 ≤ l[i].f2 ∧ l[i].f2 ≤ 100000 by omega), decide_eq_false c4, Bool.true_and]
    have e2 : wrap64 ((i : Int) + 1) = ((i + 1 : Nat) : Int) := by rw [w64 (by omega) (by omega)]; omega
    refine Ev.step (fun k => by rw [packhorseref04_Right.j2, if_neg (by decide), e2]) ?_
    by_cases c : 0 < i
    · have e1 : wrap64 ((i : Int) - 1) = ((i - 1 : Nat) : Int) := by rw [w64 (by omega) (by omega)]; omega
      rw [dif_pos c]
      refine Ev.ifp (by omega) ?_
      rw [e1]
      refine Ev.ifp (by omega) (Ev.ifp (by omega) ?_)
      rw [rd_37 l (i - 1) (by omega)]
      refine Ev.bind (compare_f _ _ (hs _ (List.getElem_mem _)) hx) ?_
      have rg := cb_range (l[i - 1]'(by omega)).f0.data.toList l[i].f0.data.toList
      by_cases c5 : compareBytes (l[i - 1]'(by omega)).f0.data.toList l[i].f0.data.toList = -1
      · rw [show ahead (l[i - 1]'(by omega)) l[i] = true from decide_eq_true (by omega), Bool.true_and]
        exact Ev.ifp c5 (ih (i + 1) (by omega))
      · rw [show ahead (l[i - 1]'(by omega)) l[i] = false from decide_eq_false (by omega), Bool.false_and]
        exact Ev.ifn c5 (Ev.now _)
    · rw [dif_neg c, Bool.true_and]
      exact Ev.ifn (by omega) (ih (i + 1) (by omega))
theorem ref_lines_eq (l : List S37) (hb : l.length ≤ 9223372036854775806) (hs : ∀ x ∈ l, x.f0.size ≤ 140737488351232) : Ev (fun k => packhorseref04_Right.f k l) (linesB l) := by
  have fin : Ev (fun k => packhorseref04_Right.j0 k l true) false := Ev.step (f := fun _ => some false) (fun k => by rw [packhorseref04_Right.j0, if_pos rfl]) (Ev.now _)
  unfold packhorseref04_Right.f linesB
  by_cases c1 : (l.length : Int) < 1
  · rw [decide_eq_false (show ¬ (1 ≤ l.length ∧ l.length ≤ 8) by omega), Bool.and_false]
    exact Ev.ifp c1 fin
  refine Ev.ifn c1 ?_
  by_cases c2 : (l.length : Int) > 8
  · rw [decide_eq_false (show ¬ (1 ≤ l.length ∧ l.length ≤ 8) by omega), Bool.and_false, decide_eq_true c2]
    exact fin
  rw [decide_eq_true (show 1 ≤ l.length ∧ l.length ≤ 8 by omega), Bool.and_true, decide_eq_false c2]
  refine Ev.step (fun k => by rw [packhorseref04_Right.j0, if_neg (by decide)]) ?_
  exact ref_lines_l l hb hs l.length 0 (by omega)
end Go.Proofs.YtalcopjlofbfaaaDoor.Pure
