
import Derived.Test.YtmcdbjcbfjnfoaaDoorQOrderTakesLabCmp
namespace Go.Proofs.YtmcdbjcbfjnfoaaDoor.Pure
open Go.RowKit Go.Proofs.YtmcdbjcbfjnfoaaDoor Go.Proofs.YtmcdbjcbfjnfoaaDoor.PAll Go.Proofs.YtmcdbjcbfjnfoaaDoorW.PrintWords Go.Proofs.YtmcdbjcbfjnfoaaDoorW.PrintLast Go.Proofs.YtmcdbjcbfjnfoaaDoorW.PrintMore Go.Lib
theorem rd_52 (l : List S52) (i : Nat) (h : i < l.length) : rd_T52 l (i : Int) = l[i] := by
  unfold rd_T52
  rw [List.getD_eq_getElem?_getD, Int.toNat_natCast, List.getElem?_eq_getElem h]; rfl
theorem toList_inj {a b : ByteArray} (h : a.toList = b.toList) : a = b := by
  rw [Lib.toList_data, Lib.toList_data] at h
  cases a with | mk x => cases b with | mk y => exact congrArg ByteArray.mk (Array.toList_inj.1 h)
theorem toList_iff {a b : ByteArray} : a.toList = b.toList ↔ a = b := ⟨toList_inj, fun h => by rw [h]⟩
theorem eqs (a b : ByteArray) : (a.toList == b.toList) = decide (a = b) := by
  by_cases h : a = b
  · rw [h, decide_eq_true rfl, beq_self_eq_true]
  · rw [decide_eq_false h, beq_eq_false_iff_ne]
    exact fun e => h (toList_inj e)
deriving instance DecidableEq for S52
theorem line_ne (x y : S52) : (!((x.f0.toList) == (y.f0.toList)) || (!(x.f1 == y.f1) || (!(x.f2 == y.f2)))) = !decide (x = y) := by
  rw [eqs]
  cases x with | mk a b c => cases y with | mk d e f =>
  by_cases h1 : a = d <;> by_cases h2 : b = e <;> by_cases h3 : c = f <;> simp [h1, h2, h3]
def lineB (x : S52) : Bool := lab x.f0 && decide (1 ≤ x.f1 ∧ x.f1 ≤ 1000 ∧ 0 ≤ x.f2 ∧ x.f2 ≤ 100000)
theorem one_eq (x : S52) (h : x.f0.size ≤ 140737488351232) : lines_one.f x.f0 x.f1 x.f2 = some (lineB x) := by
  unfold lines_one.f lineB
  rw [right_eq _ h]
  cases lab x.f0
  · rfl
  · rw [Option.bind_some, if_pos rfl]
    by_cases c1 : x.f1 ≥ 1
    · by_cases c2 : x.f1 ≤ 1000
      · by_cases c3 : x.f2 ≥ 0
        · rw [if_pos c1, if_pos c2, if_pos c3, Bool.true_and]
          exact congrArg some (decide_eq_decide.2 ⟨fun h => ⟨c1, c2, c3, h⟩, fun h => h.2.2.2⟩)
        · rw [if_pos c1, if_pos c2, if_neg c3, decide_eq_false (by omega)]; rfl
      · rw [if_pos c1, if_neg c2, decide_eq_false (by omega)]; rfl
    · rw [if_neg c1, decide_eq_false (by omega)]; rfl
def ahead (a b : S52) : Bool := decide (compareBytes a.f0.data.toList b.f0.data.toList < 0)
def rise (l : List S52) : Nat → Nat → Bool
  | 0, _ => true
  | d + 1, i => if h : i < l.length then lineB l[i] && ((if h0 : 0 < i then ahead (l[i - 1]'(by omega)) l[i] else true) && rise l d (i + 1)) else true
def linesB (l : List S52) : Bool := rise l l.length 0 && decide (1 ≤ l.length ∧ l.length ≤ 8)
theorem bySku_eq (x y : S52) : lines_bySku.f x.f0 x.f1 x.f2 y.f0 y.f1 y.f2 = some (compareBytes x.f0.data.toList y.f0.data.toList) := rfl
theorem lines_l (l : List S52) (hb : l.length ≤ 9223372036854775806) (hs : ∀ x ∈ l, x.f0.size ≤ 140737488351232) (d : Nat) : ∀ i : Nat, i + d = l.length →
    Ev (fun k => lines_Right.l0 k l l (l.length : Int) (i : Int)) (rise l d i && decide (1 ≤ l.length ∧ l.length ≤ 8)) := by
  induction d with
  | zero =>
    intro i h
    refine Ev.step (f := fun _ => some (decide (1 ≤ l.length ∧ l.length ≤ 8))) (fun k => ?_) (Ev.now _)
    rw [lines_Right.l0, if_neg (by omega)]
    by_cases c : (l.length : Int) ≥ 1
    · rw [if_pos c]; exact congrArg some (decide_eq_decide.2 (by omega))
    · rw [if_neg c, decide_eq_false (by omega)]
  | succ d ih =>
    intro i h
    have h1 : i < l.length := by omega
    refine Ev.step (fun k => by rw [lines_Right.l0, if_pos (by omega), if_pos (by omega), if_pos (by omega), rd_52 l i h1, one_eq _ (hs _ (List.getElem_mem h1))]) ?_
    rw [rise, dif_pos h1]
    refine Ev.bindc rfl ?_
    cases lineB l[i]
    · exact Ev.ifn (by decide) (Ev.now _)
    · refine Ev.ifp rfl ?_
      by_cases c : 0 < i
      · have e1 : wrap64 ((i : Int) - 1) = ((i - 1 : Nat) : Int) := by rw [w64 (by omega) (by omega)]; omega
        rw [dif_pos c]
        refine Ev.ifp (by omega) ?_
        rw [e1]
        refine Ev.ifp (by omega) (Ev.ifp (by omega) ?_)
        rw [rd_52 l (i - 1) (by omega)]
        refine Ev.bindc (bySku_eq _ _) ?_
        have e2 : wrap64 ((i : Int) + 1) = ((i + 1 : Nat) : Int) := by rw [w64 (by omega) (by omega)]; omega
        by_cases c2 : compareBytes (l[i - 1]'(by omega)).f0.data.toList l[i].f0.data.toList ≥ 0
        · rw [show ahead (l[i - 1]'(by omega)) l[i] = false from decide_eq_false (by omega)]
          exact Ev.ifp c2 (Ev.now _)
        · rw [show ahead (l[i - 1]'(by omega)) l[i] = true from decide_eq_true (by omega), e2]
          exact Ev.ifn c2 (ih (i + 1) (by omega))
      · rw [dif_neg c]
        have e2 : wrap64 ((i : Int) + 1) = ((i + 1 : Nat) : Int) := by rw [w64 (by omega) (by omega)]; omega
        refine Ev.ifn (by omega) ?_
        rw [e2]
        exact ih (i + 1) (by omega)
theorem lines_eq (l : List S52) (hb : l.length ≤ 9223372036854775806) (hs : ∀ x ∈ l, x.f0.size ≤ 140737488351232) : Ev (fun k => lines_Right.f k l) (linesB l) :=
  lines_l l hb hs l.length 0 (by omega)
def grp (c z s : ByteArray) : Bool := lab c && (lab z && lab s)
theorem group_eq (c z s : ByteArray) (hc : c.size ≤ 140737488351232) (hz : z.size ≤ 140737488351232) (hs : s.size ≤ 140737488351232) : order_group.f c z s = some (grp c z s) := by
  unfold order_group.f grp
  rw [right_eq c hc, right_eq z hz, right_eq s hs]
  cases lab c <;> cases lab z <;> cases lab s <;> rfl
theorem tally_R (x : Int) : tally_Right.f x = some (decide (0 ≤ x ∧ x ≤ 1000000000000)) := by
  unfold tally_Right.f
  by_cases c : 0 ≤ x
  · rw [if_pos (by omega)]; simp [c]
  · rw [if_neg (by omega), decide_eq_false (by omega)]
theorem saga_R (p : Int) (g : Bool) (r : Int) : order_saga.f p g r = some (decide (1 ≤ p ∧ p ≤ 12 ∧ 0 ≤ r ∧ r ≤ 1000000)) := by
  unfold order_saga.f
  by_cases c1 : p ≥ 1
  · by_cases c2 : p ≤ 12
    · by_cases c3 : r ≥ 0
      · rw [if_pos c1, if_pos c2, if_pos c3]
        exact congrArg some (decide_eq_decide.2 ⟨fun h => ⟨c1, c2, c3, h⟩, fun h => h.2.2.2⟩)
      · rw [if_pos c1, if_pos c2, if_neg c3, decide_eq_false (by omega)]
    · rw [if_pos c1, if_neg c2, decide_eq_false (by omega)]
  · rw [if_neg c1, decide_eq_false (by omega)]
def okO (id : ByteArray) (l : List S52) (c z s : ByteArray) (t p : Int) (r b : Int) : Bool :=
  lab id && (grp c z s && (linesB l && (decide (0 ≤ t ∧ t ≤ 1000000000000) && (decide (1 ≤ p ∧ p ≤ 12 ∧ 0 ≤ r ∧ r ≤ 1000000) && (decide (0 ≤ b ∧ b ≤ 1000000000000) && (decide (3 ≤ p ∧ p ≤ 6) == (b != 0)))))))
section
variable (id : ByteArray) (l : List S52) (c z s : ByteArray) (t p : Int) (g : Bool) (r b : Int) (hi : id.size ≤ 140737488351232) (hc : c.size ≤ 140737488351232) (hz : z.size ≤ 140737488351232) (hs : s.size ≤ 140737488351232) (hb : l.length ≤ 9223372036854775806) (hl : ∀ x ∈ l, x.f0.size ≤ 140737488351232)
include hi hc hz hs hb hl
theorem right_O : Ev (fun k => order_Right.f k id l c z s t p g r b) (okO id l c z s t p r b) := by
  have main : ∀ q : Bool, Ev (fun k => order_Right.j0 k q id l c z s t p g r b) (lab id && (grp c z s && (linesB l && (decide (0 ≤ t ∧ t ≤ 1000000000000) && (decide (1 ≤ p ∧ p ≤ 12 ∧ 0 ≤ r ∧ r ≤ 1000000) && (decide (0 ≤ b ∧ b ≤ 1000000000000) && (q == (b != 0)))))))) := by
    intro q
    refine Ev.step (fun k => by rw [order_Right.j0, right_eq id hi, group_eq c z s hc hz hs, tally_R, saga_R, tally_R]) ?_
    refine Ev.bindc rfl ?_
    cases lab id
    · exact Ev.ifn (by decide) (Ev.now _)
    refine Ev.ifp rfl (Ev.bindc rfl ?_)
    cases grp c z s
    · exact Ev.ifn (by decide) (Ev.now _)
    refine Ev.ifp rfl (Ev.bind (lines_eq l hb hl) ?_)
    cases linesB l
    · exact Ev.ifn (by decide) (Ev.now _)
    refine Ev.ifp rfl (Ev.bindc rfl ?_)
    cases decide (0 ≤ t ∧ t ≤ 1000000000000)
    · exact Ev.ifn (by decide) (Ev.now _)
    refine Ev.ifp rfl (Ev.bindc rfl ?_)
    cases decide (1 ≤ p ∧ p ≤ 12 ∧ 0 ≤ r ∧ r ≤ 1000000)
    · exact Ev.ifn (by decide) (Ev.now _)
    refine Ev.ifp rfl (Ev.bindc rfl ?_)
    cases decide (0 ≤ b ∧ b ≤ 1000000000000)
    · exact Ev.ifn (by decide) (Ev.now _)
    exact Ev.ifp rfl (Ev.now _)
  unfold order_Right.f okO
  by_cases c1 : p ≥ 3
  · refine Ev.ifp c1 ?_
    rw [show decide (3 ≤ p ∧ p ≤ 6) = decide (p ≤ 6) from decide_eq_decide.2 (by omega)]
    exact main _
  · refine Ev.ifn c1 ?_
    rw [show decide (3 ≤ p ∧ p ≤ 6) = false from decide_eq_false (by omega)]
    exact main _
end
theorem dec_cons {x y : S52} {t u : List S52} (h : x = y) : decide (x :: t = y :: u) = decide (t = u) := by subst h; simp
theorem equal_l (l m : List S52) (hl : l.length = m.length) (hb : l.length ≤ 9223372036854775806) (d : Nat) : ∀ i : Nat, i + d = l.length →
    Ev (fun k => api_Line.l0 k l m (l.length : Int) (i : Int)) (decide (l.drop i = m.drop i)) := by
  induction d with
  | zero =>
    intro i h
    rw [List.drop_of_length_le (by omega), List.drop_of_length_le (by omega)]
    refine Ev.step (f := fun _ => some true) (fun k => ?_) (Ev.now _)
    rw [api_Line.l0, if_neg (by omega)]
  | succ d ih =>
    intro i h
    have h1 : i < l.length := by omega
    have h2 : i < m.length := by omega
    refine Ev.step (fun k => by rw [api_Line.l0, if_pos (by omega), if_pos (by omega), if_pos (by omega), if_pos (by omega), rd_52 l i h1, rd_52 m i h2, line_ne, w64 (by omega) (by omega)]) ?_
    rw [List.drop_eq_getElem_cons h1, List.drop_eq_getElem_cons h2]
    by_cases c : l[i] = m[i]
    · refine Ev.ifn (by simp [c]) ?_
      rw [show decide (l[i] :: l.drop (i + 1) = m[i] :: m.drop (i + 1)) = decide (l.drop (i + 1) = m.drop (i + 1)) from dec_cons c]
      exact ih (i + 1) (by omega)
    · refine Ev.ifp (by simp [c]) ?_
      rw [decide_eq_false (by intro e; injection e with e1 _; exact c e1)]
      exact Ev.now _
theorem equal_eq (l m : List S52) (hb : l.length ≤ 9223372036854775806) : Ev (fun k => api_Line.f k l m) (decide (l = m)) := by
  unfold api_Line.f
  by_cases c : l.length = m.length
  · refine Ev.ifp (by omega) ?_
    exact equal_l l m c hb l.length 0 (by omega)
  · refine Ev.ifn (by omega) ?_
    rw [decide_eq_false (fun e => c (by rw [e]))]
    exact Ev.now _
def sameB (i : ByteArray) (l : List S52) (c z s : ByteArray) (t p : Int) (g : Bool) (r b : Int) (i' : ByteArray) (l' : List S52) (c' z' s' : ByteArray) (t' p' : Int) (g' : Bool) (r' b' : Int) : Bool :=
  decide (i = i' ∧ l = l' ∧ c = c' ∧ z = z' ∧ s = s' ∧ t = t' ∧ p = p' ∧ g = g' ∧ r = r' ∧ b = b')
section
variable (i : ByteArray) (l : List S52) (c z s : ByteArray) (t p : Int) (g : Bool) (r b : Int) (i' : ByteArray) (l' : List S52) (c' z' s' : ByteArray) (t' p' : Int) (g' : Bool) (r' b' : Int) (hb : l.length ≤ 9223372036854775806)
include hb
theorem same_O : Ev (fun k => order_Same.f k i l c z s t p g r b i' l' c' z' s' t' p' g' r' b') (sameB i l c z s t p g r b i' l' c' z' s' t' p' g' r' b') := by
  unfold order_Same.f sameB
  by_cases c0 : i = i'
  rotate_left
  · rw [decide_eq_false (fun h => c0 h.1)]
    exact Ev.ifn (fun e => c0 (toList_inj e)) (Ev.now _)
  have e1 := equal_eq l l' hb
  by_cases c1 : l = l'
  rotate_left
  · rw [decide_eq_false (fun h => c1 h.2.1)]
    rw [decide_eq_false c1] at e1
    exact Ev.ifp (toList_iff.2 c0) (Ev.bind e1 (Ev.ifn (by decide) (Ev.now _)))
  rw [decide_eq_true c1] at e1
  refine Ev.ifp (toList_iff.2 c0) (Ev.bind e1 (Ev.ifp rfl ?_))
  by_cases c2 : c = c' ∧ z = z' ∧ s = s'
  rotate_left
  · rw [decide_eq_false (fun h => c2 ⟨h.2.2.1, h.2.2.2.1, h.2.2.2.2.1⟩)]
    refine Ev.ifn (fun e => c2 ?_) (Ev.now _)
    simp only [eqs, Bool.and_eq_true, decide_eq_true_eq] at e
    exact e
  refine Ev.ifp (by simp only [eqs, Bool.and_eq_true, decide_eq_true_eq]; exact c2) ?_
  by_cases c3 : t = t'
  rotate_left
  · rw [decide_eq_false (fun h => c3 h.2.2.2.2.2.1)]
    exact Ev.ifn c3 (Ev.now _)
  refine Ev.ifp c3 ?_
  by_cases c4 : p = p' ∧ g = g' ∧ r = r'
  rotate_left
  · rw [decide_eq_false (fun h => c4 ⟨h.2.2.2.2.2.2.1, h.2.2.2.2.2.2.2.1, h.2.2.2.2.2.2.2.2.1⟩)]
    refine Ev.ifn (fun e => c4 ?_) (Ev.now _)
    simp only [Bool.and_eq_true, beq_iff_eq] at e
    exact e
  refine Ev.ifp (by simp only [Bool.and_eq_true, beq_iff_eq]; exact c4) ?_
  rw [show decide (i = i' ∧ l = l' ∧ c = c' ∧ z = z' ∧ s = s' ∧ t = t' ∧ p = p' ∧ g = g' ∧ r = r' ∧ b = b') = (b == b') from by
    by_cases h : b = b'
    · rw [decide_eq_true ⟨c0, c1, c2.1, c2.2.1, c2.2.2, c3, c4.1, c4.2.1, c4.2.2, h⟩, h]; simp
    · rw [decide_eq_false (fun e => h e.2.2.2.2.2.2.2.2.2)]; simp [h]]
  exact Ev.now _
end
end Go.Proofs.YtmcdbjcbfjnfoaaDoor.Pure
