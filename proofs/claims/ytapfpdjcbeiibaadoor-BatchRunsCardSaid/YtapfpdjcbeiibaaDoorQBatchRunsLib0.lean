
import Derived.Test.YtapfpdjcbeiibaaDoorQBatchRunsLabEq
import Derived.Test.YtapfpdjcbeiibaaDoorQBatchRunsLibGo0
namespace Go.Proofs.YtapfpdjcbeiibaaDoor.Pure
open Go.RowKit Go.Proofs.YtapfpdjcbeiibaaDoor Go.Proofs.YtapfpdjcbeiibaaDoor.PAll Go.Proofs.YtapfpdjcbeiibaaDoorW.PrintWords Go.Proofs.YtapfpdjcbeiibaaDoorW.PrintLast Go.Proofs.YtapfpdjcbeiibaaDoorW.PrintMore
theorem dec_cons {x y : ByteArray} {t u : List ByteArray} (h : x = y) : decide (x :: t = y :: u) = decide (t = u) := by subst h; simp
theorem same_l (l m : List ByteArray) (hl : l.length = m.length) (hb : l.length ≤ 9223372036854775806) (d : Nat) : ∀ i : Nat, i + d = l.length →
    Ev (fun k => packhorseref01_Same.l0 k l m (l.length : Int) (i : Int)) (decide (l.drop i = m.drop i)) := by
  induction d with
  | zero =>
    intro i h
    rw [List.drop_of_length_le (by omega), List.drop_of_length_le (by omega)]
    refine Ev.step (f := fun _ => some true) (fun k => ?_) (Ev.now _)
    rw [packhorseref01_Same.l0, if_neg (by omega)]
  | succ d ih =>
    intro i h
    have h1 : i < l.length := by omega
    have h2 : i < m.length := by omega
    refine Ev.step (fun k => by rw [packhorseref01_Same.l0, if_pos (by omega), if_pos (by omega), if_pos (by omega), if_pos (by omega), rd_str l i h1, rd_str m i h2, w64 (by omega) (by omega)]) ?_
    rw [List.drop_eq_getElem_cons h1, List.drop_eq_getElem_cons h2]
    by_cases c : l[i] = m[i]
    · refine Ev.ifp (toList_iff.2 c) ?_
      rw [show decide (l[i] :: l.drop (i + 1) = m[i] :: m.drop (i + 1)) = decide (l.drop (i + 1) = m.drop (i + 1)) from dec_cons c]
      exact ih (i + 1) (by omega)
    · refine Ev.ifn (fun e => c (toList_inj e)) ?_
      rw [decide_eq_false (by intro e; injection e with e1 _; exact c e1)]
      exact Ev.now _
theorem same_eq (l m : List ByteArray) (hb : l.length ≤ 9223372036854775806) : Ev (fun k => packhorseref01_Same.f k l m) (decide (l = m)) := by
  unfold packhorseref01_Same.f
  by_cases c : l.length = m.length
  · refine Ev.ifp (by omega) ?_
    exact same_l l m c hb l.length 0 (by omega)
  · refine Ev.ifn (by omega) ?_
    rw [decide_eq_false (fun e => c (by rw [e]))]
    exact Ev.now _
theorem group_ref (c z s : ByteArray) (hc : c.size ≤ 140737488351232) (hz : z.size ≤ 140737488351232) (hs : s.size ≤ 140737488351232) : Ev (fun k => packhorseref10_Group.f k c z s) (grp c z s) := by
  unfold packhorseref10_Group.f grp
  refine Ev.bind (right_ref c hc) ?_
  cases lab c
  · exact Ev.ifn (by decide) (Ev.now _)
  · refine Ev.ifp rfl (Ev.bind (right_ref z hz) ?_)
    cases lab z
    · exact Ev.ifn (by decide) (Ev.now _)
    · exact Ev.ifp rfl (Ev.bind (right_ref s hs) (Ev.now _))
theorem ref_l1 (l : List ByteArray) (hb : l.length ≤ 9223372036854775806) (i : Nat) (hi : i < l.length) (a : ByteArray) (y0 y1 y2 y3 y4 : Int) (y5 y6 y7 : ByteArray) (r : Bool) (hr : Ev (fun k => packhorseref11_Right.l0 k l (l.length : Int) ((i + 1 : Nat) : Int) y0 y1 y2 y3 y4 y5 y6 y7 l) r) (d : Nat) : ∀ j : Nat, j + d = i → has (l.take j) a = false →
    Ev (fun k => packhorseref11_Right.l1 k (i : Int) a (j : Int) l (l.length : Int) (i : Int) y0 y1 y2 y3 y4 y5 y6 y7 l) (!has (l.take i) a && r) := by
  induction d with
  | zero =>
    intro j h hf
    obtain rfl : j = i := by omega
    rw [hf]
    refine Ev.step (fun k => by rw [packhorseref11_Right.l1, if_neg (by omega), w64 (by omega) (by omega)]) ?_
    exact hr
  | succ d ih =>
    intro j h hf
    have hj : j < l.length := by omega
    refine Ev.step (fun k => by rw [packhorseref11_Right.l1, if_pos (by omega), if_pos (by omega), if_pos (by omega), rd_str l j hj, w64 (by omega) (by omega)]) ?_
    by_cases c : l[j] = a
    · refine Ev.ifp (toList_iff.2 c) ?_
      have : has (l.take i) a = true := by
        unfold has
        rw [List.any_eq_true]
        refine ⟨l[j], ?_, by simp [c]⟩
        rw [List.mem_take_iff_getElem]
        exact ⟨j, by omega, rfl⟩
      rw [this]
      exact Ev.now _
    · refine Ev.ifn (fun e => c (toList_inj e)) (ih (j + 1) (by omega) ?_)
      rw [has_take_succ l j hj, hf, decide_eq_false c]; rfl
theorem ref_l (l : List ByteArray) (hb : l.length ≤ 9223372036854775806) (hs : ∀ x ∈ l, x.size ≤ 140737488351232) (y0 y1 y2 y3 y4 : Int) (y5 y6 y7 : ByteArray) (d : Nat) : ∀ i : Nat, i + d = l.length →
    Ev (fun k => packhorseref11_Right.l0 k l (l.length : Int) (i : Int) y0 y1 y2 y3 y4 y5 y6 y7 l) (membs l d i) := by
  induction d with
  | zero =>
    intro i h
    refine Ev.step (f := fun _ => some true) (fun k => ?_) (Ev.now _)
    rw [packhorseref11_Right.l0, if_neg (by omega)]
  | succ d ih =>
    intro i h
    have h1 : i < l.length := by omega
    refine Ev.step (fun k => by rw [packhorseref11_Right.l0, if_pos (by omega), if_pos (by omega), if_pos (by omega), rd_str l i h1]) ?_
    rw [membs, dif_pos h1]
    refine Ev.bind (right_ref _ (hs _ (List.getElem_mem h1))) ?_
    cases lab l[i]
    · exact Ev.ifn (by decide) (Ev.now _)
    · refine Ev.ifp rfl ?_
      exact ref_l1 l hb i h1 l[i] y0 y1 y2 y3 y4 y5 y6 y7 _ (ih (i + 1) (by omega)) i 0 (by omega) (by simp [has])
theorem ref02_R (x : Int) : packhorseref02_Right.f x = some (decide (0 ≤ x ∧ x ≤ 1000000000000)) := by
  unfold packhorseref02_Right.f
  by_cases c : 0 ≤ x
  · rw [if_pos (by omega)]; simp [c]
  · rw [if_neg (by omega), decide_eq_false (by omega)]
theorem ref03_R (x : Int) : packhorseref03_Right.f x = some (decide (0 ≤ x ∧ x ≤ 1099511627776)) := by
  unfold packhorseref03_Right.f
  by_cases c : 0 ≤ x
  · rw [if_pos (by omega)]; simp [c]
  · rw [if_neg (by omega), decide_eq_false (by omega)]
section
variable (id wt born kind ph : Int) (c z s : ByteArray) (l : List ByteArray) (hc : c.size ≤ 140737488351232) (hz : z.size ≤ 140737488351232) (hs : s.size ≤ 140737488351232) (hb : l.length ≤ 9223372036854775806) (hl : ∀ x ∈ l, x.size ≤ 140737488351232)
include hc hz hs hb hl
theorem right_R : Ev (fun k => packhorseref11_Right.f k id wt born kind ph c z s l) (okB id wt born kind ph c z s l) := by
  have no : Ev (fun k => packhorseref11_Right.j0 k true id wt born kind ph c z s l) false := Ev.of (packhorseref11_Right.mono_l · |>.1 _ _ _ _ _ _ _ _ _ _) (k := 1) (by rw [packhorseref11_Right.j0, if_pos rfl])
  have no1 : Ev (fun k => packhorseref11_Right.j1 k true id wt born kind ph c z s l) false := Ev.of (packhorseref11_Right.mono_l · |>.2.1 _ _ _ _ _ _ _ _ _ _) (k := 1) (by rw [packhorseref11_Right.j1, if_pos rfl])
  unfold packhorseref11_Right.f
  by_cases c1 : id < 1
  · refine Ev.ifp c1 ?_
    rw [show okB id wt born kind ph c z s l = false from by unfold okB; rw [decide_eq_false (by omega)]; rfl]
    exact no
  refine Ev.ifn c1 ?_
  by_cases c2 : id > 1000000000000
  · refine Ev.ifp c2 ?_
    rw [show okB id wt born kind ph c z s l = false from by unfold okB; rw [decide_eq_false (by omega)]; rfl]
    exact no
  refine Ev.ifn c2 (Ev.bindc (ref02_R wt) ?_)
  by_cases c3 : 0 ≤ wt ∧ wt ≤ 1000000000000
  rotate_left
  · rw [show okB id wt born kind ph c z s l = false from by unfold okB; rw [decide_eq_false (by omega)]; rfl]
    exact Ev.ifn (by simp; omega) no
  refine Ev.ifp (decide_eq_true c3) (Ev.bindc (ref03_R born) ?_)
  by_cases c4 : 0 ≤ born ∧ born ≤ 1099511627776
  rotate_left
  · rw [show okB id wt born kind ph c z s l = false from by unfold okB; rw [decide_eq_false (by omega)]; rfl]
    exact Ev.ifn (by simp; omega) no
  refine Ev.ifp (decide_eq_true c4) ?_
  by_cases c5 : l.length ≤ 64
  rotate_left
  · rw [show okB id wt born kind ph c z s l = false from by unfold okB; rw [decide_eq_false (by omega)]; rfl, decide_eq_true (by omega)]
    exact no
  rw [decide_eq_false (show ¬ ((l.length : Int) > 64) by omega)]
  unfold okB
  rw [decide_eq_true (show 1 ≤ id ∧ id ≤ 1000000000000 ∧ 0 ≤ wt ∧ wt ≤ 1000000000000 ∧ 0 ≤ born ∧ born ≤ 1099511627776 ∧ l.length ≤ 64 by omega)]
  refine Ev.step (fun k => by rw [packhorseref11_Right.j0, if_neg (by decide)]) ?_
  have last : 1 ≤ ph → ph ≤ 3 → (kind = 1 ∨ kind = 2) → Ev (fun k => (packhorseref10_Group.f k c z s).bind fun t => packhorseref11_Right.j1 k (!t) id wt born kind ph c z s l) (true && (grp c z s && (decide ((kind = 1 ∨ kind = 2) ∧ 1 ≤ ph ∧ ph ≤ 3) && membs l l.length 0))) := by
    intro p1 p2 hk
    refine Ev.bind (group_ref c z s hc hz hs) ?_
    rw [decide_eq_true ⟨hk, p1, p2⟩]
    cases grp c z s
    · exact no1
    refine Ev.step (fun k => by rw [show (!true) = false from rfl, packhorseref11_Right.j1, if_neg (by decide)]) ?_
    exact ref_l l hb hl id wt born kind ph c z s l.length 0 (by omega)
  have bad : ¬ ((kind = 1 ∨ kind = 2) ∧ 1 ≤ ph ∧ ph ≤ 3) → (true && (grp c z s && (decide ((kind = 1 ∨ kind = 2) ∧ 1 ≤ ph ∧ ph ≤ 3) && membs l l.length 0))) = false := by
    intro h
    rw [decide_eq_false h]
    cases grp c z s <;> rfl
  by_cases k1 : kind = 1
  · refine Ev.ifp k1 ?_
    by_cases k3 : ph < 1
    · rw [bad (by omega)]; exact Ev.ifp k3 no1
    refine Ev.ifn k3 ?_
    by_cases k4 : ph > 3
    · rw [bad (by omega)]; exact Ev.ifp k4 no1
    exact Ev.ifn k4 (last (by omega) (by omega) (by omega))
  refine Ev.ifn k1 ?_
  by_cases k2 : kind = 2
  · refine Ev.ifp k2 ?_
    by_cases k3 : ph < 1
    · rw [bad (by omega)]; exact Ev.ifp k3 no1
    refine Ev.ifn k3 ?_
    by_cases k4 : ph > 3
    · rw [bad (by omega)]; exact Ev.ifp k4 no1
    exact Ev.ifn k4 (last (by omega) (by omega) (by omega))
  rw [bad (by omega)]
  exact Ev.ifn k2 no1
end
end Go.Proofs.YtapfpdjcbeiibaaDoor.Pure
