
import Derived.Test.YtapfpdjcbeiibaaDoorQBatchBackLibGo0
namespace Go.Proofs.YtapfpdjcbeiibaaDoor.Pure
open Go.RowKit Go.Proofs.YtapfpdjcbeiibaaDoor Go.Proofs.YtapfpdjcbeiibaaDoor.PAll Go.Proofs.YtapfpdjcbeiibaaDoorW.PrintWords Go.Proofs.YtapfpdjcbeiibaaDoorW.PrintLast Go.Proofs.YtapfpdjcbeiibaaDoorW.PrintMore
theorem group_eq (c z s : ByteArray) (hc : c.size ≤ 140737488351232) (hz : z.size ≤ 140737488351232) (hs : s.size ≤ 140737488351232) : batch_group.f c z s = some (grp c z s) := by
  unfold batch_group.f grp
  rw [right_eq c hc, right_eq z hz, right_eq s hs]
  cases lab c <;> cases lab z <;> cases lab s <;> rfl
theorem right_l (l : List ByteArray) (hb : l.length ≤ 9223372036854775806) (hs : ∀ x ∈ l, x.size ≤ 140737488351232) (y0 y1 y2 y3 y4 : Int) (y5 y6 y7 : ByteArray) (d : Nat) : ∀ i : Nat, i + d = l.length →
    Ev (fun k => batch_Right.l0 k l (l.length : Int) (i : Int) y0 y1 y2 y3 y4 y5 y6 y7 l) (membs l d i) := by
  induction d with
  | zero =>
    intro i h
    refine Ev.step (f := fun _ => some true) (fun k => ?_) (Ev.now _)
    rw [batch_Right.l0, if_neg (by omega)]
  | succ d ih =>
    intro i h
    have h1 : i < l.length := by omega
    refine Ev.step (fun k => by rw [batch_Right.l0, if_pos (by omega), if_pos (by omega), if_pos (by omega), rd_str l i h1, right_eq _ (hs _ (List.getElem_mem h1)), Int.toNat_natCast, w64 (by omega) (by omega)]) ?_
    rw [membs, dif_pos h1]
    refine Ev.bindc rfl ?_
    cases lab l[i]
    · exact Ev.ifn (by decide) (Ev.now _)
    · refine Ev.ifp rfl (Ev.ifp (by omega) (Ev.bind (contains_eq (l.take i) l[i] (by rw [List.length_take]; omega)) ?_))
      cases has (l.take i) l[i]
      · exact Ev.ifn (by decide) (ih (i + 1) (by omega))
      · exact Ev.ifp rfl (Ev.now _)
theorem day_R (x : Int) : day_Right.f x = some (decide (0 ≤ x ∧ x ≤ 1099511627776)) := by
  unfold day_Right.f
  by_cases c : 0 ≤ x
  · rw [if_pos (by omega)]; simp [c]
  · rw [if_neg (by omega), decide_eq_false (by omega)]
section
variable (id wt born kind ph : Int) (c z s : ByteArray) (l : List ByteArray) (hc : c.size ≤ 140737488351232) (hz : z.size ≤ 140737488351232) (hs : s.size ≤ 140737488351232) (hb : l.length ≤ 9223372036854775806) (hl : ∀ x ∈ l, x.size ≤ 140737488351232)
include hc hz hs hb hl
theorem right_B : Ev (fun k => batch_Right.f k id wt born kind ph c z s l) (okB id wt born kind ph c z s l) := by
  have no : Ev (fun k => batch_Right.j0 k true id wt born kind ph c z s l) false := Ev.of (batch_Right.mono_l · |>.1 _ _ _ _ _ _ _ _ _ _) (k := 1) (by rw [batch_Right.j0, if_pos rfl])
  have no1 : Ev (fun k => batch_Right.j1 k true id wt born kind ph c z s l) false := Ev.of (batch_Right.mono_l · |>.2.1 _ _ _ _ _ _ _ _ _ _) (k := 1) (by rw [batch_Right.j1, if_pos rfl])
  unfold batch_Right.f
  by_cases c1 : id < 1
  · refine Ev.ifp c1 ?_
    rw [show okB id wt born kind ph c z s l = false from by unfold okB; rw [decide_eq_false (by omega)]; rfl]
    exact no
  refine Ev.ifn c1 (Ev.bindc (tally_R id) ?_)
  by_cases c2 : id ≤ 1000000000000
  rotate_left
  · rw [show okB id wt born kind ph c z s l = false from by unfold okB; rw [decide_eq_false (by omega)]; rfl]
    exact Ev.ifn (by simp; omega) no
  refine Ev.ifp (by simp; omega) (Ev.bindc (tally_R wt) ?_)
  by_cases c3 : 0 ≤ wt ∧ wt ≤ 1000000000000
  rotate_left
  · rw [show okB id wt born kind ph c z s l = false from by unfold okB; rw [decide_eq_false (by omega)]; rfl]
    exact Ev.ifn (by simp; omega) no
  refine Ev.ifp (decide_eq_true c3) (Ev.bindc (day_R born) ?_)
  by_cases c4 : 0 ≤ born ∧ born ≤ 1099511627776
  rotate_left
  · rw [show okB id wt born kind ph c z s l = false from by unfold okB; rw [decide_eq_false (by omega)]; rfl]
    exact Ev.ifn (by simp; omega) no
  refine Ev.ifp (decide_eq_true c4) ?_
  by_cases c5 : l.length ≤ 64
  rotate_left
  · rw [show okB id wt born kind ph c z s l = false from by unfold okB; rw [decide_eq_false (by omega)]; rfl]
    exact Ev.ifp (by omega) no
  refine Ev.ifn (by omega) (Ev.bindc (group_eq c z s hc hz hs) ?_)
  unfold okB
  rw [decide_eq_true (show 1 ≤ id ∧ id ≤ 1000000000000 ∧ 0 ≤ wt ∧ wt ≤ 1000000000000 ∧ 0 ≤ born ∧ born ≤ 1099511627776 ∧ l.length ≤ 64 by omega)]
  cases grp c z s
  · exact no
  refine Ev.step (fun k => by rw [show (!true) = false from rfl, batch_Right.j0, if_neg (by decide)]) ?_
  by_cases k1 : kind < 1
  · refine Ev.ifp k1 ?_
    rw [decide_eq_false (by omega)]; exact no1
  refine Ev.ifn k1 ?_
  by_cases k2 : kind > 2
  · refine Ev.ifp k2 ?_
    rw [decide_eq_false (by omega)]; exact no1
  refine Ev.ifn k2 ?_
  by_cases k3 : ph < 1
  · refine Ev.ifp k3 ?_
    rw [decide_eq_false (by omega)]; exact no1
  refine Ev.ifn k3 ?_
  by_cases k4 : ph > 3
  · rw [decide_eq_true k4, decide_eq_false (by omega)]; exact no1
  rw [decide_eq_false k4, decide_eq_true (by omega)]
  refine Ev.step (fun k => by rw [batch_Right.j1, if_neg (by decide)]) ?_
  exact right_l l hb hl id wt born kind ph c z s l.length 0 (by omega)
end
end Go.Proofs.YtapfpdjcbeiibaaDoor.Pure
