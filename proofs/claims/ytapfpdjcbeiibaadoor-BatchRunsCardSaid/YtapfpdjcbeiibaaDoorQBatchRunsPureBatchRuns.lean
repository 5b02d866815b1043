
import Derived.Test.YtapfpdjcbeiibaaDoorQBatchRunsJoin
import Derived.Test.YtapfpdjcbeiibaaDoorQBatchRunsLib0
set_option linter.unusedVariables false
namespace Go.Proofs.YtapfpdjcbeiibaaDoor.Pure
open Go.RowKit Go.Proofs.YtapfpdjcbeiibaaDoor Go.Proofs.YtapfpdjcbeiibaaDoor.PAll Go.Proofs.YtapfpdjcbeiibaaDoorW.PrintWords Go.Proofs.YtapfpdjcbeiibaaDoorW.PrintLast Go.Proofs.YtapfpdjcbeiibaaDoorW.PrintMore
theorem has_l (l : List ByteArray) (a : ByteArray) (hb : l.length ≤ 9223372036854775806) (d : Nat) : ∀ i : Nat, i + d = l.length → Ev (fun k => packhorseref11_Has.l0 k a l (l.length : Int) (i : Int)) (has (l.drop i) a) := by
  induction d with
  | zero =>
    intro i h
    rw [List.drop_of_length_le (by omega)]
    refine Ev.step (f := fun _ => some false) (fun k => ?_) (Ev.now _)
    rw [packhorseref11_Has.l0, if_neg (by omega)]
  | succ d ih =>
    intro i h
    have h1 : i < l.length := by omega
    refine Ev.step (fun k => by rw [packhorseref11_Has.l0, if_pos (by omega), if_pos (by omega), if_pos (by omega), rd_str l i h1, w64 (by omega) (by omega)]) ?_
    rw [List.drop_eq_getElem_cons h1]
    by_cases c : l[i] = a
    · refine Ev.ifp (toList_iff.2 c) ?_
      rw [show has (l[i] :: l.drop (i + 1)) a = true from by simp [has, c]]
      exact Ev.now _
    · refine Ev.ifn (fun e => c (toList_inj e)) ?_
      rw [has_cons_ne c]
      exact ih (i + 1) (by omega)
theorem has_eq (y0 y1 y2 y3 y4 : Int) (y5 y6 y7 : ByteArray) (l : List ByteArray) (a : ByteArray) (hb : l.length ≤ 9223372036854775806) : Ev (fun k => packhorseref11_Has.f k y0 y1 y2 y3 y4 y5 y6 y7 l a) (has l a) := by
  have := has_l l a hb l.length 0 (by omega)
  rw [List.drop_zero] at this
  exact this
theorem has_false {l : List ByteArray} {a : ByteArray} : has l a = false ↔ a ∉ l := by
  unfold has
  simp only [List.any_eq_false, decide_eq_true_eq]
  exact ⟨fun h hm => h a hm rfl, fun h x hx e => h (e ▸ hx)⟩
theorem nodup_membs (l : List ByteArray) (h : membs l l.length 0 = true) : l.Nodup := by
  rw [membs_iff l l.length 0 (by omega)] at h
  refine List.pairwise_iff_getElem.2 fun i j hi hj hij e => ?_
  have := has_false.1 (h j hj (by omega)).2
  exact this (e ▸ (List.mem_iff_getElem.2 ⟨i, by rw [List.length_take]; omega, by rw [List.getElem_take]⟩))
theorem filter_none (a : ByteArray) : ∀ t : List ByteArray, a ∉ t → t.filter (fun x => !decide (x = a)) = t := by
  intro t h
  rw [List.filter_eq_self]
  intro x hx
  simp only [Bool.not_eq_true', decide_eq_false_iff_not]
  exact fun e => h (e ▸ hx)
theorem evict_list (a : ByteArray) : ∀ l : List ByteArray, l.Nodup → has l a = true →
    l.take (l.takeWhile fun x => !decide (x = a)).length ++ l.drop ((l.takeWhile fun x => !decide (x = a)).length + 1) = l.filter (fun x => !decide (x = a)) := by
  intro l
  induction l with
  | nil => intro _ h; exact absurd h (by simp [has])
  | cons x t ih =>
    intro hn hh
    by_cases c : x = a
    · subst c
      have hx : x ∉ t := (List.nodup_cons.1 hn).1
      rw [List.filter_cons_of_neg (by simp), filter_none x t hx]
      simp
    · rw [has_cons_ne c] at hh
      rw [tw_cons_ne c, List.filter_cons_of_pos (by simp [c]), ← ih (List.nodup_cons.1 hn).2 hh]
      simp
theorem tw_lt (a : ByteArray) : ∀ l : List ByteArray, has l a = true → (l.takeWhile fun x => !decide (x = a)).length < l.length := by
  intro l
  induction l with
  | nil => intro h; exact absurd h (by simp [has])
  | cons x t ih =>
    intro hh
    by_cases c : x = a
    · simp [c]
    · rw [has_cons_ne c] at hh
      have := ih hh
      rw [tw_cons_ne c, List.length_cons]; omega
def evictV (id wt born kind ph : Int) (c z s : ByteArray) (l : List ByteArray) (x : ByteArray) (w : Int) : Bt :=
  if ph = 1 then (if has l x = true then (id, (if w > wt then 0 else wt - w), born, kind, ph, c, z, s, l.filter (fun y => !decide (y = x)), 0) else (id, wt, born, kind, ph, c, z, s, l, 112)) else (id, wt, born, kind, ph, c, z, s, l, 113)
section
variable (id wt born kind ph : Int) (c z s : ByteArray) (l : List ByteArray) (x : ByteArray) (w : Int) (hl : l.length ≤ 1000000) (hn : l.Nodup) (hwt : 0 ≤ wt ∧ wt ≤ 1000000000000) (hw : 0 ≤ w ∧ w ≤ 1000000000000)
include hl hwt hw
theorem evict_l (d : Nat) : ∀ (i : Nat) (o : List ByteArray), i + d = l.length → o.length ≤ i → Ev (fun k => packhorseref11_Evict.l0 k x w o l (l.length : Int) (i : Int) id wt born kind ph c z s l)
    (id, (if w > wt then 0 else wt - w), born, kind, ph, c, z, s, o ++ (l.drop i).filter (fun y => !decide (y = x)), 0) := by
  induction d with
  | zero =>
    intro i o h ho
    rw [List.drop_of_length_le (by omega)]
    refine Ev.step (fun k => by rw [packhorseref11_Evict.l0, if_neg (by omega)]) ?_
    rw [show o ++ ([] : List ByteArray).filter (fun y => !decide (y = x)) = o from by simp]
    by_cases q : w > wt
    · refine Ev.ifp q ?_; rw [if_pos q]; exact Ev.now _
    · refine Ev.ifn q ?_
      rw [if_neg q, w64 (x := wt - w) (by omega) (by omega)]
      exact Ev.now _
  | succ d ih =>
    intro i o h ho
    have h1 : i < l.length := by omega
    refine Ev.step (fun k => by rw [packhorseref11_Evict.l0, if_pos (by omega), if_pos (by omega), if_pos (by omega), rd_str l i h1, w64 (x := (i : Int) + 1) (by omega) (by omega)]) ?_
    rw [List.drop_eq_getElem_cons h1]
    by_cases q : l[i] = x
    · rw [List.filter_cons_of_neg (by simp [q])]
      exact Ev.ifp (toList_iff.2 q) (ih (i + 1) o (by omega) (by omega))
    · rw [List.filter_cons_of_pos (by simp [q])]
      refine Ev.ifn (fun e => q (toList_inj e)) (Ev.ifp (by omega) ?_)
      have k := ih (i + 1) (o ++ [l[i]]) (by omega) (by simp; omega)
      rw [List.append_assoc] at k
      exact k
theorem evict_ref : Ev (fun k => packhorseref11_Evict.f k id wt born kind ph c z s l x w) (evictV id wt born kind ph c z s l x w) := by
  unfold packhorseref11_Evict.f evictV
  by_cases p1 : ph = 1
  rotate_left
  · refine Ev.ifn p1 ?_; rw [if_neg p1]; exact Ev.now _
  refine Ev.ifp p1 ?_
  rw [if_pos p1]
  refine (Ev.bind (has_eq id wt born kind ph c z s l x (by omega)) ?_)
  by_cases hh : has l x = true
  rotate_left
  · refine Ev.ifn hh ?_; rw [if_neg hh]; exact Ev.now _
  refine Ev.ifp hh ?_
  rw [if_pos hh]
  have k := evict_l id wt born kind ph c z s l x w hl hwt hw l.length 0 [] (by omega) (by simp)
  rw [List.drop_zero, List.nil_append] at k
  exact k
include hn
theorem evict_eq : Ev (fun k => batch_Evict.f k id wt born kind ph c z s l x w) (evictV id wt born kind ph c z s l x w) := by
  unfold batch_Evict.f evictV
  refine Ev.bind (index_eq l x (by omega)) ?_
  by_cases p1 : ph = 1
  rotate_left
  · refine Ev.ifn p1 ?_; rw [if_neg p1]; exact Ev.now _
  refine Ev.ifp p1 ?_
  rw [if_pos p1]
  by_cases hh : has l x = true
  rotate_left
  · rw [if_neg hh, show at_ l x = -1 from if_neg hh]
    exact Ev.ifp (by omega) (Ev.now _)
  have hlt := tw_lt x l hh
  have he := evict_list x l hn hh
  rw [if_pos hh, show at_ l x = ((l.takeWhile fun y => !decide (y = x)).length : Int) from if_pos hh]
  generalize (l.takeWhile fun y => !decide (y = x)).length = i at *
  have e1 : wrap64 ((i : Int) + 1) = ((i + 1 : Nat) : Int) := w64 (by omega) (by omega)
  refine Ev.ifn (by omega) (Ev.ifp (by omega) (Ev.ifp (by omega) ?_))
  rw [e1]
  refine Ev.ifp (by omega) (Ev.ifp (by omega) (Ev.bindc (a := l.filter (fun y => !decide (y = x))) ?_ ?_))
  · unfold slices_Concat_string_string.f
    rw [Int.toNat_natCast, Int.toNat_natCast, show ([l.take i, l.drop (i + 1)] : List (List ByteArray)).flatten = l.filter (fun y => !decide (y = x)) from by rw [← he]; simp]
    have := List.length_filter_le (fun y => !decide (y = x)) l
    rw [if_pos (by omega)]
  · rw [show mx (wrap64 (wt - w)) 0 = (if w > wt then 0 else wt - w) from by
      rw [w64 (by omega) (by omega)]; unfold mx
      by_cases q : w > wt
      · rw [if_pos q, if_pos (by omega)]
      · rw [if_neg q, if_neg (by omega)]]
    exact Ev.now _
end
section
variable (id wt born kind ph : Int) (c z s : ByteArray) (l : List ByteArray) (cnt cw : Int) (x : ByteArray) (w : Int) (hx : x.size ≤ 140737488351232) (hl : l.length ≤ 1000000) (hwt : 0 ≤ wt ∧ wt ≤ 1000000000000) (hw : 0 ≤ w ∧ w ≤ 1000000000000)
include hx hl hwt hw
theorem join_ref : Ev (fun k => packhorseref11_Join.f k id wt born kind ph c z s l cnt cw x w) (joinV id wt born kind ph c z s l cnt cw x w) := by
  unfold packhorseref11_Join.f joinV
  by_cases p1 : ph = 1
  rotate_left
  · refine Ev.ifn p1 ?_; rw [if_neg p1]; exact Ev.now _
  refine Ev.ifp p1 ?_
  rw [if_pos p1]
  refine (Ev.bind (right_ref x hx) ?_)
  have no : Ev (fun k => packhorseref11_Join.j0 k x w true id wt born kind ph c z s l cnt cw) (id, wt, born, kind, ph, c, z, s, l, 112) := Ev.step (f := fun _ => some (id, wt, born, kind, ph, c, z, s, l, 112)) (fun k => by rw [packhorseref11_Join.j0, if_pos rfl]) (Ev.now _)
  cases hlx : lab x
  · rw [if_neg (show ¬(false = true ∧ has l x = false) from by rintro ⟨h, _⟩; cases h)]
    exact Ev.ifn (by decide) no
  refine Ev.ifp rfl (Ev.bind (has_eq id wt born kind ph c z s l x (by omega)) ?_)
  cases hh : has l x
  rotate_left
  · rw [if_neg (show ¬(true = true ∧ true = false) from by rintro ⟨_, h⟩; cases h)]
    exact no
  rw [if_pos (show true = true ∧ false = false from ⟨rfl, rfl⟩)]
  refine Ev.step (fun k => by rw [packhorseref11_Join.j0, if_neg (by decide), w64 (by omega) (by omega)]) ?_
  by_cases a1 : wt + w > 1000000000000
  · rw [if_neg (show ¬ room wt w l cnt cw from by unfold room; omega)]
    exact Ev.ifp a1 (Ev.now _)
  refine Ev.ifn a1 ?_
  have grow : room wt w l cnt cw → Ev (fun _ : Nat => (some (([] : List ByteArray) : List ByteArray)).bind fun y239 => (if y239.length + l.length < 8796093022208 then ((some (y239 ++ l : List ByteArray)).bind fun y242 => (if y242.length < 8796093022208 then (some (id, (wt + w, (0 : Int)).1, born, kind, ph, c, z, s, (y242 ++ [x]), (0 : Int))) else (none))) else (none))) (if room wt w l cnt cw then (id, wt + w, born, kind, ph, c, z, s, l ++ [x], 0) else (id, wt, born, kind, ph, c, z, s, l, 111)) := by
    intro r
    rw [if_pos r]
    refine Ev.bindc rfl (Ev.ifp (by simp; omega) (Ev.bindc rfl ?_))
    rw [List.nil_append]
    exact Ev.ifp (by omega) (Ev.now _)
  by_cases e0 : l.length = 0
  · exact Ev.ifn (by omega) (grow (by unfold room; omega))
  refine Ev.ifp (by omega) ?_
  by_cases e1 : (l.length : Int) ≥ cnt
  · rw [if_neg (show ¬ room wt w l cnt cw from by unfold room; omega)]
    by_cases e3 : (l.length : Int) = cnt
    · exact Ev.ifp e3 (Ev.now _)
    · exact Ev.ifn e3 (Ev.ifp (by omega) (Ev.now _))
  refine Ev.ifn (by omega) (Ev.ifn (by omega) ?_)
  by_cases e2 : wt + w > cw
  · rw [if_neg (show ¬ room wt w l cnt cw from by unfold room; omega)]
    exact Ev.ifp e2 (Ev.now _)
  exact Ev.ifn e2 (grow (by unfold room; omega))
end
theorem same_ref (x0 x1 x2 x3 x4 : Int) (x5 x6 x7 : ByteArray) (l : List ByteArray) (hb : l.length ≤ 9223372036854775806) : Ev (fun k => packhorseref11_Same.f k x0 x1 x2 x3 x4 x5 x6 x7 l x0 x1 x2 x3 x4 x5 x6 x7 l) true := by
  unfold packhorseref11_Same.f
  refine Ev.ifp rfl (Ev.ifp rfl (Ev.ifp rfl (Ev.ifp rfl (Ev.ifp rfl (Ev.ifp ?_ (Ev.bind (same_eq l l hb) ?_))))))
  · rw [eqs, eqs, eqs]; simp
  · rw [decide_eq_true rfl]; exact Ev.now _
section
variable (cnt cw : Int) (acts : List S34) (ha : acts.length ≤ 100)
include ha
theorem kept_l (id wt born kind ph : Int) (c z s : ByteArray) (l : List ByteArray) (id' wt' born' kind' ph' : Int) (c' z' s' : ByteArray) (l' : List ByteArray) (hl' : l'.length ≤ 1000000) (i : Nat) (hi : i < acts.length)
    (next : Ev (fun k => packhorselaw11_BatchRuns.l0 k acts (acts.length : Int) ((i + 1 : Nat) : Int) id wt born kind ph c z s l cnt cw id wt born kind ph c z s l) true) (d : Nat) : ∀ j : Nat, j + d = l'.length →
    Ev (fun k => packhorselaw11_BatchRuns.l1 k l' acts (acts.length : Int) (i : Int) (l'.length : Int) (j : Int) id wt born kind ph c z s l cnt cw id wt born kind ph c z s l id' wt' born' kind' ph' c' z' s' l') true := by
  induction d with
  | zero =>
    intro j h
    refine Ev.step (fun k => by rw [packhorselaw11_BatchRuns.l1, if_neg (by omega), w64 (by omega) (by omega)]) ?_
    exact next
  | succ d ih =>
    intro j h
    refine Ev.step (fun k => by rw [packhorselaw11_BatchRuns.l1, if_pos (by omega), if_pos (by omega), if_pos (by omega), if_pos (by omega), if_pos rfl, w64 (by omega) (by omega)]) ?_
    exact ih (j + 1) (by omega)
theorem told_j3 (e id wt born kind ph : Int) (c z s : ByteArray) (l : List ByteArray) (id' wt' born' kind' ph' : Int) (c' z' s' : ByteArray) (l' : List ByteArray) (hl : l.length ≤ 1000000) (hl' : l'.length ≤ 1000000) (i : Nat) (hi : i < acts.length)
    (next : Ev (fun k => packhorselaw11_BatchRuns.l0 k acts (acts.length : Int) ((i + 1 : Nat) : Int) id wt born kind ph c z s l cnt cw id wt born kind ph c z s l) true) :
    Ev (fun k => packhorselaw11_BatchRuns.j3 k l' e e acts (acts.length : Int) (i : Int) id wt born kind ph c z s l cnt cw id wt born kind ph c z s l id' wt' born' kind' ph' c' z' s' l') true := by
  have j4 : ∀ q : Bool, q = false → Ev (fun k => packhorselaw11_BatchRuns.j4 k l' acts (acts.length : Int) (i : Int) q id wt born kind ph c z s l cnt cw id wt born kind ph c z s l id' wt' born' kind' ph' c' z' s' l') true := by
    intro q hq
    subst hq
    refine Ev.step (fun k => by rw [packhorselaw11_BatchRuns.j4, if_neg (by decide)]) ?_
    exact kept_l cnt cw acts ha id wt born kind ph c z s l id' wt' born' kind' ph' c' z' s' l' hl' i hi next l'.length 0 (by omega)
  refine Ev.step (fun k => by rw [packhorselaw11_BatchRuns.j3, if_pos rfl]) ?_
  refine Ev.bind (same_ref id wt born kind ph c z s l (by omega)) (Ev.ifp rfl (Ev.ifp rfl ?_))
  by_cases f1 : (l.length : Int) ≥ cnt
  · refine Ev.bindc (a := true) (by unfold batch_Full.f; rw [if_pos f1]) (Ev.ifp f1 (j4 _ (by decide)))
  · refine Ev.bindc (a := decide (wt ≥ cw)) (by unfold batch_Full.f; rw [if_neg f1]) (Ev.ifn f1 (j4 _ (by simp)))
theorem runs_l (d : Nat) : ∀ (i : Nat) (id wt born kind ph : Int) (c z s : ByteArray) (l : List ByteArray), i + d = acts.length → (0 ≤ wt ∧ wt ≤ 1000000000000) → l.length ≤ 64 + i → l.Nodup →
    Ev (fun k => packhorselaw11_BatchRuns.l0 k acts (acts.length : Int) (i : Int) id wt born kind ph c z s l cnt cw id wt born kind ph c z s l) true := by
  induction d with
  | zero =>
    intro i id wt born kind ph c z s l h _ _ _
    refine Ev.step (f := fun _ => some true) (fun k => by rw [packhorselaw11_BatchRuns.l0, if_neg (by omega)]) (Ev.now _)
  | succ d ih =>
    intro i id wt born kind ph c z s l h hwt hl hn
    have hi : i < acts.length := by omega
    have hrd : rd_T34 acts (i : Int) = acts[i] := by
      unfold rd_T34
      simp [List.getD_eq_getElem?_getD, List.getElem?_eq_getElem hi]
    refine Ev.step (fun k => by rw [packhorselaw11_BatchRuns.l0, if_pos (by omega), if_pos (by omega), if_pos (by omega), hrd]) ?_
    generalize acts[i] = a
    have fin : Ev (fun k => packhorselaw11_BatchRuns.j2 k acts (acts.length : Int) (i : Int) true id wt born kind ph c z s l cnt cw id wt born kind ph c z s l a.f0 a.f1 a.f2) true := Ev.step (f := fun _ => some true) (fun k => by rw [packhorselaw11_BatchRuns.j2, if_pos rfl]) (Ev.now _)
    refine Ev.bindc (ref02_R a.f2) ?_
    by_cases b1 : 0 ≤ a.f2 ∧ a.f2 ≤ 1000000000000
    rotate_left
    · exact Ev.ifn (by simpa using b1) fin
    refine Ev.ifp (decide_eq_true b1) ?_
    by_cases b3 : (a.f1.size : Int) > 60
    · rw [decide_eq_true b3]; exact fin
    rw [decide_eq_false b3]
    refine Ev.step (fun k => by rw [packhorselaw11_BatchRuns.j2, if_neg (by decide)]) ?_
    refine Ev.bindc rfl (Ev.ifp (by simp; omega) (Ev.bindc rfl ?_))
    rw [List.nil_append]
    by_cases k0 : a.f0 = 0
    · refine Ev.ifp k0 (Ev.bind (join_eq id wt born kind ph c z s l cnt cw a.f1 a.f2 (by omega) (by omega)) (Ev.bind (join_ref id wt born kind ph c z s l cnt cw a.f1 a.f2 (by omega) (by omega) hwt b1) ?_))
      unfold joinV
      by_cases p1 : ph = 1
      rotate_left
      · rw [if_neg p1]
        exact told_j3 cnt cw acts ha 113 id wt born kind ph c z s l id wt born kind ph c z s l (by omega) (by omega) i hi (ih (i + 1) id wt born kind ph c z s l (by omega) hwt (by omega) hn)
      rw [if_pos p1]
      by_cases p2 : lab a.f1 = true ∧ has l a.f1 = false
      rotate_left
      · rw [if_neg p2]
        exact told_j3 cnt cw acts ha 112 id wt born kind ph c z s l id wt born kind ph c z s l (by omega) (by omega) i hi (ih (i + 1) id wt born kind ph c z s l (by omega) hwt (by omega) hn)
      rw [if_pos p2]
      by_cases p3 : room wt a.f2 l cnt cw
      rotate_left
      · rw [if_neg p3]
        exact told_j3 cnt cw acts ha 111 id wt born kind ph c z s l id wt born kind ph c z s l (by omega) (by omega) i hi (ih (i + 1) id wt born kind ph c z s l (by omega) hwt (by omega) hn)
      rw [if_pos p3]
      have hL : (l ++ [a.f1]).length = l.length + 1 := by simp
      have hN : (l ++ [a.f1]).Nodup := by
        rw [List.nodup_append]
        refine ⟨hn, by simp, ?_⟩
        intro x hx y hy e
        rw [List.mem_singleton.1 hy] at e
        exact has_false.1 p2.2 (e ▸ hx)
      exact told_j3 cnt cw acts ha 0 id (wt + a.f2) born kind ph c z s (l ++ [a.f1]) id wt born kind ph c z s l (by omega) (by omega) i hi (ih (i + 1) id (wt + a.f2) born kind ph c z s (l ++ [a.f1]) (by omega) (by unfold room at p3; omega) (by omega) hN)
    · refine Ev.ifn k0 (Ev.bind (evict_eq id wt born kind ph c z s l a.f1 a.f2 (by omega) hn hwt b1) (Ev.bind (evict_ref id wt born kind ph c z s l a.f1 a.f2 (by omega) hwt b1) ?_))
      unfold evictV
      by_cases p1 : ph = 1
      rotate_left
      · rw [if_neg p1]
        exact told_j3 cnt cw acts ha 113 id wt born kind ph c z s l id wt born kind ph c z s l (by omega) (by omega) i hi (ih (i + 1) id wt born kind ph c z s l (by omega) hwt (by omega) hn)
      rw [if_pos p1]
      by_cases p2 : has l a.f1 = true
      rotate_left
      · rw [if_neg p2]
        exact told_j3 cnt cw acts ha 112 id wt born kind ph c z s l id wt born kind ph c z s l (by omega) (by omega) i hi (ih (i + 1) id wt born kind ph c z s l (by omega) hwt (by omega) hn)
      rw [if_pos p2]
      have hL := List.length_filter_le (fun y => !decide (y = a.f1)) l
      have hW : 0 ≤ (if a.f2 > wt then 0 else wt - a.f2) ∧ (if a.f2 > wt then 0 else wt - a.f2) ≤ 1000000000000 := by
        by_cases q : a.f2 > wt
        · rw [if_pos q]; omega
        · rw [if_neg q]; omega
      exact told_j3 cnt cw acts ha 0 id _ born kind ph c z s (l.filter (fun y => !decide (y = a.f1))) id wt born kind ph c z s l (by omega) (by omega) i hi (ih (i + 1) id _ born kind ph c z s (l.filter (fun y => !decide (y = a.f1))) (by omega) hW (by omega) (hn.filter _))
end
theorem BatchRuns : packhorselaw11_BatchRuns.PureQ := by
  intro x0 x1 x2 x3 x4 x5 x6 x7 l cnt cw acts _ _ _ _ _ h5 h6 h7 hl _ _ _
  refine Ev.rounds (g := fun k => packhorselaw11_BatchRuns.f k x0 x1 x2 x3 x4 x5 x6 x7 l cnt cw acts) ?_
  have fin : Ev (fun k => packhorselaw11_BatchRuns.j0 k acts true x0 x1 x2 x3 x4 x5 x6 x7 l cnt cw) true := Ev.step (f := fun _ => some true) (fun k => by rw [packhorselaw11_BatchRuns.j0, if_pos rfl]) (Ev.now _)
  unfold packhorselaw11_BatchRuns.f
  refine Ev.bind alive (Ev.ifp rfl (Ev.bind (right_R x0 x1 x2 x3 x4 x5 x6 x7 l h5 h6 h7 (by omega) hl.2) ?_))
  by_cases ca : okB x0 x1 x2 x3 x4 x5 x6 x7 l = true
  rotate_left
  · exact Ev.ifn ca fin
  refine Ev.ifp ca ?_
  have caps : ∃ q, packhorseref11_Caps.f cnt cw = some q := by
    unfold packhorseref11_Caps.f
    repeat' split
    all_goals exact ⟨_, rfl⟩
  obtain ⟨q, hq⟩ := caps
  refine Ev.bindc hq ?_
  cases q
  · exact Ev.ifn (by decide) fin
  refine Ev.ifp rfl ?_
  by_cases cn : (acts.length : Int) > 100
  · rw [decide_eq_true cn]; exact fin
  rw [decide_eq_false cn]
  refine Ev.step (fun k => by rw [packhorselaw11_BatchRuns.j0, if_neg (by decide)]) ?_
  have ok := ca
  simp only [okB, Bool.and_eq_true, decide_eq_true_eq] at ok
  exact runs_l cnt cw acts (by omega) acts.length 0 x0 x1 x2 x3 x4 x5 x6 x7 l (by omega) (by omega) (by omega) (nodup_membs l ok.2.2.2)
end Go.Proofs.YtapfpdjcbeiibaaDoor.Pure
