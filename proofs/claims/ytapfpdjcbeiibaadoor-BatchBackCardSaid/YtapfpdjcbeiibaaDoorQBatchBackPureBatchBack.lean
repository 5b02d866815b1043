
import Derived.Test.YtapfpdjcbeiibaaDoorQBatchBackJoin
import Derived.Test.YtapfpdjcbeiibaaDoorQBatchBackLibGo
set_option linter.unusedVariables false
namespace Go.Proofs.YtapfpdjcbeiibaaDoor.Pure
open Go.RowKit Go.Proofs.YtapfpdjcbeiibaaDoor Go.Proofs.YtapfpdjcbeiibaaDoor.PAll Go.Proofs.YtapfpdjcbeiibaaDoorW.PrintWords Go.Proofs.YtapfpdjcbeiibaaDoorW.PrintLast Go.Proofs.YtapfpdjcbeiibaaDoorW.PrintMore
theorem has_false {l : List ByteArray} {a : ByteArray} : has l a = false ↔ a ∉ l := by
  unfold has
  simp only [List.any_eq_false, decide_eq_true_eq]
  exact ⟨fun h hm => h a hm rfl, fun h x hx e => h (e ▸ hx)⟩
theorem nodup_membs (l : List ByteArray) (h : membs l l.length 0 = true) : l.Nodup := by
  rw [membs_iff l l.length 0 (by omega)] at h
  refine List.pairwise_iff_getElem.2 fun i j hi hj hij e => ?_
  have := has_false.1 (h j hj (by omega)).2
  exact this (e ▸ (List.mem_iff_getElem.2 ⟨i, by rw [List.length_take]; omega, by rw [List.getElem_take]⟩))
theorem filter_none (a : ByteArray) : ∀ t : List ByteArray, a ∉ t → t.filter (fun x => !decide (x = a)) = t := by
  intro t h
  rw [List.filter_eq_self]
  intro x hx
  simp only [Bool.not_eq_true', decide_eq_false_iff_not]
  exact fun e => h (e ▸ hx)
theorem evict_list (a : ByteArray) : ∀ l : List ByteArray, l.Nodup → has l a = true →
    l.take (l.takeWhile fun x => !decide (x = a)).length ++ l.drop ((l.takeWhile fun x => !decide (x = a)).length + 1) = l.filter (fun x => !decide (x = a)) := by
  intro l
  induction l with
  | nil => intro _ h; exact absurd h (by simp [has])
  | cons x t ih =>
    intro hn hh
    by_cases c : x = a
    · subst c
      have hx : x ∉ t := (List.nodup_cons.1 hn).1
      rw [List.filter_cons_of_neg (by simp), filter_none x t hx]
      simp
    · rw [has_cons_ne c] at hh
      rw [tw_cons_ne c, List.filter_cons_of_pos (by simp [c]), ← ih (List.nodup_cons.1 hn).2 hh]
      simp
theorem tw_lt (a : ByteArray) : ∀ l : List ByteArray, has l a = true → (l.takeWhile fun x => !decide (x = a)).length < l.length := by
  intro l
  induction l with
  | nil => intro h; exact absurd h (by simp [has])
  | cons x t ih =>
    intro hh
    by_cases c : x = a
    · simp [c]
    · rw [has_cons_ne c] at hh
      have := ih hh
      rw [tw_cons_ne c, List.length_cons]; omega
def evictV (id wt born kind ph : Int) (c z s : ByteArray) (l : List ByteArray) (x : ByteArray) (w : Int) : Bt :=
  if ph = 1 then (if has l x = true then (id, (if w > wt then 0 else wt - w), born, kind, ph, c, z, s, l.filter (fun y => !decide (y = x)), 0) else (id, wt, born, kind, ph, c, z, s, l, 112)) else (id, wt, born, kind, ph, c, z, s, l, 113)
section
variable (id wt born kind ph : Int) (c z s : ByteArray) (l : List ByteArray) (x : ByteArray) (w : Int) (hl : l.length ≤ 1000000) (hn : l.Nodup) (hwt : 0 ≤ wt ∧ wt ≤ 1000000000000) (hw : 0 ≤ w ∧ w ≤ 1000000000000)
include hl hwt hw hn
theorem evict_eq : Ev (fun k => batch_Evict.f k id wt born kind ph c z s l x w) (evictV id wt born kind ph c z s l x w) := by
  unfold batch_Evict.f evictV
  refine Ev.bind (index_eq l x (by omega)) ?_
  by_cases p1 : ph = 1
  rotate_left
  · refine Ev.ifn p1 ?_; rw [if_neg p1]; exact Ev.now _
  refine Ev.ifp p1 ?_
  rw [if_pos p1]
  by_cases hh : has l x = true
  rotate_left
  · rw [if_neg hh, show at_ l x = -1 from if_neg hh]
    exact Ev.ifp (by omega) (Ev.now _)
  have hlt := tw_lt x l hh
  have he := evict_list x l hn hh
  rw [if_pos hh, show at_ l x = ((l.takeWhile fun y => !decide (y = x)).length : Int) from if_pos hh]
  generalize (l.takeWhile fun y => !decide (y = x)).length = i at *
  have e1 : wrap64 ((i : Int) + 1) = ((i + 1 : Nat) : Int) := w64 (by omega) (by omega)
  refine Ev.ifn (by omega) (Ev.ifp (by omega) (Ev.ifp (by omega) ?_))
  rw [e1]
  refine Ev.ifp (by omega) (Ev.ifp (by omega) (Ev.bindc (a := l.filter (fun y => !decide (y = x))) ?_ ?_))
  · unfold slices_Concat_string_string.f
    rw [Int.toNat_natCast, Int.toNat_natCast, show ([l.take i, l.drop (i + 1)] : List (List ByteArray)).flatten = l.filter (fun y => !decide (y = x)) from by rw [← he]; simp]
    have := List.length_filter_le (fun y => !decide (y = x)) l
    rw [if_pos (by omega)]
  · rw [show mx (wrap64 (wt - w)) 0 = (if w > wt then 0 else wt - w) from by
      rw [w64 (by omega) (by omega)]; unfold mx
      by_cases q : w > wt
      · rw [if_pos q, if_pos (by omega)]
      · rw [if_neg q, if_neg (by omega)]]
    exact Ev.now _
end
theorem dec_cons {x y : ByteArray} {t u : List ByteArray} (h : x = y) : decide (x :: t = y :: u) = decide (t = u) := by subst h; simp
theorem equal_l (l m : List ByteArray) (hl : l.length = m.length) (hb : l.length ≤ 9223372036854775806) (d : Nat) : ∀ i : Nat, i + d = l.length →
    Ev (fun k => slices_Equal_string_string.l0 k l m (l.length : Int) (i : Int)) (decide (l.drop i = m.drop i)) := by
  induction d with
  | zero =>
    intro i h
    rw [List.drop_of_length_le (by omega), List.drop_of_length_le (by omega)]
    refine Ev.step (f := fun _ => some true) (fun k => ?_) (Ev.now _)
    rw [slices_Equal_string_string.l0, if_neg (by omega)]
  | succ d ih =>
    intro i h
    have h1 : i < l.length := by omega
    have h2 : i < m.length := by omega
    refine Ev.step (fun k => by rw [slices_Equal_string_string.l0, if_pos (by omega), if_pos (by omega), if_pos (by omega), if_pos (by omega), rd_str l i h1, rd_str m i h2, w64 (by omega) (by omega)]) ?_
    rw [List.drop_eq_getElem_cons h1, List.drop_eq_getElem_cons h2]
    by_cases c : l[i] = m[i]
    · refine Ev.ifp (toList_iff.2 c) ?_
      rw [show decide (l[i] :: l.drop (i + 1) = m[i] :: m.drop (i + 1)) = decide (l.drop (i + 1) = m.drop (i + 1)) from dec_cons c]
      exact ih (i + 1) (by omega)
    · refine Ev.ifn (fun e => c (toList_inj e)) ?_
      rw [decide_eq_false (by intro e; injection e with e1 _; exact c e1)]
      exact Ev.now _
theorem equal_eq (l m : List ByteArray) (hb : l.length ≤ 9223372036854775806) : Ev (fun k => slices_Equal_string_string.f k l m) (decide (l = m)) := by
  unfold slices_Equal_string_string.f
  by_cases c : l.length = m.length
  · refine Ev.ifp (by omega) ?_
    exact equal_l l m c hb l.length 0 (by omega)
  · refine Ev.ifn (by omega) ?_
    rw [decide_eq_false (fun e => c (by rw [e]))]
    exact Ev.now _
theorem same_B (x0 x1 x2 x3 x4 y0 y1 y2 y3 y4 : Int) (x5 x6 x7 y5 y6 y7 : ByteArray) (l m : List ByteArray) (hb : l.length ≤ 9223372036854775806) :
    Ev (fun k => batch_Same.f k x0 x1 x2 x3 x4 x5 x6 x7 l y0 y1 y2 y3 y4 y5 y6 y7 m) (decide (x0 = y0 ∧ x1 = y1 ∧ x2 = y2 ∧ x3 = y3 ∧ x4 = y4 ∧ x5 = y5 ∧ x6 = y6 ∧ x7 = y7 ∧ l = m)) := by
  have no : ∀ {P : Prop} [Decidable P], ¬ P → Ev (fun _ => some false) (decide P) := fun h => by rw [decide_eq_false h]; exact Ev.now _
  unfold batch_Same.f
  by_cases c0 : x0 = y0
  rotate_left
  · exact Ev.ifn c0 (no fun h => c0 h.1)
  by_cases c1 : x1 = y1
  rotate_left
  · exact Ev.ifp c0 (Ev.ifn c1 (no fun h => c1 h.2.1))
  by_cases c2 : x2 = y2
  rotate_left
  · exact Ev.ifp c0 (Ev.ifp c1 (Ev.ifn c2 (no fun h => c2 h.2.2.1)))
  by_cases c3 : x3 = y3
  rotate_left
  · exact Ev.ifp c0 (Ev.ifp c1 (Ev.ifp c2 (Ev.ifn c3 (no fun h => c3 h.2.2.2.1))))
  by_cases c4 : x4 = y4
  rotate_left
  · exact Ev.ifp c0 (Ev.ifp c1 (Ev.ifp c2 (Ev.ifp c3 (Ev.ifn c4 (no fun h => c4 h.2.2.2.2.1)))))
  refine Ev.ifp c0 (Ev.ifp c1 (Ev.ifp c2 (Ev.ifp c3 (Ev.ifp c4 ?_))))
  rw [eqs, eqs, eqs]
  by_cases c5 : x5 = y5 ∧ x6 = y6 ∧ x7 = y7
  rotate_left
  · refine Ev.ifn (by simpa using c5) (no fun h => c5 ⟨h.2.2.2.2.2.1, h.2.2.2.2.2.2.1, h.2.2.2.2.2.2.2.1⟩)
  · refine Ev.ifp (by simpa using c5) (Ev.bind (equal_eq l m hb) ?_)
    rw [show decide (x0 = y0 ∧ x1 = y1 ∧ x2 = y2 ∧ x3 = y3 ∧ x4 = y4 ∧ x5 = y5 ∧ x6 = y6 ∧ x7 = y7 ∧ l = m) = decide (l = m) from decide_eq_decide.2 ⟨fun h => h.2.2.2.2.2.2.2.2, fun h => ⟨c0, c1, c2, c3, c4, c5.1, c5.2.1, c5.2.2, h⟩⟩]
    exact Ev.now _
theorem caps_eq (x y : Int) : batch_Caps.f x y = some (decide (1 ≤ x ∧ x ≤ 64 ∧ 1 ≤ y ∧ y ≤ 1000000000000)) := by
  unfold batch_Caps.f
  rw [tally_R y]
  by_cases c1 : x ≥ 1
  rotate_left
  · rw [if_neg c1, decide_eq_false (by omega)]
  rw [if_pos c1]
  by_cases c2 : x ≤ 64
  rotate_left
  · rw [if_neg c2, decide_eq_false (by omega)]
  rw [if_pos c2]
  by_cases c3 : y ≥ 1
  rotate_left
  · rw [if_neg c3, decide_eq_false (by omega)]
  rw [if_pos c3]
  show some (decide (0 ≤ y ∧ y ≤ 1000000000000)) = _
  rw [decide_eq_decide.2 (show (0 ≤ y ∧ y ≤ 1000000000000) ↔ (1 ≤ x ∧ x ≤ 64 ∧ 1 ≤ y ∧ y ≤ 1000000000000) by omega)]
theorem evict_go (id wt born kind : Int) (c z s : ByteArray) (L L' : List ByteArray) (x : ByteArray) (w wt' : Int) (hL : L.length ≤ 1000000) (hn : L.Nodup) (hw : 0 ≤ w ∧ w ≤ 1000000000000) (hh : x ∈ L) (hf : L.filter (fun y => !decide (y = x)) = L') (e : wt = wt' + w) (h0 : 0 ≤ wt') (h1 : wt ≤ 1000000000000) :
    Ev (fun k => batch_Evict.f k id wt born kind 1 c z s L x w) (id, wt', born, kind, 1, c, z, s, L', 0) := by
  have k := evict_eq id wt born kind 1 c z s L x w hL hn (by omega) hw
  unfold evictV at k
  have hx : has L x = true := by
    cases q : has L x
    · exact absurd hh (has_false.1 q)
    · rfl
  rw [if_pos rfl, if_pos hx, if_neg (by omega), hf, show wt - w = wt' by omega] at k
  exact k
theorem filter_last (a : ByteArray) (l : List ByteArray) (h : a ∉ l) : (l ++ [a]).filter (fun y => !decide (y = a)) = l := by
  rw [List.filter_append, filter_none a l h, List.filter_cons_of_neg (by simp), List.filter_nil, List.append_nil]
theorem filter_two (a b : ByteArray) (l : List ByteArray) (h : a ∉ l) (hb : b ∉ l ++ [a]) : ((l ++ [a]) ++ [b]).filter (fun y => !decide (y = a)) = l ++ [b] := by
  have ne : b ≠ a := fun e => hb (by simp [e])
  rw [List.filter_append, filter_last a l h, List.filter_cons_of_pos (by simpa using ne), List.filter_nil]
theorem nodup_snoc {l : List ByteArray} {a : ByteArray} (hn : l.Nodup) (h : a ∉ l) : (l ++ [a]).Nodup := by
  rw [List.nodup_append]
  refine ⟨hn, by simp, ?_⟩
  intro x hx y hy e
  rw [List.mem_singleton.1 hy] at e
  exact h (e ▸ hx)
theorem self_B (x0 x1 x2 x3 x4 : Int) (x5 x6 x7 : ByteArray) (l : List ByteArray) (hb : l.length ≤ 9223372036854775806) : Ev (fun k => batch_Same.f k x0 x1 x2 x3 x4 x5 x6 x7 l x0 x1 x2 x3 x4 x5 x6 x7 l) true := by
  have k := same_B x0 x1 x2 x3 x4 x0 x1 x2 x3 x4 x5 x6 x7 x5 x6 x7 l l hb
  rw [decide_eq_true ⟨rfl, rfl, rfl, rfl, rfl, rfl, rfl, rfl, rfl⟩] at k
  exact k
theorem BatchBack : packhorselaw11_BatchBack.PureQ := by
  intro id wt born kind ph c z s l cnt cw k1 a w k2 b v _ _ _ _ _ h5 h6 h7 hl _ _ _ ha _ _ hb _
  refine Ev.rounds (g := fun k => packhorselaw11_BatchBack.f k id wt born kind ph c z s l cnt cw k1 a w k2 b v) ?_
  have fin : Ev (fun k => packhorselaw11_BatchBack.j0 k true id wt born kind ph c z s l cnt cw k1 a w k2 b v) true := Ev.step (f := fun _ => some true) (fun k => by rw [packhorselaw11_BatchBack.j0, if_pos rfl]) (Ev.now _)
  unfold packhorselaw11_BatchBack.f
  refine Ev.bind alive (Ev.ifp rfl (Ev.bind (right_B id wt born kind ph c z s l h5 h6 h7 (by omega) hl.2) ?_))
  by_cases ca : okB id wt born kind ph c z s l = true
  rotate_left
  · exact Ev.ifn ca fin
  refine Ev.ifp ca (Ev.bindc (caps_eq cnt cw) ?_)
  by_cases cc : 1 ≤ cnt ∧ cnt ≤ 64 ∧ 1 ≤ cw ∧ cw ≤ 1000000000000
  rotate_left
  · exact Ev.ifn (by simpa using cc) fin
  refine Ev.ifp (decide_eq_true cc) ?_
  by_cases w0 : w < 0
  · exact Ev.ifp w0 fin
  refine Ev.ifn w0 ?_
  by_cases v0 : v < 0
  · exact Ev.ifp v0 fin
  refine Ev.ifn v0 ?_
  by_cases w1 : w > 1000000
  · exact Ev.ifp w1 fin
  refine Ev.ifn w1 ?_
  by_cases v1 : v > 1000000
  · rw [decide_eq_true v1]; exact fin
  rw [decide_eq_false v1]
  have ok := ca
  simp only [okB, Bool.and_eq_true, decide_eq_true_eq] at ok
  have hn := nodup_membs l ok.2.2.2
  have hlen : l.length ≤ 64 := by omega
  have hwt : 0 ≤ wt ∧ wt ≤ 1000000000000 := by omega
  clear ca ok cc fin h5 h6 h7 hl
  refine Ev.step (fun k => by rw [packhorselaw11_BatchBack.j0, if_neg (by decide)]) ?_
  refine Ev.bind (join_eq id wt born kind ph c z s l cnt cw a w (by omega) (by omega)) ?_
  have out : ∀ e : Int, ¬ (e = 0) → Ev (fun k => if e = 0 then ((batch_Evict.f k id wt born kind ph c z s l a w).bind fun bt250 => (if bt250.2.2.2.2.2.2.2.2.2 = 0 then ((batch_Same.f k bt250.1 bt250.2.1 bt250.2.2.1 bt250.2.2.2.1 bt250.2.2.2.2.1 bt250.2.2.2.2.2.1 bt250.2.2.2.2.2.2.1 bt250.2.2.2.2.2.2.2.1 bt250.2.2.2.2.2.2.2.2.1 id wt born kind ph c z s l).bind fun t263 => (packhorselaw11_BatchBack.j1 k (!t263) id wt born kind ph c z s l cnt cw k1 a w k2 b v id wt born kind ph c z s l)) else (packhorselaw11_BatchBack.j1 k true id wt born kind ph c z s l cnt cw k1 a w k2 b v id wt born kind ph c z s l))) else ((batch_Same.f k id wt born kind ph c z s l id wt born kind ph c z s l).bind fun t249 => (some t249))) true :=
    fun e he => Ev.ifn he (Ev.bind (self_B id wt born kind ph c z s l (by omega)) (Ev.now _))
  unfold joinV
  by_cases p1 : ph = 1
  rotate_left
  · rw [if_neg p1]; exact out 113 (by decide)
  rw [if_pos p1]
  by_cases p2 : lab a = true ∧ has l a = false
  rotate_left
  · rw [if_neg p2]; exact out 112 (by decide)
  rw [if_pos p2]
  by_cases p3 : room wt w l cnt cw
  rotate_left
  · rw [if_neg p3]; exact out 111 (by decide)
  rw [if_pos p3]
  clear out
  subst p1
  have na : a ∉ l := has_false.1 p2.2
  have nla := nodup_snoc hn na
  have hla : (l ++ [a]).length = l.length + 1 := by simp
  have hw3 : wt + w ≤ 1000000000000 := by unfold room at p3; omega
  refine Ev.ifp rfl (Ev.bind (evict_go id (wt + w) born kind c z s (l ++ [a]) l a w wt (by omega) nla (by omega) (by simp) (filter_last a l na) rfl hwt.1 hw3) (Ev.ifp rfl (Ev.bind (self_B id wt born kind 1 c z s l (by omega)) ?_)))
  refine Ev.step (fun k => by rw [packhorselaw11_BatchBack.j1, if_neg (by decide)]) ?_
  refine Ev.bind (join_eq id (wt + w) born kind 1 c z s (l ++ [a]) cnt cw b v (by omega) (by omega)) ?_
  unfold joinV
  rw [if_pos rfl]
  by_cases q2 : lab b = true ∧ has (l ++ [a]) b = false
  rotate_left
  · rw [if_neg q2]
    exact Ev.ifn (show ¬ ((112 : Int) = 0) from by decide) (Ev.bind (self_B id (wt + w) born kind 1 c z s (l ++ [a]) (by omega)) (Ev.now _))
  rw [if_pos q2]
  by_cases q3 : room (wt + w) v (l ++ [a]) cnt cw
  rotate_left
  · rw [if_neg q3]
    exact Ev.ifn (show ¬ ((111 : Int) = 0) from by decide) (Ev.bind (self_B id (wt + w) born kind 1 c z s (l ++ [a]) (by omega)) (Ev.now _))
  rw [if_pos q3]
  have nb : b ∉ l ++ [a] := has_false.1 q2.2
  have nb' : b ∉ l := fun h => nb (List.mem_append_left _ h)
  have nlab := nodup_snoc nla nb
  have hlab : ((l ++ [a]) ++ [b]).length = l.length + 2 := by simp
  have hlb : (l ++ [b]).length = l.length + 1 := by simp
  have hw4 : wt + w + v ≤ 1000000000000 := by unfold room at q3; omega
  refine Ev.ifp rfl ?_
  refine Ev.bind (evict_go id (wt + w + v) born kind c z s ((l ++ [a]) ++ [b]) (l ++ [b]) a w (wt + v) (by omega) nlab (by omega) (by simp) (filter_two a b l na nb) (by omega) (by omega) hw4) ?_
  refine Ev.bind (evict_go id (wt + w + v) born kind c z s ((l ++ [a]) ++ [b]) (l ++ [a]) b v (wt + w) (by omega) nlab (by omega) (by simp) (filter_last b (l ++ [a]) nb) rfl (by omega) hw4) ?_
  refine Ev.bind (evict_go id (wt + v) born kind c z s (l ++ [b]) l b v wt (by omega) (nodup_snoc hn nb') (by omega) (by simp) (filter_last b l nb') rfl (by omega) (by omega)) ?_
  refine Ev.bind (evict_go id (wt + w) born kind c z s (l ++ [a]) l a w wt (by omega) nla (by omega) (by simp) (filter_last a l na) rfl (by omega) (by omega)) ?_
  exact Ev.bind (self_B id wt born kind 1 c z s l (by omega)) (Ev.ifp rfl (Ev.bind (self_B id wt born kind 1 c z s l (by omega)) (Ev.now _)))
end Go.Proofs.YtapfpdjcbeiibaaDoor.Pure
