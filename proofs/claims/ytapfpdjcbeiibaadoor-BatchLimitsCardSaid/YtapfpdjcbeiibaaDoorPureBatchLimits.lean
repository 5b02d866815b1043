/- Layer 11 (batch), BatchLimits: whoever joins, from an empty batch on: never more orders than the caps say, nor heavier, but for one alone; each is in once; a part is as it is told. The one condition is 'laid' (the two tables of unicode/utf8, tied). -/
import Derived.Test.YtapfpdjcbeiibaaDoorJoin
namespace Go.Proofs.YtapfpdjcbeiibaaDoor.Pure
open Go.RowKit Go.Proofs.YtapfpdjcbeiibaaDoor Go.Proofs.YtapfpdjcbeiibaaDoor.PAll Go.Proofs.YtapfpdjcbeiibaaDoorW.PrintWords Go.Proofs.YtapfpdjcbeiibaaDoorW.PrintLast Go.Proofs.YtapfpdjcbeiibaaDoorW.PrintMore

theorem caps_eq (x y : Int) : batch_Caps.f x y = some (decide (1 ≤ x ∧ x ≤ 64 ∧ 1 ≤ y ∧ y ≤ 1000000000000)) := by
  unfold batch_Caps.f
  rw [tally_R y]
  by_cases c1 : x ≥ 1
  rotate_left
  · rw [if_neg c1, decide_eq_false (by omega)]
  rw [if_pos c1]
  by_cases c2 : x ≤ 64
  rotate_left
  · rw [if_neg c2, decide_eq_false (by omega)]
  rw [if_pos c2]
  by_cases c3 : y ≥ 1
  rotate_left
  · rw [if_neg c3, decide_eq_false (by omega)]
  rw [if_pos c3]
  show some (decide (0 ≤ y ∧ y ≤ 1000000000000)) = _
  rw [decide_eq_decide.2 (show (0 ≤ y ∧ y ≤ 1000000000000) ↔ (1 ≤ x ∧ x ≤ 64 ∧ 1 ≤ y ∧ y ≤ 1000000000000) by omega)]

/-- The group of the empty batch. -/
abbrev gc : ByteArray := ⟨#[99]⟩
abbrev gz : ByteArray := ⟨#[122]⟩
abbrev gs : ByteArray := ⟨#[115]⟩
theorem grp_ok : grp gc gz gs = true := by decide +kernel
theorem okB_ok (wt : Int) (l : List ByteArray) (h0 : 0 ≤ wt) (h1 : wt ≤ 1000000000000) (h2 : l.length ≤ 64) (h3 : membs l l.length 0 = true) : okB 1 wt 0 1 1 gc gz gs l = true := by
  unfold okB
  rw [decide_eq_true (by omega), grp_ok, decide_eq_true (by omega), h3]; rfl

section
variable (x2 cnt cw : Int) (acts : List S34) (ha : acts.length ≤ 100) (hok : ∀ x ∈ acts, ok34 x) (hc : 1 ≤ cnt ∧ cnt ≤ 64 ∧ 1 ≤ cw ∧ cw ≤ 1000000000000)
include ha hok hc
theorem limits_l (d : Nat) : ∀ (i : Nat) (sum : Int) (l : List ByteArray), i + d = acts.length → 0 ≤ sum → sum ≤ 1000000000000 → (l.length : Int) ≤ cnt → ((l.length : Int) > 1 → sum ≤ cw) → membs l l.length 0 = true → (∀ x ∈ l, x.size ≤ 60) →
    Ev (fun k => packhorselaw11_BatchLimits.l0 k x2 sum acts (acts.length : Int) (i : Int) cnt cw 1 sum 0 1 1 gc gz gs l) true := by
  induction d with
  | zero =>
    intro i sum l h _ _ hl _ _ _
    refine Ev.step (fun k => by rw [packhorselaw11_BatchLimits.l0, if_neg (by omega)]) ?_
    have hw : wrap64 ((l.length : Int) / 2) = ((l.length / 2 : Nat) : Int) := by rw [w64 (by omega) (by omega)]; omega
    rw [hw]
    refine Ev.ifp (by omega) (Ev.ifp (by omega) (Ev.bindc rfl ?_))
    rw [Int.toNat_natCast]
    have hp : batch_Part.f 1 sum 0 1 1 gc gz gs l x2 (l.take (l.length / 2)) sum = some (x2, sum, 0, 1, 2, gc, gz, gs, l.take (l.length / 2)) := by
      unfold batch_Part.f slices_Clone_string_string.f
      rw [if_pos (by rw [List.length_take]; omega)]; rfl
    refine Ev.bindc hp (Ev.ifp rfl (Ev.ifp rfl (Ev.ifp rfl (Ev.ifp (show (gc.toList == gc.toList && (gz.toList == gz.toList && (gs.toList == gs.toList))) = true from by decide +kernel) (Ev.ifp rfl (Ev.ifp rfl (Ev.ifp rfl ?_)))))))
    exact Ev.konst rfl
  | succ d ih =>
    intro i sum l h h0 h1 hl hlw hm hs
    have hi : i < acts.length := by omega
    have hx := hok _ (List.getElem_mem hi)
    refine Ev.step (fun k => by rw [packhorselaw11_BatchLimits.l0, if_pos (by omega), if_pos (by omega), if_pos (by omega)]) ?_
    have hrd : rd_T34 acts (i : Int) = acts[i] := by
      unfold rd_T34
      simp [List.getD_eq_getElem?_getD, List.getElem?_eq_getElem hi]
    rw [hrd]
    generalize acts[i] = a at hx
    have fin : Ev (fun k => packhorselaw11_BatchLimits.j2 k x2 sum acts (acts.length : Int) (i : Int) true cnt cw 1 sum 0 1 1 gc gz gs l a.f0 a.f1 a.f2) true := Ev.of (packhorselaw11_BatchLimits.mono_l · |>.2.2 _ _ _ _ _ _ _ _ _ _ _ _ _ _ _ _ _ _ _ _) (k := 1) (by rw [packhorselaw11_BatchLimits.j2, if_pos rfl])
    by_cases b1 : a.f2 < 0
    · exact Ev.ifp b1 fin
    refine Ev.ifn b1 ?_
    by_cases b2 : a.f2 > 1000000
    · exact Ev.ifp b2 fin
    refine Ev.ifn b2 ?_
    by_cases b3 : (a.f1.size : Int) > 60
    · rw [decide_eq_true b3]; exact fin
    rw [decide_eq_false b3]
    refine Ev.step (fun k => by rw [packhorselaw11_BatchLimits.j2, if_neg (by decide)]) ?_
    refine Ev.bind (join_eq 1 sum 0 1 1 gc gz gs l cnt cw a.f1 a.f2 (by omega) (by omega)) ?_
    have wi : wrap64 ((i : Int) + 1) = ((i + 1 : Nat) : Int) := w64 (by omega) (by omega)
    rw [wi]
    unfold joinV
    rw [if_pos rfl]
    have size1 : gc.size ≤ 140737488351232 ∧ gz.size ≤ 140737488351232 ∧ gs.size ≤ 140737488351232 := by decide +kernel
    -- nothing joins
    have stay : Ev (fun k => if (l.length : Int) > cnt then (some false) else (if (l.length : Int) > 1 then (if sum > cw then (some false) else (if sum = sum then ((batch_Right.f k 1 sum 0 1 1 gc gz gs l).bind fun t => (if t = true then (packhorselaw11_BatchLimits.l0 k x2 sum acts (acts.length : Int) ((i + 1 : Nat) : Int) cnt cw 1 sum 0 1 1 gc gz gs l) else (some false))) else (some false))) else (if sum = sum then ((batch_Right.f k 1 sum 0 1 1 gc gz gs l).bind fun t => (if t = true then (packhorselaw11_BatchLimits.l0 k x2 sum acts (acts.length : Int) ((i + 1 : Nat) : Int) cnt cw 1 sum 0 1 1 gc gz gs l) else (some false))) else (some false)))) true := by
      have go : Ev (fun k => if sum = sum then ((batch_Right.f k 1 sum 0 1 1 gc gz gs l).bind fun t => (if t = true then (packhorselaw11_BatchLimits.l0 k x2 sum acts (acts.length : Int) ((i + 1 : Nat) : Int) cnt cw 1 sum 0 1 1 gc gz gs l) else (some false))) else (some false)) true := by
        refine Ev.ifp rfl (Ev.bind (right_B 1 sum 0 1 1 gc gz gs l size1.1 size1.2.1 size1.2.2 (by omega) (fun x hx => Nat.le_trans (hs x hx) (by decide))) ?_)
        exact Ev.ifp (okB_ok sum l h0 h1 (by omega) hm) (ih (i + 1) sum l (by omega) h0 h1 hl hlw hm hs)
      refine Ev.ifn (by omega) ?_
      by_cases g1 : (l.length : Int) > 1
      · exact Ev.ifp g1 (Ev.ifn (by have := hlw g1; omega) go)
      · exact Ev.ifn g1 go
    by_cases hj : lab a.f1 = true ∧ has l a.f1 = false
    rotate_left
    · rw [if_neg hj]
      exact Ev.ifn (show ¬ ((112 : Int) = 0) from by decide) stay
    rw [if_pos hj]
    by_cases hr : room sum a.f2 l cnt cw
    rotate_left
    · rw [if_neg hr]
      exact Ev.ifn (show ¬ ((111 : Int) = 0) from by decide) stay
    rw [if_pos hr]
    unfold room at hr
    have hlen : (l ++ [a.f1]).length = l.length + 1 := by simp
    have hs' : ∀ x ∈ l ++ [a.f1], x.size ≤ 60 := by
      intro x hx
      rcases List.mem_append.1 hx with h | h
      · exact hs x h
      · simp only [List.mem_singleton] at h; subst h; omega
    have hm' := membs_snoc l a.f1 hm hj.1 hj.2
    have ws : wrap64 (sum + a.f2) = sum + a.f2 := w64 (by omega) (by omega)
    have go : Ev (fun k => if sum + a.f2 = wrap64 (sum + a.f2) then ((batch_Right.f k 1 (sum + a.f2) 0 1 1 gc gz gs (l ++ [a.f1])).bind fun t => (if t = true then (packhorselaw11_BatchLimits.l0 k x2 (wrap64 (sum + a.f2)) acts (acts.length : Int) ((i + 1 : Nat) : Int) cnt cw 1 (sum + a.f2) 0 1 1 gc gz gs (l ++ [a.f1])) else (some false))) else (some false)) true := by
      refine Ev.ifp ws.symm (Ev.bind (right_B 1 (sum + a.f2) 0 1 1 gc gz gs (l ++ [a.f1]) size1.1 size1.2.1 size1.2.2 (by omega) (fun x hx => Nat.le_trans (hs' x hx) (by decide))) ?_)
      rw [ws]
      exact Ev.ifp (okB_ok (sum + a.f2) (l ++ [a.f1]) (by omega) (by omega) (by omega) hm') (ih (i + 1) (sum + a.f2) (l ++ [a.f1]) (by omega) (by omega) (by omega) (by omega) (by omega) hm' hs')
    refine Ev.ifp rfl (Ev.ifn (show ¬ (((l ++ [a.f1]).length : Int) > cnt) by omega) ?_)
    by_cases g1 : ((l ++ [a.f1]).length : Int) > 1
    · exact Ev.ifp g1 (Ev.ifn (show ¬ (sum + a.f2 > cw) by omega) go)
    · exact Ev.ifn g1 go
end
theorem BatchLimits : packhorselaw11_BatchLimits.PureQ := by
  intro cnt cw acts id _ _ hl _
  refine Ev.rounds (g := fun k => packhorselaw11_BatchLimits.f k cnt cw acts id) ?_
  have fin : Ev (fun k => packhorselaw11_BatchLimits.j0 k acts id true cnt cw) true := Ev.of (packhorselaw11_BatchLimits.mono_l · |>.1 _ _ _ _ _) (k := 1) (by rw [packhorselaw11_BatchLimits.j0, if_pos rfl])
  unfold packhorselaw11_BatchLimits.f
  refine Ev.bind alive (Ev.ifp rfl (Ev.bindc (caps_eq cnt cw) ?_))
  by_cases c1 : 1 ≤ cnt ∧ cnt ≤ 64 ∧ 1 ≤ cw ∧ cw ≤ 1000000000000
  rotate_left
  · exact Ev.ifn (by simpa using c1) fin
  refine Ev.ifp (decide_eq_true c1) ?_
  by_cases c2 : (acts.length : Int) > 100
  · rw [decide_eq_true c2]; exact fin
  rw [decide_eq_false c2]
  refine Ev.step (fun k => by rw [packhorselaw11_BatchLimits.j0, if_neg (by decide)]) ?_
  refine Ev.bindc (show packhorselaw11_empty.f = some (1, 0, 0, 1, 1, gc, gz, gs, []) from rfl) ?_
  exact limits_l id cnt cw acts (by omega) hl.2 c1 acts.length 0 0 [] (by omega) (by omega) (by omega) (by simp; omega) (by simp) rfl (by simp)
end Go.Proofs.YtapfpdjcbeiibaaDoor.Pure
