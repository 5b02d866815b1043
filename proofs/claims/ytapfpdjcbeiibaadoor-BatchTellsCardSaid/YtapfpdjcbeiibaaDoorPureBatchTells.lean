/- Layer 11 (batch), BatchTells: of any two batches and any caps the program tells what the reference tells: whether they can be, whether they are the same. The one condition is 'laid' (the two tables of unicode/utf8, tied). -/
import Derived.Test.YtapfpdjcbeiibaaDoorLib
namespace Go.Proofs.YtapfpdjcbeiibaaDoor.Pure
open Go.RowKit Go.Proofs.YtapfpdjcbeiibaaDoor Go.Proofs.YtapfpdjcbeiibaaDoor.PAll Go.Proofs.YtapfpdjcbeiibaaDoorW.PrintWords Go.Proofs.YtapfpdjcbeiibaaDoorW.PrintLast Go.Proofs.YtapfpdjcbeiibaaDoorW.PrintMore

theorem alive : Ev (fun k => packhorselaw11_batchAlive.f k) true := Ev.of (packhorselaw11_batchAlive.mono ·) (k := 40) (by decide +kernel)
theorem caps_eq (x y : Int) : batch_Caps.f x y = packhorseref11_Caps.f x y := by
  unfold batch_Caps.f packhorseref11_Caps.f
  rw [tally_R y]
  by_cases c1 : x ≥ 1
  · rw [if_pos c1, if_pos c1]
    by_cases c2 : x ≤ 64
    · rw [if_pos c2, if_pos c2]
      by_cases c3 : y ≥ 1
      · rw [if_pos c3, if_pos c3]
        show some (decide (0 ≤ y ∧ y ≤ 1000000000000)) = _
        rw [show decide (0 ≤ y ∧ y ≤ 1000000000000) = decide (y ≤ 1000000000000) from decide_eq_decide.2 ⟨fun h => h.2, fun h => ⟨by omega, h⟩⟩]
      · rw [if_neg c3, if_neg c3]
    · rw [if_neg c2, if_neg c2]
  · rw [if_neg c1, if_neg c1]
theorem caps_some (x y : Int) : ∃ b, packhorseref11_Caps.f x y = some b := by
  unfold packhorseref11_Caps.f
  repeat' split
  all_goals exact ⟨_, rfl⟩
/-- The two Sames answer the same. -/
theorem sames (x0 x1 x2 x3 x4 y0 y1 y2 y3 y4 : Int) (x5 x6 x7 y5 y6 y7 : ByteArray) (l m : List ByteArray) (hb : l.length ≤ 9223372036854775806) :
    ∃ b, Ev (fun k => batch_Same.f k x0 x1 x2 x3 x4 x5 x6 x7 l y0 y1 y2 y3 y4 y5 y6 y7 m) b ∧ Ev (fun k => packhorseref11_Same.f k x0 x1 x2 x3 x4 x5 x6 x7 l y0 y1 y2 y3 y4 y5 y6 y7 m) b := by
  unfold batch_Same.f packhorseref11_Same.f
  by_cases c0 : x0 = y0
  rotate_left
  · exact ⟨false, Ev.ifn c0 (Ev.now _), Ev.ifn c0 (Ev.now _)⟩
  by_cases c1 : x1 = y1
  rotate_left
  · exact ⟨false, Ev.ifp c0 (Ev.ifn c1 (Ev.now _)), Ev.ifp c0 (Ev.ifn c1 (Ev.now _))⟩
  by_cases c2 : x2 = y2
  rotate_left
  · exact ⟨false, Ev.ifp c0 (Ev.ifp c1 (Ev.ifn c2 (Ev.now _))), Ev.ifp c0 (Ev.ifp c1 (Ev.ifn c2 (Ev.now _)))⟩
  by_cases c3 : x3 = y3
  rotate_left
  · exact ⟨false, Ev.ifp c0 (Ev.ifp c1 (Ev.ifp c2 (Ev.ifn c3 (Ev.now _)))), Ev.ifp c0 (Ev.ifp c1 (Ev.ifp c2 (Ev.ifn c3 (Ev.now _))))⟩
  by_cases c4 : x4 = y4
  rotate_left
  · exact ⟨false, Ev.ifp c0 (Ev.ifp c1 (Ev.ifp c2 (Ev.ifp c3 (Ev.ifn c4 (Ev.now _))))), Ev.ifp c0 (Ev.ifp c1 (Ev.ifp c2 (Ev.ifp c3 (Ev.ifn c4 (Ev.now _)))))⟩
  by_cases c5 : (x5.toList == y5.toList && (x6.toList == y6.toList && (x7.toList == y7.toList))) = true
  rotate_left
  · exact ⟨false, Ev.ifp c0 (Ev.ifp c1 (Ev.ifp c2 (Ev.ifp c3 (Ev.ifp c4 (Ev.ifn c5 (Ev.now _)))))), Ev.ifp c0 (Ev.ifp c1 (Ev.ifp c2 (Ev.ifp c3 (Ev.ifp c4 (Ev.ifn c5 (Ev.now _))))))⟩
  · exact ⟨decide (l = m), Ev.ifp c0 (Ev.ifp c1 (Ev.ifp c2 (Ev.ifp c3 (Ev.ifp c4 (Ev.ifp c5 (Ev.bind (equal_eq l m hb) (Ev.now _))))))), Ev.ifp c0 (Ev.ifp c1 (Ev.ifp c2 (Ev.ifp c3 (Ev.ifp c4 (Ev.ifp c5 (Ev.bind (same_eq l m hb) (Ev.now _)))))))⟩

theorem BatchTells : packhorselaw11_BatchTells.PureQ := by
  intro x0 x1 x2 x3 x4 x5 x6 x7 l y0 y1 y2 y3 y4 y5 y6 y7 m z0 z1 _ _ _ _ _ h5 h6 h7 hl _ _ _ _ _ _ _ _ _ _ _
  refine Ev.rounds (g := fun k => packhorselaw11_BatchTells.f k x0 x1 x2 x3 x4 x5 x6 x7 l y0 y1 y2 y3 y4 y5 y6 y7 m z0 z1) ?_
  have fin : Ev (fun k => packhorselaw11_BatchTells.j0 k true x0 x1 x2 x3 x4 x5 x6 x7 l y0 y1 y2 y3 y4 y5 y6 y7 m z0 z1) true := Ev.of (packhorselaw11_BatchTells.mono_l · _ _ _ _ _ _ _ _ _ _ _ _ _ _ _ _ _ _ _ _ _) (k := 1) (by rw [packhorselaw11_BatchTells.j0, if_pos rfl])
  unfold packhorselaw11_BatchTells.f
  refine Ev.bind alive (Ev.ifp rfl ?_)
  by_cases c1 : (l.length : Int) > 100
  · exact Ev.ifp c1 fin
  refine Ev.ifn c1 ?_
  by_cases c2 : (m.length : Int) > 100
  · rw [decide_eq_true c2]; exact fin
  rw [decide_eq_false c2]
  obtain ⟨bc, hc⟩ := caps_some z0 z1
  obtain ⟨bs, hs1, hs2⟩ := sames x0 x1 x2 x3 x4 y0 y1 y2 y3 y4 x5 x6 x7 y5 y6 y7 l m (by omega)
  refine Ev.step (fun k => by rw [packhorselaw11_BatchTells.j0, if_neg (by decide)]) ?_
  refine Ev.bind (right_B x0 x1 x2 x3 x4 x5 x6 x7 l h5 h6 h7 (by omega) hl.2) (Ev.bind (right_R x0 x1 x2 x3 x4 x5 x6 x7 l h5 h6 h7 (by omega) hl.2) (Ev.ifp (by rw [beq_self_eq_true]) ?_))
  refine Ev.bindc ((caps_eq z0 z1).trans hc) (Ev.bindc hc (Ev.ifp (by rw [beq_self_eq_true]) ?_))
  refine Ev.bind hs1 (Ev.bind hs2 ?_)
  rw [beq_self_eq_true]
  exact Ev.now _
end Go.Proofs.YtapfpdjcbeiibaaDoor.Pure
