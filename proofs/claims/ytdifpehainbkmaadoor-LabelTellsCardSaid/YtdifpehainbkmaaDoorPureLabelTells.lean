/- Layer 01 (label), LabelTells: any text: whether it is a label, how many signs it has, its first ones, and the one that follows. The one condition is 'laid' (the two tables of unicode/utf8, tied). -/
import Derived.Test.YtdifpehainbkmaaDoorLabCut
namespace Go.Proofs.YtdifpehainbkmaaDoor.Pure
open Go.RowKit Go.Proofs.YtdifpehainbkmaaDoor Go.Proofs.YtdifpehainbkmaaDoor.PAll Go.Proofs.YtdifpehainbkmaaDoorW.PrintWords Go.Proofs.YtdifpehainbkmaaDoorW.PrintLast Go.Proofs.YtdifpehainbkmaaDoorW.PrintMore

theorem wf64 {x : Int} (h : (Lit.int .i64 x).wf = true) : -9223372036854775808 ≤ x ∧ x ≤ 9223372036854775807 := by
  simp [Lit.wf, IntKind.min, IntKind.max, IntKind.signed, IntKind.bits] at h
  omega
theorem alive_ : packhorselaw01_labelAlive.f = some true := by decide +kernel
theorem signs_some (s : ByteArray) (h : s.size ≤ 1000) : label_Signs.f s = some (Lab.signs s) := by
  unfold label_Signs.f; exact O.p (by omega) rfl
theorem tells_j (s : ByteArray) (hs : s.size ≤ 1000) (n : Int) (hn : n ≤ 9223372036854775807) (x : Int) (hx : Lab.signs s = x) : Ev (fun k => packhorselaw01_LabelTells.j0 k s n x) true := by
  refine Ev.step (fun k => rfl) (Ev.bindc (next_eq s hs) (Ev.bind (next_ref s hs) ?_))
  refine Ev.bindc (right_eq s (by omega)) (Ev.bind (right_ref s (by omega)) ?_)
  refine Ev.ifp (by simp) ?_
  refine Ev.bindc (signs_some s hs) (Ev.ifp hx ?_)
  refine Ev.bindc (cut_eq s n hs hn) (Ev.bind (cut_ref s n hs) ?_)
  refine Ev.ifp rfl (Ev.ifp rfl (Ev.konst ?_))
  rw [beq_self_eq_true]
theorem LabelTells : packhorselaw01_LabelTells.PureQ := by
  intro s n hs hn
  have hn2 : n ≤ 9223372036854775807 := by
    exact (wf64 hn).2
  refine Ev.rounds ?_
  refine Ev.bindc alive_ (Ev.ifp rfl ?_)
  by_cases c : (s.size : Int) > 200
  · exact Ev.ifp c (Ev.now true)
  · refine Ev.ifn c ?_
    refine Ev.bind (signs_ref s hs) ?_
    have e := signs_rl s
    unfold rl at e
    by_cases c0 : (Lab.rlist s s.size 0 []).length = 0
    · rw [if_pos c0] at e
      exact Ev.ifp (by rw [c0]; rfl) (tells_j s (by omega) n hn2 _ e)
    · rw [if_neg c0] at e
      exact Ev.ifn (by omega) (tells_j s (by omega) n hn2 _ e)
end Go.Proofs.YtdifpehainbkmaaDoor.Pure
