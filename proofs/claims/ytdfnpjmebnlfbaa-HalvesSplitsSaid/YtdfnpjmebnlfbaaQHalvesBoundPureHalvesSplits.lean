
import Derived.Test.YtdfnpjmebnlfbaaQHalvesBoundOps
import Derived.Test.YtdfnpjmebnlfbaaQHalvesBoundPlanTell
import Derived.Test.YtdfnpjmebnlfbaaQHalvesBoundSame
namespace Go.Proofs.YtdfnpjmebnlfbaaW.PrintMore
end Go.Proofs.YtdfnpjmebnlfbaaW.PrintMore
set_option linter.unusedVariables false
namespace Go.Proofs.Ytdfnpjmebnlfbaa.Pure
open Go.RowKit Go.Proofs.Ytdfnpjmebnlfbaa Go.Proofs.Ytdfnpjmebnlfbaa.PAll Go.Proofs.YtdfnpjmebnlfbaaW.PrintWords Go.Proofs.YtdfnpjmebnlfbaaW.PrintLast Go.Proofs.YtdfnpjmebnlfbaaW.PrintMore
theorem HalvesSplits : packhorselaw12_HalvesSplits.PureQ := by
  intro l hq
  refine Ev.rounds (g := fun k => packhorselaw12_HalvesSplits.f k l) ?_
  unfold packhorselaw12_HalvesSplits.f
  refine Ev.bindc (a := true) rfl (Ev.ifp rfl ?_)
  by_cases c : (l.length : Int) > 100
  · exact Ev.ifp c (Ev.now _)
  refine Ev.ifn c (Ev.bindc (split_f l (by omega)) ?_)
  have e1 : (l.take ((l.length + 1) / 2)).length = (l.length + 1) / 2 := by rw [List.length_take]; omega
  have e2 : (l.drop ((l.length + 1) / 2)).length = l.length - (l.length + 1) / 2 := List.length_drop
  refine Ev.ifp (by simp only; rw [e1, e2, w64 (by omega) (by omega)]; omega) ?_
  refine Ev.bindc (a := []) rfl (Ev.ifp (by simp only [List.length_nil]; rw [e1]; omega) ?_)
  refine Ev.bindc (a := l.take ((l.length + 1) / 2)) rfl (Ev.ifp (by simp only; rw [e1, e2]; omega) ?_)
  have same := same_eq (l.take ((l.length + 1) / 2) ++ l.drop ((l.length + 1) / 2)) l (by rw [List.take_append_drop]; omega)
  refine Ev.bind same ?_
  rw [decide_eq_true (List.take_append_drop _ _)]
  refine Ev.step (fun k => by rw [packhorselaw12_HalvesSplits.j0, if_neg (by decide)]) ?_
  by_cases h0 : (0 : Int) < ((l.take ((l.length + 1) / 2)).length : Int)
  · refine Ev.ifp h0 (Ev.ifp (by omega) (Ev.ifp h0 (Ev.ifp ?_ ?_)))
    · have hm : rdOf ByteArray.empty (l.take ((l.length + 1) / 2)) 0 ∈ l := by
        have h1 := rd_str (l.take ((l.length + 1) / 2)) 0 (by omega)
        rw [show ((0 : Nat) : Int) = 0 from rfl] at h1
        rw [h1]
        exact List.mem_of_mem_take (List.getElem_mem _)
      have := hq.2 _ hm
      simp only
      omega
    · rw [show ((rdOf ByteArray.empty l 0).toList == (rdOf ByteArray.empty l 0).toList) = true from by simp]
      exact Ev.now _
  · exact Ev.ifn h0 (Ev.now _)
end Go.Proofs.Ytdfnpjmebnlfbaa.Pure
