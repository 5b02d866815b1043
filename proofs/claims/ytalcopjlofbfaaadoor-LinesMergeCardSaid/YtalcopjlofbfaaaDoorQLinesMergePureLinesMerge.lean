
import Derived.Test.YtalcopjlofbfaaaDoorQLinesMergeMrgRef
namespace Go.Proofs.YtalcopjlofbfaaaDoor.Pure
open Go.RowKit Go.Proofs.YtalcopjlofbfaaaDoor Go.Proofs.YtalcopjlofbfaaaDoor.PAll Go.Proofs.YtalcopjlofbfaaaDoorW.PrintWords Go.Proofs.YtalcopjlofbfaaaDoorW.PrintLast Go.Proofs.YtalcopjlofbfaaaDoorW.PrintMore Go.Lib
theorem alive : Ev (fun k => packhorselaw04_linesAlive.f k) true := Ev.of (packhorselaw04_linesAlive.mono ·) (k := 60) (by decide +kernel)
theorem out_uniq {l : List S37} {r r' : List S37 × Int} (h : Out l r) (h' : Out l r') : r = r' := by
  rcases h with ⟨e, g⟩ | ⟨o, e, hm, hf, hn, ha⟩ <;> rcases h' with ⟨e', g'⟩ | ⟨o', e', hm', hf', hn', ha'⟩
  · rw [e, e']
  · exact absurd ⟨hn', ha', o', hm', hf'⟩ g
  · exact absurd ⟨hn, ha, o, hm, hf⟩ g'
  · rw [e, e', mrg_uniq hm hm']
theorem out_len {l : List S37} {r : List S37 × Int} (h : Out l r) : r.1.length ≤ 8 := by
  rcases h with ⟨e, _⟩ | ⟨o, e, _, hf, _⟩
  · rw [e]; simp
  · rw [e]; exact hf.1
theorem LinesMerge : packhorselaw04_LinesMerge.PureQ := by
  intro l hl
  have hs : ∀ x ∈ l, x.f0.size ≤ 140737488351232 := fun x hx => (hl.2 x hx).1
  refine Ev.rounds (g := fun k => packhorselaw04_LinesMerge.f k l) ?_
  unfold packhorselaw04_LinesMerge.f
  refine Ev.bind alive (Ev.ifp rfl ?_)
  by_cases c : (l.length : Int) > 50
  · exact Ev.ifp c (Ev.now _)
  refine Ev.ifn c (Ev.bindc (a := []) rfl (Ev.ifp (by simp; omega) (Ev.bindc (a := l) (by rw [List.nil_append]) ?_)))
  obtain ⟨r, hr, ho⟩ := mrg_go l (by omega) hs
  obtain ⟨r', hr', ho'⟩ := mrg_ref l (by omega) hs
  have e := out_uniq ho' ho
  rw [e] at hr'
  have L := out_len ho
  have S := ref_equal_eq r.1 r.1 (by omega)
  have S2 := ref_equal_eq l l (by omega)
  rw [decide_eq_true rfl] at S S2
  exact Ev.bind hr (Ev.bind hr' (Ev.bind S (Ev.ifp rfl (Ev.ifp rfl (Ev.bind S2 (Ev.now _))))))
end Go.Proofs.YtalcopjlofbfaaaDoor.Pure
