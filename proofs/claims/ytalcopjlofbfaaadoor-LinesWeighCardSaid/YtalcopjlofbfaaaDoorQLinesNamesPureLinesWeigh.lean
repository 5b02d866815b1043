
import Derived.Test.YtalcopjlofbfaaaDoorQLinesNamesTakLaw
set_option linter.unusedVariables false
namespace Go.Proofs.YtalcopjlofbfaaaDoor.Pure
open Go.RowKit Go.Proofs.YtalcopjlofbfaaaDoor Go.Proofs.YtalcopjlofbfaaaDoor.PAll Go.Proofs.YtalcopjlofbfaaaDoorW.PrintWords Go.Proofs.YtalcopjlofbfaaaDoorW.PrintLast Go.Proofs.YtalcopjlofbfaaaDoorW.PrintMore Go.Lib
theorem alive : Ev (fun k => packhorselaw04_linesAlive.f k) true := Ev.of (packhorselaw04_linesAlive.mono ·) (k := 60) (by decide +kernel)
theorem lines_1 {x : S37} : linesB [x] = lineB x := by
  unfold linesB
  simp [rise]
section
variable (l : List S37) (hl : linesB l = true) (hs : ∀ x ∈ l, x.f0.size ≤ 140737488351232)
include hl hs
theorem weigh_l (d : Nat) : ∀ (i : Nat), i + d = l.length → Ev (fun k => packhorselaw04_LinesWeigh.l0 k l (pcs (l.take i)) (wgt (l.take i)) l (l.length : Int) (i : Int)) true := by
  obtain ⟨hone, hl1, hl8⟩ := linesB_one hl
  have P := pieces_eq hl hs
  have W := weight_eq hl hs
  induction d with
  | zero =>
    intro i h
    rw [List.take_of_length_le (by omega)]
    refine Ev.step (fun k => by rw [packhorselaw04_LinesWeigh.l0, if_neg (by omega)]) (Ev.bind P (Ev.ifp rfl (Ev.bind W ?_)))
    rw [beq_self_eq_true]; exact Ev.now _
  | succ d ih =>
    intro i h
    have h1 : i < l.length := by omega
    have hx := List.getElem_mem h1
    have rx := line_rngs (hone _ hx)
    have htk : l.take (i + 1) = l.take i ++ [l[i]] := by rw [List.take_succ_eq_append_getElem h1]
    have l1 : linesB [l[i]] = true := by rw [lines_1]; exact hone _ hx
    have P1 := pieces_eq l1 (fun y hy => by rw [List.mem_singleton.1 hy]; exact hs _ hx)
    have W1 := weight_eq l1 (fun y hy => by rw [List.mem_singleton.1 hy]; exact hs _ hx)
    have e1 : pcs [l[i]] = l[i].f1 := by simp [pcs]
    have e2 : wgt [l[i]] = l[i].f1 * l[i].f2 := by simp [wgt]
    rw [e1] at P1; rw [e2] at W1
    have bT : AllB (l.take i) := fun y hy => hone y (List.mem_of_mem_take hy)
    have pr := pcs_rng _ bT
    have wr := wgt_rng _ bT
    have lt : (l.take i).length ≤ 8 := by rw [List.length_take]; omega
    have pl := pcs_rng l hone
    have wl := wgt_rng l hone
    have n1 : pcs (l.take (i + 1)) = pcs (l.take i) + l[i].f1 := by rw [htk, pcs_app, e1]
    have n2 : wgt (l.take (i + 1)) = wgt (l.take i) + l[i].f1 * l[i].f2 := by rw [htk, wgt_app, e2]
    have nxt := ih (i + 1) (by omega)
    rw [n1, n2] at nxt
    refine Ev.step (fun k => by rw [packhorselaw04_LinesWeigh.l0, if_pos (by omega), if_pos (by omega), if_pos (by omega), rd_37 l i h1]) (Ev.bind P1 (Ev.bind W1 ?_))
    rw [w64 (x := pcs (l.take i) + l[i].f1) (by omega) (by omega), w64 (x := wgt (l.take i) + l[i].f1 * l[i].f2) (by omega) (by omega), w64 (x := (i : Int) + 1) (by omega) (by omega)]
    rcases take_eq l l[i].f0 1 (by omega) hs with ⟨A, x, B, e, ex, _, h1', h2, h0, hlb2, hr⟩ | ⟨_, hr⟩
    rotate_left
    · exact Ev.bind hr (Ev.ifn (by decide) nxt)
    have hxx : x = l[i] := up_key (linesB_up hl) (by rw [e]; simp) hx ex
    have hsl : ∀ y ∈ left A x B 1, y.f0.size ≤ 140737488351232 := by
      intro y hy
      have hy2 : ∃ z ∈ l, z.f0 = y.f0 := by
        unfold left at hy
        split at hy
        · rcases List.mem_append.1 hy with g | g
          · exact ⟨y, by rw [e]; simp [g], rfl⟩
          · exact ⟨y, by rw [e]; simp [g], rfl⟩
        · rcases List.mem_append.1 hy with g | g
          · exact ⟨y, by rw [e]; simp [g], rfl⟩
          · rcases List.mem_cons.1 g with g | g
            · exact ⟨x, by rw [e]; simp, by rw [g]⟩
            · exact ⟨y, by rw [e]; simp [g], rfl⟩
      obtain ⟨z, hz, ez⟩ := hy2
      rw [← ez]; exact hs z hz
    have P2 := pieces_eq hlb2 hsl
    have W2 := weight_eq hlb2 hsl
    rw [left_pcs, ← e] at P2
    have hf2 : x.f2 = l[i].f2 := by rw [hxx]
    rw [left_wgt, ← e, Int.one_mul, hf2] at W2
    refine Ev.bind hr (Ev.ifp rfl (Ev.bind W2 (Ev.bind W (Ev.ifp ?_ (Ev.bind P2 (Ev.bind P (Ev.ifp ?_ nxt)))))))
    · rw [w64 (by omega) (by omega)]
    · rw [w64 (by omega) (by omega)]
end
theorem LinesWeigh : packhorselaw04_LinesWeigh.PureQ := by
  intro l hl
  have hs : ∀ x ∈ l, x.f0.size ≤ 140737488351232 := fun x hx => (hl.2 x hx).1
  refine Ev.rounds (g := fun k => packhorselaw04_LinesWeigh.f k l) ?_
  have fin : Ev (fun k => packhorselaw04_LinesWeigh.j0 k l true) true := Ev.step (f := fun _ => some true) (fun k => by rw [packhorselaw04_LinesWeigh.j0, if_pos rfl]) (Ev.now _)
  unfold packhorselaw04_LinesWeigh.f
  refine Ev.bind alive (Ev.ifp rfl ?_)
  by_cases c : (l.length : Int) > 50
  · exact Ev.ifp c fin
  refine Ev.ifn c (Ev.bind (lines_eq l (by omega) hs) ?_)
  cases h : linesB l
  · exact fin
  refine Ev.step (fun k => by rw [packhorselaw04_LinesWeigh.j0, if_neg (by decide)]) ?_
  have := weigh_l l h hs l.length 0 (by omega)
  simpa [pcs, wgt] using this
end Go.Proofs.YtalcopjlofbfaaaDoor.Pure
