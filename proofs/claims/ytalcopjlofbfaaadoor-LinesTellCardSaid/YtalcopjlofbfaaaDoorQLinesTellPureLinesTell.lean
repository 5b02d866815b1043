
import Derived.Test.YtalcopjlofbfaaaDoorQLinesTellLinGo
namespace Go.Proofs.YtalcopjlofbfaaaDoorW.PrintMore
end Go.Proofs.YtalcopjlofbfaaaDoorW.PrintMore
namespace Go.Proofs.YtalcopjlofbfaaaDoor.Pure
open Go.RowKit Go.Proofs.YtalcopjlofbfaaaDoor Go.Proofs.YtalcopjlofbfaaaDoor.PAll Go.Proofs.YtalcopjlofbfaaaDoorW.PrintWords Go.Proofs.YtalcopjlofbfaaaDoorW.PrintLast Go.Proofs.YtalcopjlofbfaaaDoorW.PrintMore Go.Lib
theorem alive : Ev (fun k => packhorselaw04_linesAlive.f k) true := Ev.of (packhorselaw04_linesAlive.mono ·) (k := 60) (by decide +kernel)
def pcs (l : List S37) : Int := (l.map fun x => x.f1).sum
def wgt (l : List S37) : Int := (l.map fun x => x.f1 * x.f2).sum
theorem pcs_cons (x : S37) (t : List S37) : pcs (x :: t) = x.f1 + pcs t := by simp [pcs]
theorem wgt_cons (x : S37) (t : List S37) : wgt (x :: t) = x.f1 * x.f2 + wgt t := by simp [wgt]
theorem rise_one (l : List S37) : ∀ (d i : Nat), i + d = l.length → rise l d i = true → ∀ x ∈ l.drop i, lineB x = true := by
  intro d
  induction d with
  | zero => intro i h _ x hx; rw [List.drop_of_length_le (by omega)] at hx; exact absurd hx (by simp)
  | succ d ih =>
    intro i h hr x hx
    have h1 : i < l.length := by omega
    rw [rise, dif_pos h1] at hr
    simp only [Bool.and_eq_true] at hr
    rw [List.drop_eq_getElem_cons h1] at hx
    rcases List.mem_cons.1 hx with e | e
    · rw [e]; exact hr.1
    · exact ih (i + 1) (by omega) hr.2.2 x e
theorem linesB_one {l : List S37} (h : linesB l = true) : (∀ x ∈ l, lineB x = true) ∧ 1 ≤ l.length ∧ l.length ≤ 8 := by
  simp only [linesB, Bool.and_eq_true, decide_eq_true_eq] at h
  exact ⟨fun x hx => rise_one l l.length 0 (by omega) h.1 x (by simpa using hx), h.2⟩
theorem line_rng {x : S37} (h : lineB x = true) : (1 ≤ x.f1 ∧ x.f1 ≤ 1000) ∧ (0 ≤ x.f2 ∧ x.f2 ≤ 100000) ∧ (0 ≤ x.f1 * x.f2 ∧ x.f1 * x.f2 ≤ 100000000) := by
  simp only [lineB, Bool.and_eq_true, decide_eq_true_eq] at h
  obtain ⟨_, h1, h2, h3, h4⟩ := h
  have : x.f1 * x.f2 ≤ 1000 * 100000 := Int.mul_le_mul h2 h4 h3 (by omega)
  exact ⟨⟨h1, h2⟩, ⟨h3, h4⟩, Int.mul_nonneg (by omega) h3, by omega⟩
section
variable (l : List S37) (hone : ∀ x ∈ l, lineB x = true) (hn : l.length ≤ 8)
include hone hn
theorem pcs_l (d : Nat) : ∀ (i : Nat) (s : Int), i + d = l.length → 0 ≤ s → s ≤ 1000 * i → Ev (fun k => lines_total2.l0 k s l (l.length : Int) (i : Int)) (s + pcs (l.drop i)) := by
  induction d with
  | zero =>
    intro i s h _ _
    rw [List.drop_of_length_le (by omega)]
    refine Ev.step (f := fun _ => some (s + pcs [])) (fun k => ?_) (Ev.now _)
    rw [lines_total2.l0, if_neg (by omega)]; simp [pcs]
  | succ d ih =>
    intro i s h h0 h1
    have hlt : i < l.length := by omega
    have R := line_rng (hone _ (List.getElem_mem hlt))
    refine Ev.step (fun k => by rw [lines_total2.l0, if_pos (by omega), if_pos (by omega), if_pos (by omega), rd_37 l i hlt]) ?_
    refine Ev.bindc (a := l[i].f1) rfl ?_
    rw [w64 (x := s + l[i].f1) (by omega) (by omega), w64 (x := (i : Int) + 1) (by omega) (by omega), List.drop_eq_getElem_cons hlt]
    have e : s + pcs (l[i] :: l.drop (i + 1)) = (s + l[i].f1) + pcs (l.drop (i + 1)) := by rw [pcs_cons]; omega
    rw [e]
    exact ih (i + 1) _ (by omega) (by omega) (by omega)
theorem wgt_l (d : Nat) : ∀ (i : Nat) (s : Int), i + d = l.length → 0 ≤ s → s ≤ 100000000 * i → Ev (fun k => lines_total.l0 k s l (l.length : Int) (i : Int)) (s + wgt (l.drop i)) := by
  induction d with
  | zero =>
    intro i s h _ _
    rw [List.drop_of_length_le (by omega)]
    refine Ev.step (f := fun _ => some (s + wgt [])) (fun k => ?_) (Ev.now _)
    rw [lines_total.l0, if_neg (by omega)]; simp [wgt]
  | succ d ih =>
    intro i s h h0 h1
    have hlt : i < l.length := by omega
    have R := line_rng (hone _ (List.getElem_mem hlt))
    refine Ev.step (fun k => by rw [lines_total.l0, if_pos (by omega), if_pos (by omega), if_pos (by omega), rd_37 l i hlt]) ?_
    refine Ev.bindc (a := wrap64 (l[i].f1 * l[i].f2)) rfl ?_
    rw [w64 (x := l[i].f1 * l[i].f2) (by omega) (by omega), w64 (x := s + l[i].f1 * l[i].f2) (by omega) (by omega), w64 (x := (i : Int) + 1) (by omega) (by omega), List.drop_eq_getElem_cons hlt]
    have e : s + wgt (l[i] :: l.drop (i + 1)) = (s + l[i].f1 * l[i].f2) + wgt (l.drop (i + 1)) := by rw [wgt_cons]; omega
    rw [e]
    exact ih (i + 1) _ (by omega) (by omega) (by omega)
variable (hl : linesB l = true) (hs : ∀ x ∈ l, x.f0.size ≤ 140737488351232)
include hl hs
theorem rpcs_l (d : Nat) : ∀ (i : Nat) (s : Int), i + d = l.length → 0 ≤ s → s ≤ 1000 * i → Ev (fun k => packhorseref04_Pieces.l0 k l s l (l.length : Int) (i : Int)) (s + pcs (l.drop i)) := by
  induction d with
  | zero =>
    intro i s h _ _
    rw [List.drop_of_length_le (by omega)]
    refine Ev.step (f := fun _ => some (s + pcs [])) (fun k => ?_) (Ev.now _)
    rw [packhorseref04_Pieces.l0, if_neg (by omega)]; simp [pcs]
  | succ d ih =>
    intro i s h h0 h1
    have hlt : i < l.length := by omega
    have R := line_rng (hone _ (List.getElem_mem hlt))
    have E := ref_lines_eq l (by omega) hs
    rw [hl] at E
    refine Ev.step (fun k => by rw [packhorseref04_Pieces.l0, if_pos (by omega), if_pos (by omega), if_pos (by omega), rd_37 l i hlt]) (Ev.bind E (Ev.ifp rfl ?_))
    rw [w64 (x := s + l[i].f1) (by omega) (by omega), w64 (x := (i : Int) + 1) (by omega) (by omega), List.drop_eq_getElem_cons hlt]
    have e : s + pcs (l[i] :: l.drop (i + 1)) = (s + l[i].f1) + pcs (l.drop (i + 1)) := by rw [pcs_cons]; omega
    rw [e]
    exact ih (i + 1) _ (by omega) (by omega) (by omega)
theorem rwgt_l (d : Nat) : ∀ (i : Nat) (s : Int), i + d = l.length → 0 ≤ s → s ≤ 100000000 * i → Ev (fun k => packhorseref04_Weight.l0 k l s l (l.length : Int) (i : Int)) (s + wgt (l.drop i)) := by
  induction d with
  | zero =>
    intro i s h _ _
    rw [List.drop_of_length_le (by omega)]
    refine Ev.step (f := fun _ => some (s + wgt [])) (fun k => ?_) (Ev.now _)
    rw [packhorseref04_Weight.l0, if_neg (by omega)]; simp [wgt]
  | succ d ih =>
    intro i s h h0 h1
    have hlt : i < l.length := by omega
    have R := line_rng (hone _ (List.getElem_mem hlt))
    have E := ref_lines_eq l (by omega) hs
    rw [hl] at E
    refine Ev.step (fun k => by rw [packhorseref04_Weight.l0, if_pos (by omega), if_pos (by omega), if_pos (by omega), rd_37 l i hlt]) (Ev.bind E (Ev.ifp rfl ?_))
    rw [w64 (x := l[i].f1 * l[i].f2) (by omega) (by omega), w64 (x := s + l[i].f1 * l[i].f2) (by omega) (by omega), w64 (x := (i : Int) + 1) (by omega) (by omega), List.drop_eq_getElem_cons hlt]
    have e : s + wgt (l[i] :: l.drop (i + 1)) = (s + l[i].f1 * l[i].f2) + wgt (l.drop (i + 1)) := by rw [wgt_cons]; omega
    rw [e]
    exact ih (i + 1) _ (by omega) (by omega) (by omega)
end
theorem rnone (l : List S37) (hb : l.length ≤ 50) (hl : linesB l = false) (hs : ∀ x ∈ l, x.f0.size ≤ 140737488351232) (d : Nat) : ∀ i : Nat, i + d = l.length →
    Ev (fun k => packhorseref04_Pieces.l0 k l 0 l (l.length : Int) (i : Int)) 0 ∧ Ev (fun k => packhorseref04_Weight.l0 k l 0 l (l.length : Int) (i : Int)) 0 := by
  induction d with
  | zero =>
    intro i h
    exact ⟨Ev.step (f := fun _ => some 0) (fun k => by rw [packhorseref04_Pieces.l0, if_neg (by omega)]) (Ev.now _), Ev.step (f := fun _ => some 0) (fun k => by rw [packhorseref04_Weight.l0, if_neg (by omega)]) (Ev.now _)⟩
  | succ d ih =>
    intro i h
    have hlt : i < l.length := by omega
    have E := ref_lines_eq l (by omega) hs
    rw [hl] at E
    obtain ⟨k1, k2⟩ := ih (i + 1) (by omega)
    have w1 : wrap64 ((i : Int) + 1) = ((i + 1 : Nat) : Int) := by rw [w64 (by omega) (by omega)]; omega
    refine ⟨Ev.step (fun k => by rw [packhorseref04_Pieces.l0, if_pos (by omega), if_pos (by omega), if_pos (by omega), w1]) (Ev.bind E (Ev.ifn (show ¬ (false = true) by decide) k1)), Ev.step (fun k => by rw [packhorseref04_Weight.l0, if_pos (by omega), if_pos (by omega), if_pos (by omega), w1]) (Ev.bind E (Ev.ifn (show ¬ (false = true) by decide) k2))⟩
theorem sums (l : List S37) (hb : l.length ≤ 50) (hs : ∀ x ∈ l, x.f0.size ≤ 140737488351232) : ∃ p w, Ev (fun k => lines_Pieces.f k l) p ∧ Ev (fun k => packhorseref04_Pieces.f k l) p ∧ Ev (fun k => lines_Weight.f k l) w ∧ Ev (fun k => packhorseref04_Weight.f k l) w := by
  have E := lines_eq l (by omega) hs
  cases hl : linesB l
  · rw [hl] at E
    obtain ⟨k1, k2⟩ := rnone l hb hl hs l.length 0 (by omega)
    refine ⟨0, 0, ?_, k1, ?_, k2⟩
    · unfold lines_Pieces.f lines_total2.f
      exact Ev.bind (Ev.bind E (Ev.ifn (by decide) (Ev.now _))) (Ev.now _)
    · unfold lines_Weight.f lines_total.f
      exact Ev.bind (Ev.bind E (Ev.ifn (by decide) (Ev.now _))) (Ev.now _)
  · rw [hl] at E
    obtain ⟨h1, h2, h3⟩ := linesB_one hl
    refine ⟨0 + pcs (l.drop 0), 0 + wgt (l.drop 0), ?_, rpcs_l l h1 h3 hl hs l.length 0 0 (by omega) (by omega) (by omega), ?_, rwgt_l l h1 h3 hl hs l.length 0 0 (by omega) (by omega) (by omega)⟩
    · unfold lines_Pieces.f lines_total2.f
      exact Ev.bind (Ev.bind E (Ev.ifp rfl (pcs_l l h1 h3 l.length 0 0 (by omega) (by omega) (by omega)))) (Ev.now _)
    · unfold lines_Weight.f lines_total.f
      exact Ev.bind (Ev.bind E (Ev.ifp rfl (wgt_l l h1 h3 l.length 0 0 (by omega) (by omega) (by omega)))) (Ev.now _)
theorem LinesTell : packhorselaw04_LinesTell.PureQ := by
  intro l hl
  have hs : ∀ x ∈ l, x.f0.size ≤ 140737488351232 := fun x hx => (hl.2 x hx).1
  refine Ev.rounds (g := fun k => packhorselaw04_LinesTell.f k l) ?_
  unfold packhorselaw04_LinesTell.f
  refine Ev.bind alive (Ev.ifp rfl ?_)
  by_cases c : (l.length : Int) > 50
  · exact Ev.ifp c (Ev.now _)
  refine Ev.ifn c (Ev.bind (lines_eq l (by omega) hs) (Ev.bind (ref_lines_eq l (by omega) hs) (Ev.ifp (by simp) ?_)))
  obtain ⟨p, w, h1, h2, h3, h4⟩ := sums l (by omega) hs
  refine Ev.bind h1 (Ev.bind h2 (Ev.ifp rfl (Ev.bind h3 (Ev.bind h4 ?_))))
  rw [beq_self_eq_true]
  exact Ev.now _
end Go.Proofs.YtalcopjlofbfaaaDoor.Pure
