
import Derived.Test.YtnacmehhmheooaaDoorQOutboxCutOutGo
set_option linter.unusedVariables false
namespace Go.Proofs.YtnacmehhmheooaaDoor.Pure
open Go.RowKit Go.Proofs.YtnacmehhmheooaaDoor Go.Proofs.YtnacmehhmheooaaDoor.PAll Go.Proofs.YtnacmehhmheooaaDoorW.PrintWords Go.Proofs.YtnacmehhmheooaaDoorW.PrintLast Go.Proofs.YtnacmehhmheooaaDoorW.PrintMore
theorem alive : Ev (fun k => packhorselaw13_outboxAlive.f k) true := Ev.of (packhorselaw13_outboxAlive.mono ·) (k := 60) (by decide +kernel)
theorem rightE_weak {l : List S27} {a b : Int} (h : rightE b l = true) (hab : a ≤ b) : rightE a l = true := by
  cases l with
  | nil => rfl
  | cons x t =>
    simp only [rightE, Bool.and_eq_true, decide_eq_true_eq] at h ⊢
    exact ⟨h.1, by omega, h.2.2⟩
theorem rightE_filter (p : S27 → Bool) : ∀ (l : List S27) (a : Int), rightE a l = true → rightE a (l.filter p) = true := by
  intro l
  induction l with
  | nil => intro a _; rfl
  | cons x t ih =>
    intro a h
    simp only [rightE, Bool.and_eq_true, decide_eq_true_eq] at h
    by_cases c : p x = true
    · rw [List.filter_cons_of_pos c]
      simp only [rightE, Bool.and_eq_true, decide_eq_true_eq]
      exact ⟨h.1, h.2.1, ih _ h.2.2⟩
    · rw [List.filter_cons_of_neg c]
      exact rightE_weak (ih _ h.2.2) (by omega)
section
variable (l : List S27) (now : Int) (hr : rightE 0 l = true) (hn : l.length ≤ 60) (D : List S27) (hD : D = l.filter fun x => decide (x.f2 ≤ now))
include hr hn hD
theorem cut_l (d : Nat) : ∀ (i : Nat) (o : List S27), i + d = l.length → D = o ++ (l.drop i).filter (fun x => decide (x.f2 ≤ now)) →
    Ev (fun k => packhorselaw13_OutboxCut.l0 k now D (o.length : Int) l (l.length : Int) (i : Int)) true := by
  have hDl : D.length ≤ 60 := by rw [hD]; exact Nat.le_trans (List.length_filter_le _ _) hn
  induction d with
  | zero =>
    intro i o h1 h2
    rw [List.drop_of_length_le (by omega), List.filter_nil, List.append_nil] at h2
    refine Ev.step (fun k => by rw [packhorselaw13_OutboxCut.l0, if_neg (by omega)]) ?_
    refine Ev.ifp (by rw [h2]) (Ev.bind (right_O D (fun x hx => ?_) (by omega)) ?_)
    · rw [hD] at hx
      have := (oneE_ok (rightE_mem hr x (List.mem_filter.1 hx).1)).2.2.2.2.2
      omega
    · rw [hD, rightE_filter _ l 0 hr]; exact Ev.now _
  | succ d ih =>
    intro i o h1 h2
    have hlt : i < l.length := by omega
    rw [List.drop_eq_getElem_cons hlt] at h2
    refine Ev.step (fun k => by rw [packhorselaw13_OutboxCut.l0, if_pos (by omega), if_pos (by omega), if_pos (by omega), rd_27 l i hlt]) ?_
    have w1 : wrap64 ((i : Int) + 1) = ((i + 1 : Nat) : Int) := by rw [w64 (by omega) (by omega)]; omega
    by_cases c : l[i].f2 ≤ now
    · rw [List.filter_cons_of_pos (by simpa using c)] at h2
      have hk : o.length < D.length := by rw [h2]; simp
      have e : rd_T27 D (o.length : Int) = l[i] := by
        rw [rd_27 D o.length hk]
        have : ∀ (E : List S27) (h : o.length < E.length), E = o ++ l[i] :: (l.drop (i + 1)).filter (fun x => decide (x.f2 ≤ now)) → E[o.length] = l[i] := by
          intro E h q; subst q; simp
        exact this D hk h2
      refine Ev.ifp (by omega) (Ev.ifp (by omega) ?_)
      rw [e]
      refine Ev.step (fun k => by rw [packhorselaw13_OutboxCut.j3, if_pos (by simp)]) ?_
      rw [w1, w64 (x := (o.length : Int) + 1) (by omega) (by omega)]
      have k := ih (i + 1) (o ++ [l[i]]) (by omega) (by rw [h2, List.append_assoc]; rfl)
      rw [List.length_append, List.length_singleton] at k
      exact k
    · rw [List.filter_cons_of_neg (by simpa using c)] at h2
      have next : Ev (fun k => packhorselaw13_OutboxCut.j3 k now D (o.length : Int) l (l.length : Int) (i : Int) false l[i].f0 l[i].f1 l[i].f2 l[i].f3 l[i].f4 l[i].f5) true := by
        refine Ev.step (fun k => by rw [packhorselaw13_OutboxCut.j3, if_neg (by decide)]) (Ev.ifn c ?_)
        rw [w1]
        exact ih (i + 1) o (by omega) h2
      by_cases q : (o.length : Int) < (D.length : Int)
      · refine Ev.ifp q (Ev.ifp (by omega) ?_)
        have hm : D[o.length]'(by omega) ∈ D := List.getElem_mem _
        rw [rd_27 D o.length (by omega)]
        have hq : (D[o.length]'(by omega)).f2 ≤ now := by
          have : D[o.length]'(by omega) ∈ l.filter fun x => decide (x.f2 ≤ now) := by rw [← hD]; exact hm
          simpa using (List.mem_filter.1 this).2
        have ne : ((D[o.length]'(by omega)).f2 == l[i].f2) = false := by simp; omega
        rw [ne]
        simp only [Bool.false_and, Bool.and_false]
        exact next
      · exact Ev.ifn q next
end
theorem OutboxCut : packhorselaw13_OutboxCut.PureQ := by
  intro l n now hl _ _
  refine Ev.rounds (g := fun k => packhorselaw13_OutboxCut.f k l n now) ?_
  have fin : Ev (fun k => packhorselaw13_OutboxCut.j0 k l n now true) true := Ev.step (f := fun _ => some true) (fun k => by rw [packhorselaw13_OutboxCut.j0, if_pos rfl]) (Ev.now _)
  unfold packhorselaw13_OutboxCut.f
  refine Ev.bind alive (Ev.ifp rfl ?_)
  by_cases c60 : (l.length : Int) > 60
  · exact Ev.ifp c60 fin
  refine Ev.ifn c60 (Ev.bind (right_O l (fun x hx => (hl.2 x hx).2.2.2.2.2) (by omega)) ?_)
  cases hr : rightE 0 l
  · exact Ev.ifn (by decide) fin
  refine Ev.ifp rfl ?_
  by_cases c0 : n < 0
  · rw [decide_eq_true c0]; exact fin
  rw [decide_eq_false c0]
  refine Ev.step (fun k => by rw [packhorselaw13_OutboxCut.j0, if_neg (by decide)]) ?_
  have hn : l.length ≤ 60 := by omega
  have B := encO_byt l
  have rest : Ev (fun k => packhorselaw13_OutboxCut.j1 k l now) true := by
    refine Ev.step (fun k => by rw [packhorselaw13_OutboxCut.j1]) (Ev.bind (due_O l now (by omega)) ?_)
    exact cut_l l now hr hn _ rfl l.length 0 [] (by omega) rfl
  refine Ev.bind (put_O (rightE_mem hr) hn) ?_
  have L : (encO l).length ≤ 6000 := by
    have a := enc_len10 (n := l.length) (by omega)
    have b := encEs_len l (rightE_mem hr)
    unfold encO
    rw [List.length_append]; omega
  by_cases c : n < ((encO l).length : Int)
  rotate_left
  · exact Ev.ifn c rest
  refine Ev.ifp c (Ev.ifp (by omega) (Ev.ifp (by omega) ?_))
  have hlen : ((encO l).take n.toNat).length ≤ 6000 := by rw [List.length_take]; omega
  refine Ev.bindc (new_R _ (by omega)) ?_
  refine Ev.bind (take_O ((encO l).take n.toNat) false (byt_take _ B) (by omega)) ?_
  rcases takeO_got _ (byt_take n.toNat B) with ⟨r, bad, e⟩ | ⟨m, u, ok, hm, e, w⟩
  · rw [e]
    exact Ev.ifn (by simp) (Ev.ifn (by simp) rest)
  · exfalso
    have e1 : encO l = encO m ++ (u ++ (encO l).drop n.toNat) := by
      rw [← List.append_assoc, ← w, List.take_append_drop]
    have e2 := (begin_O ok hm hr (by omega) _ e1).2
    have e3 := congrArg List.length e2
    rw [List.length_append, List.length_drop, List.length_nil] at e3
    omega
end Go.Proofs.YtnacmehhmheooaaDoor.Pure
