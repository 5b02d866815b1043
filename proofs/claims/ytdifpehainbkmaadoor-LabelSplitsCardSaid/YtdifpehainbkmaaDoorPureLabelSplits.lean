/- Layer 01 (label), LabelSplits: any text's labels; any labels as a text, and back. The one condition is 'laid' (the two tables of unicode/utf8, tied). -/
import Derived.Test.YtdifpehainbkmaaDoorLabSplit
namespace Go.Proofs.YtdifpehainbkmaaDoor.Pure
open Go.RowKit Go.Proofs.YtdifpehainbkmaaDoor Go.Proofs.YtdifpehainbkmaaDoor.PAll Go.Proofs.YtdifpehainbkmaaDoorW.PrintWords Go.Proofs.YtdifpehainbkmaaDoorW.PrintLast Go.Proofs.YtdifpehainbkmaaDoorW.PrintMore

theorem alive_ : packhorselaw01_labelAlive.f = some true := by decide +kernel
theorem spS_jn (l : List ByteArray) (h : ∀ x ∈ l, lab x = true) : spS (mk (jn l)) = (l, 0) := by
  unfold spS
  show (if jn l = [] then _ else chk [] ((spl [] (jn l)).map mk)) = _
  cases l with
  | nil => rfl
  | cons x r =>
    have hx := lab_facts x (h x List.mem_cons_self)
    have hne : jn (x :: r) ≠ [] := by
      intro q
      have h1 : x.data.toList = [] := by
        cases r with
        | nil => rwa [jn_one] at q
        | cons y r => rw [jn_cons] at q; exact (List.append_eq_nil_iff.1 q).1
      have := len_size x
      rw [h1, List.length_nil] at this
      omega
    rw [if_neg hne, spl_jn _ (by simp) (fun y hy => (lab_facts y (h y hy)).1)]
    unfold chk
    rw [if_pos (List.all_eq_true.2 h)]; rfl
theorem splits_l1 (l : List ByteArray) (hl : l.length ≤ 20) (hs : ∀ x ∈ l, x.size ≤ 60) : ∀ (g i : Nat), l.length = i + g → (∀ x ∈ l.take i, lab x = true) →
    Ev (fun k => packhorselaw01_LabelSplits.l1 k l (mk (jn l)) l (l.length : Int) (i : Int)) true := by
  intro g
  induction g with
  | zero =>
    intro i h hp
    rw [List.take_of_length_le (by omega)] at hp
    refine Ev.step (fun k => rfl) (Ev.ifn (by omega) ?_)
    have hj := jn_len l 60 hs
    have hj2 : (jn l).length ≤ 20 * 61 := Nat.le_trans hj (Nat.mul_le_mul_right _ hl)
    refine Ev.bind (split_eq _ (by rw [mk_size]; omega)) ?_
    rw [spS_jn l hp]
    exact Ev.ifp rfl (Ev.bind (same_refl l (by omega)) (Ev.now _))
  | succ g ih =>
    intro i h hp
    have hi : i < l.length := by omega
    have := hs _ (List.getElem_mem hi)
    refine Ev.step (fun k => rfl) (Ev.ifp (by omega) (Ev.ifp (by omega) (Ev.ifp (by omega) ?_)))
    rw [rdOf_get l i hi, w64 (by omega) (by omega)]
    refine Ev.bind (right_ref _ (by omega)) ?_
    by_cases c : lab l[i] = true
    · refine Ev.ifp c (ih (i + 1) (by omega) ?_)
      rw [List.take_succ_eq_append_getElem hi]
      intro x hx
      rcases List.mem_append.1 hx with q | q
      · exact hp x q
      · rw [List.mem_singleton.1 q]; exact c
    · exact Ev.ifn c (Ev.now _)
theorem splits_l0 (l : List ByteArray) (hl : l.length ≤ 20) : ∀ (g i : Nat), l.length = i + g → (∀ x ∈ l.take i, x.size ≤ 60) →
    Ev (fun k => packhorselaw01_LabelSplits.l0 k l l (l.length : Int) (i : Int)) true := by
  intro g
  induction g with
  | zero =>
    intro i h hp
    rw [List.take_of_length_le (by omega)] at hp
    refine Ev.step (fun k => rfl) (Ev.ifn (by omega) ?_)
    refine Ev.bindc (join_eq l (by omega) (fun x hx => by have := hp x hx; omega)) ?_
    refine Ev.bind (join_ref l (by omega) (fun x hx => by have := hp x hx; omega)) ?_
    exact Ev.ifp rfl (splits_l1 l hl hp l.length 0 (by omega) (by intro x hx; cases hx))
  | succ g ih =>
    intro i h hp
    have hi : i < l.length := by omega
    refine Ev.step (fun k => rfl) (Ev.ifp (by omega) (Ev.ifp (by omega) (Ev.ifp (by omega) ?_)))
    rw [rdOf_get l i hi, w64 (by omega) (by omega)]
    by_cases c : (l[i].size : Int) > 60
    · exact Ev.ifp c (Ev.now _)
    · refine Ev.ifn c (ih (i + 1) (by omega) ?_)
      rw [List.take_succ_eq_append_getElem hi]
      intro x hx
      rcases List.mem_append.1 hx with q | q
      · exact hp x q
      · rw [List.mem_singleton.1 q]; omega
theorem LabelSplits : packhorselaw01_LabelSplits.PureQ := by
  intro s l hs hl
  refine Ev.rounds ?_
  refine Ev.bindc alive_ (Ev.ifp rfl ?_)
  have fin : Ev (fun k => packhorselaw01_LabelSplits.j0 k s l true) true := Ev.step (f := fun _ => some true) (fun k => by rw [packhorselaw01_LabelSplits.j0, if_pos rfl]) (Ev.now _)
  by_cases c : (s.size : Int) > 500
  · exact Ev.ifp c fin
  · refine Ev.ifn c ?_
    by_cases d : (l.length : Int) > 20
    · rw [decide_eq_true d]; exact fin
    · rw [decide_eq_false d]
      refine Ev.step (fun k => by rw [packhorselaw01_LabelSplits.j0, if_neg (by decide)]) ?_
      refine Ev.bind (split_eq s (by omega)) (Ev.bind (split_ref s (by omega)) ?_)
      have hb : (spS s).1.length ≤ 4294967296 := by
        unfold spS
        split
        · simp
        · unfold chk
          split
          · have := spl_many s.data.toList []
            have := len_size s
            rw [List.nil_append, List.length_map]; omega
          · simp
      refine Ev.bind (same_refl _ hb) (Ev.ifp rfl ?_)
      rw [bne_self_eq_false]
      refine Ev.step (fun k => by rw [packhorselaw01_LabelSplits.j1, if_neg (by decide)]) ?_
      exact splits_l0 l (by omega) l.length 0 (by omega) (by intro x hx; cases hx)
end Go.Proofs.YtdifpehainbkmaaDoor.Pure
