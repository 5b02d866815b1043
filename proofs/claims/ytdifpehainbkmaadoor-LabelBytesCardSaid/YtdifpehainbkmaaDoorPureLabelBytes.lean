/- Layer 01 (label), LabelBytes: a label has no more than two bytes for each sign, no fewer than one; joined with others it has no blank of its own. The one condition is 'laid' (the two tables of unicode/utf8, tied). -/
import Derived.Test.YtdifpehainbkmaaDoorLabSplit
namespace Go.Proofs.YtdifpehainbkmaaDoor.Pure
open Go.RowKit Go.Proofs.YtdifpehainbkmaaDoor Go.Proofs.YtdifpehainbkmaaDoor.PAll Go.Proofs.YtdifpehainbkmaaDoorW.PrintWords Go.Proofs.YtdifpehainbkmaaDoorW.PrintLast Go.Proofs.YtdifpehainbkmaaDoorW.PrintMore

theorem alive_ : packhorselaw01_labelAlive.f = some true := by decide +kernel
theorem signs_some (s : ByteArray) (h : s.size ≤ 1000) : label_Signs.f s = some (Lab.signs s) := by
  unfold label_Signs.f; rw [if_pos (by omega)]
theorem cb_zero : ∀ a b : List UInt8, Lib.compareBytes a b = 0 ↔ a = b
  | [], [] => by simp [Lib.compareBytes]
  | [], _ :: _ => by simp [Lib.compareBytes]
  | _ :: _, [] => by simp [Lib.compareBytes]
  | x :: a, y :: b => by
    rw [Lib.compareBytes]
    by_cases h : x < y
    · rw [if_pos h]
      refine ⟨fun e => (by cases e), fun e => ?_⟩
      injection e with e1 _
      rw [e1] at h
      exact absurd h (UInt8.lt_irrefl _)
    · rw [if_neg h]
      by_cases h2 : y < x
      · rw [if_pos h2]
        refine ⟨fun e => (by cases e), fun e => ?_⟩
        injection e with e1 _
        rw [e1] at h2
        exact absurd h2 (UInt8.lt_irrefl _)
      · rw [if_neg h2, cb_zero a b]
        have e : x = y := by
          rw [UInt8.lt_iff_toNat_lt] at h h2
          apply UInt8.toNat_inj.1; omega
        subst e
        exact ⟨fun q => by rw [q], fun q => by injection q⟩
theorem spS_jn (l : List ByteArray) (hne : l ≠ []) (h : ∀ x ∈ l, lab x = true) : spS (mk (jn l)) = (l, 0) := by
  unfold spS
  show (if jn l = [] then _ else chk [] ((spl [] (jn l)).map mk)) = _
  cases l with
  | nil => exact absurd rfl hne
  | cons x r =>
    have hx := lab_facts x (h x List.mem_cons_self)
    have hne : jn (x :: r) ≠ [] := by
      intro q
      have h1 : x.data.toList = [] := by
        cases r with
        | nil => rwa [jn_one] at q
        | cons y r => rw [jn_cons] at q; exact (List.append_eq_nil_iff.1 q).1
      have := len_size x
      rw [h1, List.length_nil] at this
      omega
    rw [if_neg hne, spl_jn _ (by simp) (fun y hy => (lab_facts y (h y hy)).1)]
    unfold chk
    rw [if_pos (List.all_eq_true.2 h)]; rfl
theorem bytes_j (s t : ByteArray) (hs : lab s = true) (ht : lab t = true) : Ev (fun k => packhorselaw01_LabelBytes.j0 k s t false) true := by
  obtain ⟨s1, s2, s3, s4, s5, s6⟩ := lab_facts s hs
  obtain ⟨t1, t2, t3, t4, t5, t6⟩ := lab_facts t ht
  have hall : ∀ x ∈ [s, t, s], lab x = true := by
    intro x hx
    simp only [List.mem_cons, List.not_mem_nil, or_false] at hx
    rcases hx with rfl | rfl | rfl <;> assumption
  have hsz : ∀ x ∈ [s, t, s], x.size ≤ 1000 := by
    intro x hx
    simp only [List.mem_cons, List.not_mem_nil, or_false] at hx
    rcases hx with rfl | rfl | rfl <;> omega
  have hj := jn_len [s, t, s] 1000 hsz
  simp only [List.length_cons, List.length_nil] at hj
  refine Ev.step (fun k => by rw [packhorselaw01_LabelBytes.j0, if_neg (by decide)]) ?_
  refine Ev.bindc (signs_some s (by omega)) (Ev.bindc (join_eq [s, t, s] (by simp only [List.length_cons, List.length_nil]; omega) hsz) (Ev.bind (split_eq _ (by rw [mk_size]; omega)) ?_))
  rw [spS_jn _ (by simp) hall, s2]
  refine Ev.ifp (by omega) (Ev.ifp (by rw [w64 (by omega) (by omega)]; omega) (Ev.ifp rfl (Ev.ifp rfl (Ev.ifp (by simp only [List.length_cons, List.length_nil]; omega) (Ev.ifp rfl (Ev.ifp (by simp only [List.length_cons, List.length_nil]; omega) (Ev.ifp rfl (Ev.ifp (by simp only [List.length_cons, List.length_nil]; omega) (Ev.ifp rfl ?_)))))))))
  have e : label_Compare.f s t = some (Lib.compareBytes s.data.toList t.data.toList) := rfl
  refine Ev.bindc e (Ev.konst ?_)
  have h2 := cb_zero s.data.toList t.data.toList
  rw [Lib.toList_data, Lib.toList_data]
  by_cases c : s.data.toList = t.data.toList
  · rw [h2.2 c, c, beq_self_eq_true, beq_self_eq_true]; rfl
  · have h3 : ¬ Lib.compareBytes s.data.toList t.data.toList = 0 := fun q => c (h2.1 q)
    rw [beq_eq_false_iff_ne.2 h3, beq_eq_false_iff_ne.2 c]; rfl
theorem LabelBytes : packhorselaw01_LabelBytes.PureQ := by
  intro s t hs ht
  refine Ev.rounds ?_
  refine Ev.bindc alive_ (Ev.ifp rfl (Ev.bindc (right_eq s hs) ?_))
  have fin : Ev (fun k => packhorselaw01_LabelBytes.j0 k s t true) true := Ev.step (f := fun _ => some true) (fun k => by rw [packhorselaw01_LabelBytes.j0, if_pos rfl]) (Ev.now _)
  by_cases c : lab s = true
  · refine Ev.ifp c (Ev.bindc (right_eq t ht) ?_)
    by_cases d : lab t = true
    · rw [d]; exact bytes_j s t c d
    · rw [Bool.not_eq_true _ |>.mp d]; exact fin
  · exact Ev.ifn c fin
end Go.Proofs.YtdifpehainbkmaaDoor.Pure
