
import Derived.Test.YtnacmehhmheooaaDoorQOutboxBackOutCod
import Derived.Test.YtnacmehhmheooaaDoorQOutboxBackPlaceGo
set_option linter.unusedVariables false
namespace Go.Proofs.YtnacmehhmheooaaDoor.Pure
open Go.RowKit Go.Proofs.YtnacmehhmheooaaDoor Go.Proofs.YtnacmehhmheooaaDoor.PAll Go.Proofs.YtnacmehhmheooaaDoorW.PrintWords Go.Proofs.YtnacmehhmheooaaDoorW.PrintLast Go.Proofs.YtnacmehhmheooaaDoorW.PrintMore
theorem rightE_lt {l : List S27} : ∀ {a : Int}, rightE a l = true → ∀ x ∈ l, a < x.f0 := by
  induction l with
  | nil => intro a _ x hx; exact absurd hx (by simp)
  | cons y t ih =>
    intro a h x hx
    simp only [rightE, Bool.and_eq_true, decide_eq_true_eq] at h
    rcases List.mem_cons.1 hx with e | e
    · rw [e]; exact h.2.1
    · have := ih h.2.2 x e; omega
theorem rightE_rise {l : List S27} : ∀ {a : Int}, rightE a l = true → Rise l := by
  induction l with
  | nil => intro a _ i j hi; exact absurd hi (by simp)
  | cons y t ih =>
    intro a h i j hi hj hij
    simp only [rightE, Bool.and_eq_true, decide_eq_true_eq] at h
    cases j with
    | zero => omega
    | succ j =>
      cases i with
      | zero => simp only [List.getElem_cons_zero, List.getElem_cons_succ]; exact rightE_lt h.2.2 _ (List.getElem_mem _)
      | succ i => simp only [List.getElem_cons_succ]; exact ih h.2.2 i j (by simpa using hi) (by simpa using hj) (by omega)
theorem pos_last (x : S27) : ∀ l : List S27, (∀ y ∈ l, y.f0 < x.f0) → pos (l ++ [x]) x.f0 = l.length := by
  intro l
  induction l with
  | nil => intro _; simp [pos]
  | cons y t ih =>
    intro h
    have e : pos (y :: t ++ [x]) x.f0 = pos (t ++ [x]) x.f0 + 1 := by simp [pos, h y (by simp)]
    rw [e, ih (fun z hz => h z (by simp [hz])), List.length_cons]
theorem hit_at (l : List S27) (key : Int) (h : pos l key < l.length) (e : l[pos l key].f0 = key) : hit l key = true := by
  unfold hit; rw [dif_pos h, e]; simp
theorem get_last (l : List S27) (x : S27) (i : Nat) (hi : i < (l ++ [x]).length) (e : i = l.length) : (l ++ [x])[i] = x := by subst e; simp
theorem hit_last (l : List S27) (x : S27) (h : ∀ y ∈ l, y.f0 < x.f0) : hit (l ++ [x]) x.f0 = true := by
  have e := pos_last x l h
  have hl : pos (l ++ [x]) x.f0 < (l ++ [x]).length := by rw [e]; simp
  refine hit_at _ _ hl ?_
  rw [get_last l x _ hl e]
theorem rise_last (l : List S27) (x : S27) (hl : Rise l) (h : ∀ y ∈ l, y.f0 < x.f0) : Rise (l ++ [x]) := by
  intro i j hi hj hij
  rw [List.length_append, List.length_singleton] at hi hj
  have hi' : i < l.length := by omega
  rw [List.getElem_append_left hi']
  by_cases c : j < l.length
  · rw [List.getElem_append_left c]; exact hl i j hi' c hij
  · rw [get_last l x j _ (by omega)]; exact h _ (List.getElem_mem _)
end Go.Proofs.YtnacmehhmheooaaDoor.Pure
