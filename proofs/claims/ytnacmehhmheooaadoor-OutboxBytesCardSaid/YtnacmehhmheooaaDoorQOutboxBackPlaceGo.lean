
import Derived.Test.YtnacmehhmheooaaDoorQOutboxBackLabGo
set_option linter.unusedVariables false
namespace Go.Proofs.YtnacmehhmheooaaDoor.Pure
open Go.RowKit Go.Proofs.YtnacmehhmheooaaDoor Go.Proofs.YtnacmehhmheooaaDoor.PAll Go.Proofs.YtnacmehhmheooaaDoorW.PrintWords Go.Proofs.YtnacmehhmheooaaDoorW.PrintLast Go.Proofs.YtnacmehhmheooaaDoorW.PrintMore
theorem cmp_eq (a b : Int) : cmp_Compare_int64.f a b = some (if a < b then -1 else if a > b then 1 else 0) := by
  unfold cmp_Compare_int64.f cmp_isNaN_int64.f
  simp only [bne_self_eq_false, Option.bind_some, Bool.false_eq_true, if_false]
  by_cases c : a < b
  · rw [if_pos c, if_pos c]
  · rw [if_neg c, if_neg c]
    by_cases c2 : a > b
    · rw [if_pos c2, if_pos c2]
    · rw [if_neg c2, if_neg c2]
theorem rd_27 (l : List S27) (i : Nat) (h : i < l.length) : rd_T27 l (i : Int) = l[i] := by
  unfold rd_T27
  simp [List.getD_eq_getElem?_getD, List.getElem?_eq_getElem h]
def Rise (l : List S27) : Prop := ∀ (i j : Nat) (hi : i < l.length) (hj : j < l.length), i < j → l[i].f0 < l[j].f0
def pos (l : List S27) (key : Int) : Nat := (l.takeWhile fun x => decide (x.f0 < key)).length
theorem rise_tail {x : S27} {t : List S27} (h : Rise (x :: t)) : Rise t := fun i j hi hj hij => by
  have := h (i + 1) (j + 1) (by simp; omega) (by simp; omega) (by omega)
  simpa using this
theorem pos_iff (key : Int) : ∀ l : List S27, Rise l → ∀ (j : Nat) (hj : j < l.length), l[j].f0 < key ↔ j < pos l key := by
  intro l
  induction l with
  | nil => intro _ j hj; exact absurd hj (by simp)
  | cons x t ih =>
    intro h j hj
    by_cases c : x.f0 < key
    · have e : pos (x :: t) key = pos t key + 1 := by simp [pos, c]
      rw [e]
      cases j with
      | zero => simp [c]
      | succ j =>
        have := ih (rise_tail h) j (by simp at hj; omega)
        simp only [List.getElem_cons_succ]
        omega
    · have e : pos (x :: t) key = 0 := by simp [pos, c]
      rw [e]
      cases j with
      | zero => simp [c]
      | succ j =>
        have := h 0 (j + 1) (by simp) hj (by omega)
        simp only [List.getElem_cons_zero] at this
        constructor
        · intro q; omega
        · intro q; omega
theorem pos_le (key : Int) : ∀ l : List S27, pos l key ≤ l.length := by
  intro l
  induction l with
  | nil => exact Nat.le_refl _
  | cons x t ih =>
    by_cases c : x.f0 < key
    · have e : pos (x :: t) key = pos t key + 1 := by simp [pos, c]
      rw [e, List.length_cons]; omega
    · have e : pos (x :: t) key = 0 := by simp [pos, c]
      rw [e]; omega
def hit (l : List S27) (key : Int) : Bool := if h : pos l key < l.length then decide ((l[pos l key]'h).f0 = key) else false
theorem search (l : List S27) (key : Int) (hr : Rise l) (hb : l.length ≤ 4611686018427387904) (d : Nat) : ∀ (i j : Nat), j ≤ i + d → i ≤ pos l key → pos l key ≤ j → j ≤ l.length →
    Ev (fun k => api_Effect_int64.l0 k l key (l.length : Int) (i : Int) (j : Int)) ((pos l key : Int), hit l key) := by
  have leaf : ∀ (i j : Nat), ¬ i < j → i ≤ pos l key → pos l key ≤ j → Ev (fun k => api_Effect_int64.l0 k l key (l.length : Int) (i : Int) (j : Int)) ((pos l key : Int), hit l key) := by
    intro i j h1 h2 h3
    obtain rfl : i = pos l key := by omega
    refine Ev.step (fun k => by rw [api_Effect_int64.l0, if_neg (by omega)]) ?_
    by_cases c : pos l key < l.length
    · refine Ev.ifp (by omega) (Ev.ifp (by omega) (Ev.ifp (by omega) ?_))
      rw [rd_27 l _ c]
      have hge : ¬ l[pos l key].f0 < key := fun q => by have := (pos_iff key l hr _ c).1 q; omega
      refine Ev.bindc (a := if l[pos l key].f0 > key then 1 else 0) (by unfold outbox_place_1.f; rw [cmp_eq, if_neg hge]; rfl) ?_
      rw [show hit l key = decide (l[pos l key].f0 = key) from dif_pos c]
      by_cases e : l[pos l key].f0 > key
      · rw [if_pos e, decide_eq_false (by omega)]; exact Ev.now _
      · rw [if_neg e, decide_eq_true (by omega)]; exact Ev.now _
    · refine Ev.ifn (by omega) ?_
      rw [show hit l key = false from dif_neg c]
      exact Ev.now _
  induction d with
  | zero => intro i j h1 h2 h3 h4; exact leaf i j (by omega) h2 h3
  | succ d ih =>
    intro i j h1 h2 h3 h4
    by_cases c : i < j
    rotate_left
    · exact leaf i j c h2 h3
    have hm : wrap64 ((IntKind.u64.wrap (wrap64 ((i : Int) + (j : Int)))) / 2) = (((i + j) / 2 : Nat) : Int) := by
      rw [w64 (x := (i : Int) + (j : Int)) (by omega) (by omega)]
      have : IntKind.u64.wrap ((i : Int) + (j : Int)) = (i : Int) + (j : Int) := by
        simp [IntKind.wrap, IntKind.bits, IntKind.signed]; omega
      rw [this, w64 (by omega) (by omega)]; omega
    have hlt : (i + j) / 2 < l.length := by omega
    refine Ev.step (fun k => by rw [api_Effect_int64.l0, if_pos (by omega), hm, if_pos (by omega), if_pos (by omega), rd_27 l _ hlt]) ?_
    have iff := pos_iff key l hr _ hlt
    refine Ev.bindc (a := if l[(i + j) / 2].f0 < key then -1 else if l[(i + j) / 2].f0 > key then 1 else 0) (by unfold outbox_place_1.f; rw [cmp_eq]; rfl) ?_
    by_cases q : l[(i + j) / 2].f0 < key
    · rw [if_pos q]
      have hp := iff.1 q
      refine Ev.ifp (by decide) ?_
      rw [w64 (by omega) (by omega), show ((((i + j) / 2 : Nat) : Int) + 1) = (((i + j) / 2 + 1 : Nat) : Int) from by omega]
      exact ih _ j (by omega) (by omega) h3 h4
    · rw [if_neg q]
      have hp : ¬ (i + j) / 2 < pos l key := fun z => q (iff.2 z)
      refine Ev.ifn (by split <;> omega) ?_
      exact ih i _ (by omega) h2 (by omega) (by omega)
theorem place_eq (l : List S27) (key : Int) (hr : Rise l) (hb : l.length ≤ 4611686018427387904) : Ev (fun k => outbox_place.f k l key) ((pos l key : Int), hit l key) := by
  unfold outbox_place.f api_Effect_int64.f
  exact Ev.bind (search l key hr hb l.length 0 l.length (by omega) (by omega) (pos_le key l) (Nat.le_refl _)) (Ev.now _)
end Go.Proofs.YtnacmehhmheooaaDoor.Pure
