
import Derived.Test.YtapfpdjcbeiibaaDoorQBatchBackLabGo
namespace Go.Proofs.YtapfpdjcbeiibaaDoor.Pure
open Go.RowKit Go.Proofs.YtapfpdjcbeiibaaDoor Go.Proofs.YtapfpdjcbeiibaaDoor.PAll Go.Proofs.YtapfpdjcbeiibaaDoorW.PrintWords Go.Proofs.YtapfpdjcbeiibaaDoorW.PrintLast Go.Proofs.YtapfpdjcbeiibaaDoorW.PrintMore
theorem rd_str (l : List ByteArray) (i : Nat) (h : i < l.length) : rdOf ByteArray.empty l (i : Int) = l[i] := by
  unfold rdOf
  rw [List.getD_eq_getElem?_getD, Int.toNat_natCast, List.getElem?_eq_getElem h]; rfl
theorem toList_inj {a b : ByteArray} (h : a.toList = b.toList) : a = b := by
  rw [Lib.toList_data, Lib.toList_data] at h
  cases a with | mk x => cases b with | mk y => exact congrArg ByteArray.mk (Array.toList_inj.1 h)
theorem toList_iff {a b : ByteArray} : a.toList = b.toList ↔ a = b := ⟨toList_inj, fun h => by rw [h]⟩
theorem eqs (a b : ByteArray) : (a.toList == b.toList) = decide (a = b) := by
  by_cases h : a = b
  · rw [h, decide_eq_true rfl, beq_self_eq_true]
  · rw [decide_eq_false h, beq_eq_false_iff_ne]
    exact fun e => h (toList_inj e)
def has (l : List ByteArray) (a : ByteArray) : Bool := l.any fun x => decide (x = a)
def at_ (l : List ByteArray) (a : ByteArray) : Int := if has l a = true then ((l.takeWhile fun x => !decide (x = a)).length : Int) else -1
theorem has_cons_ne {x a : ByteArray} {t : List ByteArray} (h : ¬ x = a) : has (x :: t) a = has t a := by simp [has, h]
theorem tw_cons_ne {x a : ByteArray} {t : List ByteArray} (h : ¬ x = a) : ((x :: t).takeWhile fun x => !decide (x = a)).length = (t.takeWhile fun x => !decide (x = a)).length + 1 := by simp [h]
theorem hit_cons {x a : ByteArray} {t : List ByteArray} (i : Nat) (h : x = a) : (if has (x :: t) a = true then ((i + ((x :: t).takeWhile fun x => !decide (x = a)).length : Nat) : Int) else -1) = (i : Int) := by simp [has, h]
theorem index_l (l : List ByteArray) (a : ByteArray) (hb : l.length ≤ 9223372036854775806) (d : Nat) : ∀ i : Nat, i + d = l.length →
    Ev (fun k => slices_Index_string_string.l0 k l a (l.length : Int) (i : Int)) (if has (l.drop i) a = true then ((i + ((l.drop i).takeWhile fun x => !decide (x = a)).length : Nat) : Int) else -1) := by
  induction d with
  | zero =>
    intro i h
    rw [List.drop_of_length_le (by omega)]
    refine Ev.step (f := fun _ => some (-1)) (fun k => ?_) (Ev.now _)
    rw [slices_Index_string_string.l0, if_neg (by omega)]
  | succ d ih =>
    intro i h
    have h1 : i < l.length := by omega
    refine Ev.step (fun k => by rw [slices_Index_string_string.l0, if_pos (by omega), if_pos (by omega), if_pos (by omega), rd_str l i h1, w64 (by omega) (by omega)]) ?_
    rw [List.drop_eq_getElem_cons h1]
    by_cases c : l[i] = a
    · refine Ev.ifp (toList_iff.2 c.symm) ?_
      rw [show (if has (l[i] :: l.drop (i + 1)) a = true then ((i + ((l[i] :: l.drop (i + 1)).takeWhile fun x => !decide (x = a)).length : Nat) : Int) else -1) = (i : Int) from hit_cons i c]
      exact Ev.now _
    · refine Ev.ifn (fun e => c (toList_inj e).symm) ?_
      have e1 : has (l[i] :: l.drop (i + 1)) a = has (l.drop (i + 1)) a := has_cons_ne c
      have e2 : ((l[i] :: l.drop (i + 1)).takeWhile fun x => !decide (x = a)).length = ((l.drop (i + 1)).takeWhile fun x => !decide (x = a)).length + 1 := tw_cons_ne c
      rw [e1, e2]
      have := ih (i + 1) (by omega)
      rw [show i + (((l.drop (i + 1)).takeWhile fun x => !decide (x = a)).length + 1) = i + 1 + ((l.drop (i + 1)).takeWhile fun x => !decide (x = a)).length by omega]
      exact this
theorem index_eq (l : List ByteArray) (a : ByteArray) (hb : l.length ≤ 9223372036854775806) : Ev (fun k => slices_Index_string_string.f k l a) (at_ l a) := by
  have := index_l l a hb l.length 0 (by omega)
  rw [List.drop_zero, Nat.zero_add] at this
  exact this
theorem contains_eq (l : List ByteArray) (a : ByteArray) (hb : l.length ≤ 9223372036854775806) : Ev (fun k => slices_Contains_string_string.f k l a) (has l a) := by
  unfold slices_Contains_string_string.f
  refine Ev.bind (index_eq l a hb) ?_
  have e : decide (at_ l a ≥ 0) = has l a := by
    unfold at_
    cases has l a
    · rfl
    · rw [if_pos rfl]; exact decide_eq_true (by omega)
  rw [e]
  exact Ev.now _
def grp (c z s : ByteArray) : Bool := lab c && (lab z && lab s)
def membs (l : List ByteArray) : Nat → Nat → Bool
  | 0, _ => true
  | d + 1, i => if h : i < l.length then lab l[i] && (!has (l.take i) l[i] && membs l d (i + 1)) else true
def okB (id wt born kind ph : Int) (c z s : ByteArray) (l : List ByteArray) : Bool :=
  decide (1 ≤ id ∧ id ≤ 1000000000000 ∧ 0 ≤ wt ∧ wt ≤ 1000000000000 ∧ 0 ≤ born ∧ born ≤ 1099511627776 ∧ l.length ≤ 64) && (grp c z s && (decide ((kind = 1 ∨ kind = 2) ∧ 1 ≤ ph ∧ ph ≤ 3) && membs l l.length 0))
theorem tally_R (x : Int) : tally_Right.f x = some (decide (0 ≤ x ∧ x ≤ 1000000000000)) := by
  unfold tally_Right.f
  by_cases c : 0 ≤ x
  · rw [if_pos (by omega)]; simp [c]
  · rw [if_neg (by omega), decide_eq_false (by omega)]
end Go.Proofs.YtapfpdjcbeiibaaDoor.Pure
