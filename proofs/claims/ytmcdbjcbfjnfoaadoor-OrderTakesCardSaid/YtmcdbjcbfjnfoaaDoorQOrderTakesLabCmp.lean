
import Derived.Test.YtmcdbjcbfjnfoaaDoorQOrderTakesLabGo
namespace Go.Proofs.YtmcdbjcbfjnfoaaDoor.Pure
open Go.RowKit Go.Proofs.YtmcdbjcbfjnfoaaDoor Go.Proofs.YtmcdbjcbfjnfoaaDoor.PAll Go.Proofs.YtmcdbjcbfjnfoaaDoorW.PrintWords Go.Proofs.YtmcdbjcbfjnfoaaDoorW.PrintLast Go.Proofs.YtmcdbjcbfjnfoaaDoorW.PrintMore Go.Lib
theorem bt_nat (s : ByteArray) (i : Nat) (h : i < s.size) : bt s (i : Int) = ((s.get! i).toNat : Int) := by
  unfold bt
  rw [dif_pos (show (i : Int).toNat < s.size from h)]
  have : s.get! i = s[i]'h := get_at s i h
  rw [this]; rfl
theorem cb_range : ∀ a b : List UInt8, compareBytes a b = -1 ∨ compareBytes a b = 0 ∨ compareBytes a b = 1
  | [], [] => .inr (.inl rfl)
  | [], _ :: _ => .inl rfl
  | _ :: _, [] => .inr (.inr rfl)
  | x :: a, y :: b => by
    unfold compareBytes
    split
    · exact .inl rfl
    · split
      · exact .inr (.inr rfl)
      · exact cb_range a b
theorem drop_cons (s : ByteArray) (i : Nat) (h : i < s.size) : s.data.toList.drop i = s.get! i :: s.data.toList.drop (i + 1) := by
  have h2 : i < s.data.toList.length := by rw [Array.length_toList]; exact h
  rw [List.drop_eq_getElem_cons h2]
  congr 1
  show _ = s.data[i]!
  rw [getElem!_pos s.data i h, Array.getElem_toList]
theorem drop_none (s : ByteArray) (i : Nat) (h : ¬ i < s.size) : s.data.toList.drop i = [] := by
  rw [List.drop_eq_nil_iff, Array.length_toList]; show s.size ≤ i; omega
theorem compare_ref (s t : ByteArray) (hs : s.size ≤ 140737488351232) (_ht : t.size ≤ 140737488351232) : ∀ (g i : Nat), s.size ≤ i + g → i ≤ s.size → i ≤ t.size → Ev (fun k => packhorseref01_Compare.l0 k s t (i : Int)) (compareBytes (s.data.toList.drop i) (t.data.toList.drop i)) := by
  intro g
  induction g with
  | zero =>
    intro i h h1 h2
    refine Ev.step (fun k => rfl) (Ev.ifn (by omega) ?_)
    refine Ev.step (fun k => rfl) ?_
    rw [drop_none s i (by omega)]
    by_cases c : (s.size : Int) < (t.size : Int)
    · refine Ev.ifp c (Ev.konst ?_)
      rw [drop_cons t i (by omega)]; rfl
    · refine Ev.ifn c (Ev.ifn (by omega) (Ev.konst ?_))
      rw [drop_none t i (by omega)]; rfl
  | succ g ih =>
    intro i h h1 h2
    by_cases hi : i < s.size
    · refine Ev.step (fun k => rfl) (Ev.ifp (by omega) ?_)
      rw [drop_cons s i hi]
      by_cases hj : i < t.size
      · refine Ev.step (fun k => rfl) (Ev.ifp (decide_eq_true (by omega)) ?_)
        refine Ev.ifp (by omega) (Ev.ifp (by omega) (Ev.ifp (by omega) ?_))
        rw [drop_cons t i hj, bt_nat s i hi, bt_nat t i hj]
        by_cases c : (s.get! i).toNat < (t.get! i).toNat
        · refine Ev.ifp (by omega) (Ev.konst ?_)
          rw [compareBytes, if_pos (by rw [UInt8.lt_iff_toNat_lt]; exact c)]
        · refine Ev.ifn (by omega) ?_
          by_cases c2 : (t.get! i).toNat < (s.get! i).toNat
          · refine Ev.ifp (by omega) (Ev.konst ?_)
            rw [compareBytes, if_neg (by rw [UInt8.lt_iff_toNat_lt]; exact c), if_pos (by rw [UInt8.lt_iff_toNat_lt]; exact c2)]
          · refine Ev.ifn (by omega) ?_
            rw [compareBytes, if_neg (by rw [UInt8.lt_iff_toNat_lt]; exact c), if_neg (by rw [UInt8.lt_iff_toNat_lt]; exact c2)]
            have e : wrap64 ((i : Int) + 1) = ((i + 1 : Nat) : Int) := by rw [w64 (by omega) (by omega)]; omega
            rw [e]
            exact ih (i + 1) (by omega) (by omega) (by omega)
      · refine Ev.step (fun k => rfl) (Ev.ifn (by rw [decide_eq_false (by omega)]; decide) ?_)
        refine Ev.ifn (by omega) (Ev.ifp (by omega) (Ev.konst ?_))
        rw [drop_none t i hj]; rfl
    · refine Ev.step (fun k => rfl) (Ev.ifn (by omega) ?_)
      refine Ev.step (fun k => rfl) ?_
      rw [drop_none s i hi]
      by_cases c : (s.size : Int) < (t.size : Int)
      · refine Ev.ifp c (Ev.konst ?_)
        rw [drop_cons t i (by omega)]; rfl
      · refine Ev.ifn c (Ev.ifn (by omega) (Ev.konst ?_))
        rw [drop_none t i (by omega)]; rfl
theorem compare_f (s t : ByteArray) (hs : s.size ≤ 140737488351232) (ht : t.size ≤ 140737488351232) : Ev (fun k => packhorseref01_Compare.f k s t) (compareBytes s.data.toList t.data.toList) := by
  have := compare_ref s t hs ht s.size 0 (by omega) (by omega) (by omega)
  rw [List.drop_zero, List.drop_zero] at this
  exact this
end Go.Proofs.YtmcdbjcbfjnfoaaDoor.Pure
