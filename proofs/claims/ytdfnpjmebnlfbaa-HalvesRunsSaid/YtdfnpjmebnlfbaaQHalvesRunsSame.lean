
import Derived.Test.YtdfnpjmebnlfbaaQHalvesRunsPAllx1
namespace Go.Proofs.YtdfnpjmebnlfbaaW.PrintMore
end Go.Proofs.YtdfnpjmebnlfbaaW.PrintMore
set_option linter.unusedVariables false
namespace Go.Proofs.Ytdfnpjmebnlfbaa.PAll
open Go Go.Proofs Go.RowKit Go.Proofs.YtdfnpjmebnlfbaaW.PrintWords Go.Proofs.YtdfnpjmebnlfbaaW.PrintLast Go.Proofs.YtdfnpjmebnlfbaaW.PrintMore
theorem w64 {x : Int} (h0 : -9223372036854775808 ≤ x) (h1 : x ≤ 9223372036854775807) : wrap64 x = x := by
  unfold wrap64; omega
theorem Ev.ifp {α : Type} {c : Prop} [Decidable c] {f g : Nat → Option α} {r : α} (h : c) (k : Ev f r) : Ev (fun n => if c then f n else g n) r := by
  have e : (fun n => if c then f n else g n) = f := funext fun n => if_pos h
  rw [e]; exact k
theorem Ev.ifn {α : Type} {c : Prop} [Decidable c] {f g : Nat → Option α} {r : α} (h : ¬c) (k : Ev g r) : Ev (fun n => if c then f n else g n) r := by
  have e : (fun n => if c then f n else g n) = g := funext fun n => if_neg h
  rw [e]; exact k
theorem rd_str (l : List ByteArray) (i : Nat) (h : i < l.length) : rdOf ByteArray.empty l (i : Int) = l[i] := by
  unfold rdOf
  rw [List.getD_eq_getElem?_getD, Int.toNat_natCast, List.getElem?_eq_getElem h]; rfl
theorem toList_inj {a b : ByteArray} (h : a.toList = b.toList) : a = b := by
  rw [ByteArray.toList_eq, ByteArray.toList_eq] at h
  cases a with | mk x => cases b with | mk y => exact congrArg ByteArray.mk (Array.toList_inj.1 h)
theorem toList_iff {a b : ByteArray} : a.toList = b.toList ↔ a = b := ⟨toList_inj, fun h => by rw [h]⟩
theorem dec_cons {x y : ByteArray} {t u : List ByteArray} (h : x = y) : decide (x :: t = y :: u) = decide (t = u) := by subst h; simp
theorem same_l (l m : List ByteArray) (hl : l.length = m.length) (hb : l.length ≤ 9223372036854775806) (d : Nat) : ∀ i : Nat, i + d = l.length →
    Ev (fun k => packhorseref01_Same.l0 k l m (l.length : Int) (i : Int)) (decide (l.drop i = m.drop i)) := by
  induction d with
  | zero =>
    intro i h
    rw [List.drop_of_length_le (by omega), List.drop_of_length_le (by omega)]
    refine Ev.step (f := fun _ => some true) (fun k => ?_) (Ev.now _)
    rw [packhorseref01_Same.l0, if_neg (by omega)]
  | succ d ih =>
    intro i h
    have h1 : i < l.length := by omega
    have h2 : i < m.length := by omega
    refine Ev.step (fun k => by rw [packhorseref01_Same.l0, if_pos (by omega), if_pos (by omega), if_pos (by omega), if_pos (by omega), rd_str l i h1, rd_str m i h2, w64 (by omega) (by omega)]) ?_
    rw [List.drop_eq_getElem_cons h1, List.drop_eq_getElem_cons h2]
    by_cases c : l[i] = m[i]
    · refine Ev.ifp (toList_iff.2 c) ?_
      rw [show decide (l[i] :: l.drop (i + 1) = m[i] :: m.drop (i + 1)) = decide (l.drop (i + 1) = m.drop (i + 1)) from dec_cons c]
      exact ih (i + 1) (by omega)
    · refine Ev.ifn (fun e => c (toList_inj e)) ?_
      rw [decide_eq_false (by intro e; injection e with e1 _; exact c e1)]
      exact Ev.now _
theorem same_eq (l m : List ByteArray) (hb : l.length ≤ 9223372036854775806) : Ev (fun k => packhorseref01_Same.f k l m) (decide (l = m)) := by
  unfold packhorseref01_Same.f
  by_cases c : l.length = m.length
  · refine Ev.ifp (by omega) ?_
    exact same_l l m c hb l.length 0 (by omega)
  · refine Ev.ifn (by omega) ?_
    rw [decide_eq_false (fun e => c (by rw [e]))]
    exact Ev.now _
theorem same_calls (A0 : Option Addr) (c0 : Nat) (l : List ByteArray) (A1 : Option Addr) (c1 : Nat) (m : List ByteArray) (w : World) (hr0 : Kd.C Kd.string w A0 l.length l) (hc0 : l.length ≤ c0) (hr1 : Kd.C Kd.string w A1 m.length m) (hc1 : m.length ≤ c1) (hb : l.length ≤ 1000000000) :
    Calls Try.prog 14 #[.slice A0 l.length c0, .slice A1 m.length c1] w fun e w' => e = .returned (.bool (decide (l = m))) ∧ Below w.heap.size w w' := by
  obtain ⟨k, hk⟩ := (same_eq l m (by omega)).rounds
  refine (packhorseref01_Same.calls k A0 c0 l A1 c1 m _ w hr0 hc0 hr1 hc1 hk).mono ?_
  rintro e w' ⟨rfl, hd⟩
  exact ⟨rfl, hd.below⟩
theorem same_refl_calls (A0 : Option Addr) (c0 : Nat) (l : List ByteArray) (A1 : Option Addr) (c1 : Nat) (w : World) (hr0 : Kd.C Kd.string w A0 l.length l) (hc0 : l.length ≤ c0) (hr1 : Kd.C Kd.string w A1 l.length l) (hc1 : l.length ≤ c1) (hb : l.length ≤ 1000000000) :
    Calls Try.prog 14 #[.slice A0 l.length c0, .slice A1 l.length c1] w fun e w' => e = .returned (.bool true) ∧ Below w.heap.size w w' := by
  have h := same_calls A0 c0 l A1 c1 l w hr0 hc0 hr1 hc1 hb
  rw [decide_eq_true rfl] at h
  exact h
end Go.Proofs.Ytdfnpjmebnlfbaa.PAll
