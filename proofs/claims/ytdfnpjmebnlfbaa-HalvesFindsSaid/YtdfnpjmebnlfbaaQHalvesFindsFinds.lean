
import Derived.Test.YtdfnpjmebnlfbaaQHalvesFindsOne
namespace Go.Proofs.YtdfnpjmebnlfbaaW.PrintMore
end Go.Proofs.YtdfnpjmebnlfbaaW.PrintMore
set_option linter.unusedVariables false
namespace Go.Proofs.Ytdfnpjmebnlfbaa.PAll
open Go Go.Proofs Go.RowKit Go.Proofs.YtdfnpjmebnlfbaaW.PrintWords Go.Proofs.YtdfnpjmebnlfbaaW.PrintLast Go.Proofs.YtdfnpjmebnlfbaaW.PrintMore
abbrev sN : ByteArray := ⟨#[110]⟩
def nmF (i : Nat) : ByteArray := (sN ++ Utf8.encode (97 + (i : Int) / 26)) ++ Utf8.encode (97 + (i : Int) % 26)
def namesF (m : Nat) : List ByteArray := (List.range m).map nmF
def wrongF (bl : List Bool) (m : Nat) : List ByteArray := ((List.range m).filter (fun i => bl.getD i false)).map nmF
def rightF (bl : List Bool) (m : Nat) : List ByteArray := ((List.range m).filter (fun i => !bl.getD i false)).map nmF
theorem namesF_length (m : Nat) : (namesF m).length = m := by simp [namesF]
theorem namesF_succ (m : Nat) : namesF (m + 1) = namesF m ++ [nmF m] := by simp [namesF, List.range_succ]
theorem wrongF_succ (bl : List Bool) (m : Nat) : wrongF bl (m + 1) = wrongF bl m ++ (if bl.getD m false = true then [nmF m] else []) := by
  unfold wrongF
  rw [List.range_succ, List.filter_append, List.map_append]
  by_cases c : bl.getD m false = true
  · rw [if_pos c, List.filter_cons_of_pos (by rw [c])]; rfl
  · rw [if_neg c, List.filter_cons_of_neg (p := fun i => bl.getD i false) (a := m) (l := []) c]; rfl
theorem rightF_succ (bl : List Bool) (m : Nat) : rightF bl (m + 1) = rightF bl m ++ (if bl.getD m false = true then [] else [nmF m]) := by
  unfold rightF
  rw [List.range_succ, List.filter_append, List.map_append]
  by_cases c : bl.getD m false = true
  · rw [if_pos c, List.filter_cons_of_neg (by rw [c]; decide)]; rfl
  · rw [if_neg c, List.filter_cons_of_pos (by simpa using c)]; rfl
theorem wrongF_le (bl : List Bool) (m : Nat) : (wrongF bl m).length ≤ m := by
  unfold wrongF
  rw [List.length_map]
  exact Nat.le_trans (List.length_filter_le ..) (by rw [List.length_range]; exact Nat.le_refl _)
theorem rightF_le (bl : List Bool) (m : Nat) : (rightF bl m).length ≤ m := by
  unfold rightF
  rw [List.length_map]
  exact Nat.le_trans (List.length_filter_le ..) (by rw [List.length_range]; exact Nat.le_refl _)
theorem nmF_data {i : Nat} (h : i < 200) : (nmF i).data.toList = [110, UInt8.ofNat (97 + i / 26), UInt8.ofNat (97 + i % 26)] := by
  unfold nmF
  rw [show (i : Int) % 26 = ((i % 26 : Nat) : Int) from rfl, show (i : Int) / 26 = ((i / 26 : Nat) : Int) from rfl, enc_letter _ (by omega), enc_letter _ (by omega)]
  rfl
theorem nmF_inj {i j : Nat} (hi : i < 200) (hj : j < 200) (h : nmF i = nmF j) : i = j := by
  have h1 := nmF_data hi
  rw [h, nmF_data hj] at h1
  simp only [List.cons.injEq, and_true, true_and] at h1
  have a := u8_inj (by omega) (by omega) h1.1
  have b := u8_inj (by omega) (by omega) h1.2
  omega
theorem namesF_nodup {m : Nat} (h : m ≤ 200) : (namesF m).Nodup := nodup_map (fun i j hi hj e => nmF_inj (by omega) (by omega) e)
theorem namesF_size {m : Nat} (h : m ≤ 200) : ∀ x ∈ namesF m, x.size ≤ maxLen := by
  intro x hx
  unfold namesF at hx
  obtain ⟨i, hi, rfl⟩ := List.mem_map.1 hx
  have hi := List.mem_range.1 hi
  have e : (nmF i).size = 3 := by
    show (nmF i).data.size = 3
    rw [← Array.length_toList, nmF_data (by omega)]
    rfl
  rw [e]; unfold maxLen; omega
def bdF (w : List ByteArray) (s : ByteArray) : Bool := w.any (fun x => s == x)
theorem bdF_at {bl : List Bool} {m i : Nat} (hm : m ≤ 200) (hi : i < m) : bdF (wrongF bl m) (nmF i) = bl.getD i false := by
  unfold bdF
  cases c : bl.getD i false with
  | true =>
    rw [List.any_eq_true]
    exact ⟨nmF i, List.mem_map.2 ⟨i, List.mem_filter.2 ⟨List.mem_range.2 hi, c⟩, rfl⟩, beq_self_eq_true _⟩
  | false =>
    rw [List.any_eq_false]
    intro x hx he
    obtain ⟨j, hj, rfl⟩ := List.mem_map.1 hx
    obtain ⟨hj1, hj2⟩ := List.mem_filter.1 hj
    have hj1 := List.mem_range.1 hj1
    obtain rfl := nmF_inj (by omega) (by omega) (eq_of_beq he)
    rw [c] at hj2; cases hj2
theorem finds_bad {bl : List Bool} {m : Nat} (hm : m ≤ 200) : (namesF m).filter (bdF (wrongF bl m)) = wrongF bl m := by
  conv => lhs; unfold namesF
  rw [List.filter_map]
  conv => rhs; unfold wrongF
  congr 1
  exact List.filter_congr (fun i hi => bdF_at hm (List.mem_range.1 hi))
theorem finds_good {bl : List Bool} {m : Nat} (hm : m ≤ 200) : (namesF m).filter (fun x => !bdF (wrongF bl m) x) = rightF bl m := by
  conv => lhs; unfold namesF
  rw [List.filter_map]
  unfold rightF
  congr 1
  exact List.filter_congr (fun i hi => by simp only [Function.comp]; rw [bdF_at hm (List.mem_range.1 hi)])
theorem finds_cost {bl : List Bool} {m : Nat} (h1 : 1 ≤ m) (hm : m ≤ 200) : cost (bdF (wrongF bl m)) (namesF m) ≤ 999 ∧ cost (bdF (wrongF bl m)) (namesF m) ≤ 2 * (wrongF bl m).length * (Pure.bl (m - 1) + 1) + 1 := by
  constructor
  · have := cost_le2 (bdF (wrongF bl m)) m (namesF m) (by rw [namesF_length]; exact Nat.le_refl _) (by rw [namesF_length]; omega)
    rw [namesF_length] at this
    omega
  · have hd : m ≤ 2 ^ Pure.bl (m - 1) := by have := (Pure.bl_le (m - 1) _).1 (Nat.le_refl _); omega
    have h := cost_le (bdF (wrongF bl m)) m (namesF m) (Pure.bl (m - 1)) (by rw [namesF_length]; exact Nat.le_refl _) (by rw [namesF_length]; exact hd)
    have e : (namesF m).countP (bdF (wrongF bl m)) = (wrongF bl m).length := by rw [List.countP_eq_length_filter, finds_bad hm]
    rw [e] at h
    by_cases c : (wrongF bl m).length = 0
    · rw [h.1 c]; omega
    · have := h.2 (by omega); omega
def Apart (v u : Value) : Prop := ∀ k, v.ownBlock = some k → u.ownBlock ≠ some k
theorem Apart.symm {v u : Value} (h : Apart v u) : Apart u v := fun k hu hv => h k hv hu
section
variable {W w1 : World} {base : Nat} {ok : Nat → Prop} {u v v1 : Value} {xs : List ByteArray}
theorem row_other (h : Kd.R Kd.string 9 W base (fun _ => True) u xs) (hg : W.grownBy w1 v.ownBlock) (ha : Apart v u) : Kd.R Kd.string 9 w1 base (fun _ => True) u xs :=
  Kd.R_mono (Kd.R_grown (Kd.R_tight2 (by rfl) h) hg (fun k q e => ha k e.symm q.1.symm)) (fun _ _ => trivial)
theorem row_lt (h : Kd.R Kd.string 9 W base (fun _ => True) u xs) {k : Nat} (e : u.ownBlock = some k) : k < W.heap.size := ((Kd.R_bound h).1 k e).2.2.1
theorem apart_new (h : Kd.R Kd.string 9 W base (fun _ => True) u xs) (hn : ∃ b, v1.ownBlock = some b ∧ W.heap.size ≤ b) : Apart v1 u := by
  intro k hk hu
  obtain ⟨b, hb, hle⟩ := hn
  have := row_lt h hu
  rw [hk] at hb
  injection hb with hb
  omega
theorem apart_after (h : Kd.R Kd.string 9 W base (fun _ => True) u xs) (ha : Apart v u) (hat : v1.ownBlock = v.ownBlock ∨ ∃ b, v1.ownBlock = some b ∧ W.heap.size ≤ b) : Apart v1 u := by
  rcases hat with hat | hat
  · intro k hk; rw [hat] at hk; exact ha k hk
  · exact apart_new h hat
end
end Go.Proofs.Ytdfnpjmebnlfbaa.PAll
