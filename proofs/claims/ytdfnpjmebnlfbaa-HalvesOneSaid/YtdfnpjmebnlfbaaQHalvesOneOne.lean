
import Derived.Test.YtdfnpjmebnlfbaaQHalvesOneCost
import Derived.Test.YtdfnpjmebnlfbaaQHalvesOneBnd
import Derived.Laws.Runes
namespace Go.Proofs.YtdfnpjmebnlfbaaW.PrintMore
end Go.Proofs.YtdfnpjmebnlfbaaW.PrintMore
set_option linter.unusedVariables false
namespace Go.Proofs.Ytdfnpjmebnlfbaa.PAll
open Go Go.Proofs Go.RowKit Go.Proofs.YtdfnpjmebnlfbaaW.PrintWords Go.Proofs.YtdfnpjmebnlfbaaW.PrintLast Go.Proofs.YtdfnpjmebnlfbaaW.PrintMore
theorem enc_letter : ∀ k : Nat, k < 26 → Utf8.encode (97 + (k : Int)) = ⟨#[UInt8.ofNat (97 + k)]⟩ := by decide
def nmO (i : Nat) : ByteArray := Utf8.encode (97 + (i : Int) % 26) ++ Utf8.encode (97 + (i : Int) / 26)
def namesO (m : Nat) : List ByteArray := (List.range m).map nmO
theorem namesO_length (m : Nat) : (namesO m).length = m := by simp [namesO]
theorem namesO_succ (m : Nat) : namesO (m + 1) = namesO m ++ [nmO m] := by simp [namesO, List.range_succ]
theorem nmO_data {i : Nat} (h : i < 500) : (nmO i).data.toList = [UInt8.ofNat (97 + i % 26), UInt8.ofNat (97 + i / 26)] := by
  unfold nmO
  rw [show (i : Int) % 26 = ((i % 26 : Nat) : Int) from rfl, show (i : Int) / 26 = ((i / 26 : Nat) : Int) from rfl, enc_letter _ (by omega), enc_letter _ (by omega)]
  rfl
theorem u8_inj {a b : Nat} (ha : a < 256) (hb : b < 256) (h : UInt8.ofNat a = UInt8.ofNat b) : a = b := by
  have h1 := congrArg UInt8.toNat h
  simp only [UInt8.toNat_ofNat'] at h1
  omega
theorem nmO_inj {i j : Nat} (hi : i < 500) (hj : j < 500) (h : nmO i = nmO j) : i = j := by
  have h1 := nmO_data hi
  rw [h, nmO_data hj] at h1
  simp only [List.cons.injEq, and_true] at h1
  have a := u8_inj (by omega) (by omega) h1.1
  have b := u8_inj (by omega) (by omega) h1.2
  omega
theorem nodup_map {f : Nat → ByteArray} {m : Nat} (h : ∀ i j, i < m → j < m → f i = f j → i = j) : ((List.range m).map f).Nodup := by
  unfold List.Nodup
  rw [List.pairwise_map]
  refine List.Pairwise.imp_of_mem ?_ (List.nodup_range (n := m))
  intro a b ha hb hne he
  exact hne (h a b (List.mem_range.1 ha) (List.mem_range.1 hb) he)
theorem namesO_nodup {m : Nat} (h : m ≤ 500) : (namesO m).Nodup := nodup_map (fun i j hi hj e => nmO_inj (by omega) (by omega) e)
theorem namesO_size {m : Nat} (h : m ≤ 500) : ∀ x ∈ namesO m, x.size ≤ maxLen := by
  intro x hx
  unfold namesO at hx
  obtain ⟨i, hi, rfl⟩ := List.mem_map.1 hx
  have hi := List.mem_range.1 hi
  have e : (nmO i).size = 2 := by
    show (nmO i).data.size = 2
    rw [← Array.length_toList, nmO_data (by omega)]
    rfl
  rw [e]; unfold maxLen; omega
theorem namesO_get {m i : Nat} (h : i < m) : (namesO m)[i]'(by rw [namesO_length]; exact h) = nmO i := by simp [namesO]
def bdO (m : Nat) (a : Int) (x : ByteArray) : Bool := decide (0 ≤ a) && decide (a < (m : Int)) && (x == nmO a.toNat)
theorem bdO_out {m : Nat} {a : Int} (h : ¬ (0 ≤ a ∧ a < (m : Int))) (x : ByteArray) : bdO m a x = false := by
  unfold bdO
  by_cases c : 0 ≤ a
  · rw [decide_eq_true c, decide_eq_false (show ¬ a < (m : Int) from fun h2 => h ⟨c, h2⟩)]; rfl
  · rw [decide_eq_false c]; rfl
theorem bdO_in {m : Nat} {a : Int} (h : 0 ≤ a ∧ a < (m : Int)) (x : ByteArray) : bdO m a x = (x == nmO a.toNat) := by
  unfold bdO
  rw [decide_eq_true h.1, decide_eq_true h.2]; rfl
theorem any_false {l : List ByteArray} {bd : ByteArray → Bool} (h : ∀ x, bd x = false) : l.any bd = false := List.any_eq_false.2 (fun x _ => by rw [h x]; decide)
theorem one_out {m : Nat} {a : Int} (h : ¬ (0 ≤ a ∧ a < (m : Int))) : cost (bdO m a) (namesO m) = 1 ∧ ((namesO m).filter (fun x => !bdO m a x)).length = m := by
  have h1 := any_false (l := namesO m) (bdO_out h)
  exact ⟨cost_none h1, by rw [(filter_none h1).2, namesO_length]⟩
theorem one_in {m : Nat} {a : Int} (hm : m ≤ 500) (h : 0 ≤ a ∧ a < (m : Int)) : (namesO m).filter (bdO m a) = [nmO a.toNat] ∧ ∀ d, m ≤ 2 ^ d → cost (bdO m a) (namesO m) ≤ 2 * d + 1 := by
  have e : bdO m a = (fun x => x == nmO a.toNat) := funext (bdO_in h)
  have hmem : nmO a.toNat ∈ namesO m := List.mem_map.2 ⟨a.toNat, List.mem_range.2 (by omega), rfl⟩
  have hc : (namesO m).countP (bdO m a) = 1 := by
    rw [e]
    have h1 := List.nodup_iff_count.1 (namesO_nodup hm) (nmO a.toNat)
    have h2 := List.count_pos_iff.2 hmem
    have h3 : (namesO m).countP (fun x => x == nmO a.toNat) = (namesO m).count (nmO a.toNat) := rfl
    omega
  constructor
  · have hl : ((namesO m).filter (bdO m a)).length = 1 := by rw [← List.countP_eq_length_filter]; exact hc
    obtain ⟨x, hx⟩ := List.length_eq_one_iff.1 hl
    have hin : x ∈ (namesO m).filter (bdO m a) := by rw [hx]; exact List.mem_singleton.2 rfl
    have hb := (List.mem_filter.1 hin).2
    rw [bdO_in h] at hb
    rw [hx, eq_of_beq hb]
  · intro d hd
    have h1 := (cost_le (bdO m a) m (namesO m) d (by rw [namesO_length]; exact Nat.le_refl _) (by rw [namesO_length]; exact hd)).2 (by omega)
    rw [hc] at h1
    omega
theorem one_cost {m : Nat} (a : Int) (h1 : 1 ≤ m) (hm : m ≤ 500) : cost (bdO m a) (namesO m) ≤ 999 := by
  have := cost_le2 (bdO m a) m (namesO m) (by rw [namesO_length]; exact Nat.le_refl _) (by rw [namesO_length]; omega)
  rw [namesO_length] at this
  omega
theorem okRow_take {bd : ByteArray → Bool} {l : List ByteArray} (j : Nat) (hj : j < l.length) : okRow bd (l.take (j + 1)) = (okRow bd (l.take j) && !bd l[j]) := by
  unfold okRow
  rw [List.take_add_one, List.getElem?_eq_getElem hj, List.all_append]
  simp
end Go.Proofs.Ytdfnpjmebnlfbaa.PAll
