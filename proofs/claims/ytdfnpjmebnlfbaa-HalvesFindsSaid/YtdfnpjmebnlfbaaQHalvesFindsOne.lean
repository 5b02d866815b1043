
import Derived.Test.YtdfnpjmebnlfbaaQHalvesFindsCost
import Derived.Test.YtdfnpjmebnlfbaaQHalvesFindsBnd
import Derived.Laws.Runes
namespace Go.Proofs.YtdfnpjmebnlfbaaW.PrintMore
end Go.Proofs.YtdfnpjmebnlfbaaW.PrintMore
set_option linter.unusedVariables false
namespace Go.Proofs.Ytdfnpjmebnlfbaa.PAll
open Go Go.Proofs Go.RowKit Go.Proofs.YtdfnpjmebnlfbaaW.PrintWords Go.Proofs.YtdfnpjmebnlfbaaW.PrintLast Go.Proofs.YtdfnpjmebnlfbaaW.PrintMore
theorem enc_letter : ∀ k : Nat, k < 26 → Utf8.encode (97 + (k : Int)) = ⟨#[UInt8.ofNat (97 + k)]⟩ := by decide
theorem u8_inj {a b : Nat} (ha : a < 256) (hb : b < 256) (h : UInt8.ofNat a = UInt8.ofNat b) : a = b := by
  have h1 := congrArg UInt8.toNat h
  simp only [UInt8.toNat_ofNat'] at h1
  omega
theorem nodup_map {f : Nat → ByteArray} {m : Nat} (h : ∀ i j, i < m → j < m → f i = f j → i = j) : ((List.range m).map f).Nodup := by
  unfold List.Nodup
  rw [List.pairwise_map]
  refine List.Pairwise.imp_of_mem ?_ (List.nodup_range (n := m))
  intro a b ha hb hne he
  exact hne (h a b (List.mem_range.1 ha) (List.mem_range.1 hb) he)
theorem okRow_take {bd : ByteArray → Bool} {l : List ByteArray} (j : Nat) (hj : j < l.length) : okRow bd (l.take (j + 1)) = (okRow bd (l.take j) && !bd l[j]) := by
  unfold okRow
  rw [List.take_add_one, List.getElem?_eq_getElem hj, List.all_append]
  simp
end Go.Proofs.Ytdfnpjmebnlfbaa.PAll
