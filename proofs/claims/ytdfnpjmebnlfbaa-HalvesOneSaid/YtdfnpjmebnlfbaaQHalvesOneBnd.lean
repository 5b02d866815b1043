import Derived.Test.YtdfnpjmebnlfbaaQHalvesOnePAllx0
import Derived.Test.YtdfnpjmebnlfbaaQHalvesOnePAllx6
import Derived.Test.YtdfnpjmebnlfbaaQHalvesOneSame

namespace Go.Proofs.YtdfnpjmebnlfbaaW.PrintMore
end Go.Proofs.YtdfnpjmebnlfbaaW.PrintMore
set_option linter.unusedVariables false
namespace Go.Proofs.Ytdfnpjmebnlfbaa.Pure
open Go.RowKit Go.Proofs.Ytdfnpjmebnlfbaa Go.Proofs.Ytdfnpjmebnlfbaa.PAll Go.Proofs.YtdfnpjmebnlfbaaW.PrintWords Go.Proofs.YtdfnpjmebnlfbaaW.PrintLast Go.Proofs.YtdfnpjmebnlfbaaW.PrintMore
def bl (n : Nat) : Nat := if n = 0 then 0 else n.log2 + 1
theorem bl_le (n k : Nat) : bl n ≤ k ↔ n < 2 ^ k := by
  unfold bl
  by_cases h : n = 0
  · subst h; exact ⟨fun _ => Nat.two_pow_pos k, fun _ => Nat.zero_le _⟩
  · rw [if_neg h, Nat.add_one_le_iff, Nat.log2_lt h]
theorem bl_small {n k : Nat} (h : n < 2 ^ k) : bl n ≤ k := (bl_le n k).2 h
end Go.Proofs.Ytdfnpjmebnlfbaa.Pure
