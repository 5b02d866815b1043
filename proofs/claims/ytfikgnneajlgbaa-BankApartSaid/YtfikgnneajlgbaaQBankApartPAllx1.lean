
import Derived.Test.YtfikgnneajlgbaaQBankApartPAllx0
namespace Go.Proofs.Ytfikgnneajlgbaa.PAll
open Go.RowKit Go.Proofs.YtfikgnneajlgbaaW.PrintWords Go.Proofs.YtfikgnneajlgbaaW.PrintLast Go.Proofs.YtfikgnneajlgbaaW.PrintMore
attribute [local go_sem] min2_int min_two
set_option linter.unusedVariables false
set_option linter.unusedSimpArgs false
theorem eqA76 (d : Nat) (w : World) (x0 y0 : Int) (x1 y1 : ByteArray) :
    (Op.equalIn (d + 2) 76 (.agg #[.int .i64 x0, .string x1]) (.agg #[.int .i64 y0, .string y1])).run Try.prog w = .ok (x0 == y0 && (x1.toList == y1.toList)) w := by
  refine eqA_of Try.underlying76 (by kernel_rfl) ?_
  refine eqf_cons (by rfl) (by go_simp; rfl) (by go_simp; rfl) (by go_simp) ?_
  exact eqf_last (by rfl) (by go_simp; rfl) (by go_simp; rfl) (by go_simp)
end Go.Proofs.Ytfikgnneajlgbaa.PAll
