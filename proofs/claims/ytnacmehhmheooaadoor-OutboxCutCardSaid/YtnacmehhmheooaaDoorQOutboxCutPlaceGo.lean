
import Derived.Test.YtnacmehhmheooaaDoorQOutboxCutLabGo
set_option linter.unusedVariables false
namespace Go.Proofs.YtnacmehhmheooaaDoor.Pure
open Go.RowKit Go.Proofs.YtnacmehhmheooaaDoor Go.Proofs.YtnacmehhmheooaaDoor.PAll Go.Proofs.YtnacmehhmheooaaDoorW.PrintWords Go.Proofs.YtnacmehhmheooaaDoorW.PrintLast Go.Proofs.YtnacmehhmheooaaDoorW.PrintMore
theorem rd_27 (l : List S27) (i : Nat) (h : i < l.length) : rd_T27 l (i : Int) = l[i] := by
  unfold rd_T27
  simp [List.getD_eq_getElem?_getD, List.getElem?_eq_getElem h]
def pos (l : List S27) (key : Int) : Nat := (l.takeWhile fun x => decide (x.f0 < key)).length
end Go.Proofs.YtnacmehhmheooaaDoor.Pure
