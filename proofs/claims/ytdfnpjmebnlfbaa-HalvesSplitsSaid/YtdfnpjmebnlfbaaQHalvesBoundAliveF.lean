
import Derived.Test.YtdfnpjmebnlfbaaQHalvesBoundAlive
namespace Go.Proofs.YtdfnpjmebnlfbaaW.PrintMore
end Go.Proofs.YtdfnpjmebnlfbaaW.PrintMore
namespace Go.Proofs.Ytdfnpjmebnlfbaa.PAll
open Go Go.Proofs Go.RowKit Go.Proofs.YtdfnpjmebnlfbaaW.PrintWords Go.Proofs.YtdfnpjmebnlfbaaW.PrintLast Go.Proofs.YtdfnpjmebnlfbaaW.PrintMore
def packhorselaw12_halvesAlive.f : Option (Bool) := some true
theorem packhorselaw12_halvesAlive.calls (r : Bool) (w : World) (h : packhorselaw12_halvesAlive.f = some r) (hr_ : r = true) :
    Calls Try.prog 10 #[] w fun e w' => e = .returned (.bool r) ∧ Below w.heap.size w w' := by
  obtain rfl := Option.some.inj h
  exact alive_calls w
end Go.Proofs.Ytdfnpjmebnlfbaa.PAll
