import Derived.Test.YtdfnpjmebnlfbaaProg
import Derived.Below
import Derived.Deep.Draws
import Derived.Deep.AppendLies
import Derived.Maps.AppendAt
import Derived.OwnWalk
import Derived.Laws.BytesArg
import Derived.Laws.MakeOwn
import Derived.Laws.OwnMore
import Derived.Deep.OwnRows
import Derived.Tactics
import Derived.Lib.ConvBytes
import Derived.Laws.Slices
import Derived.WalkKit
import Derived.KernelRfl
import Derived.RowKit3
import Derived.Deep.LoopGhost
import Derived.Deep.QuietTactic
import Derived.BigQuiet
import Derived.WideLaws
import Derived.Deep.DeepCutAuto
import Derived.Deep.CutBlock
import Derived.Deep.RegionHeld3
import Derived.Laws.Rows
import Derived.Lib.AppendStr
import Derived.ArgAppend
import Derived.Laws.IdiomCopy
import Derived.OrdersHeld
import Derived.Laws.BitsLemmas
import Derived.RowKit
import Derived.Test.YtdfnpjmebnlfbaaQHalvesRunsWWords
import Derived.Test.YtdfnpjmebnlfbaaQHalvesRunsWLast
import Derived.Test.YtdfnpjmebnlfbaaQHalvesRunsWTab
import Derived.Test.YtdfnpjmebnlfbaaQHalvesRunsWApart
import Derived.Test.YtdfnpjmebnlfbaaQHalvesRunsWKept
import Derived.Test.YtdfnpjmebnlfbaaQHalvesRunsWShare
import Derived.Test.YtdfnpjmebnlfbaaQHalvesRunsWN
import Derived.Laws.StructEq
import Derived.Test.YtdfnpjmebnlfbaaQHalvesRunsWRepsOne
import Derived.Test.YtdfnpjmebnlfbaaQHalvesRunsWInvWords
import Derived.Test.YtdfnpjmebnlfbaaQHalvesRunsWGuard
import Derived.Test.YtdfnpjmebnlfbaaQHalvesRunsWNEv
import Derived.Test.YtdfnpjmebnlfbaaQHalvesRunsWMore
import Derived.Lib.SliceRun

namespace Go.Proofs.YtdfnpjmebnlfbaaW.PrintMore
end Go.Proofs.YtdfnpjmebnlfbaaW.PrintMore
namespace Go.Proofs.Ytdfnpjmebnlfbaa.PAll
open Go.RowKit Go.Proofs.YtdfnpjmebnlfbaaW.PrintWords Go.Proofs.YtdfnpjmebnlfbaaW.PrintLast Go.Proofs.YtdfnpjmebnlfbaaW.PrintMore
set_option linter.unusedVariables false
set_option linter.unusedSimpArgs false
def errW : Option Int → Value
  | none => .nilIface
  | some c => .iface 0 (.int .i64 c)
theorem errW_none : errW none = .nilIface := rfl
theorem errW_some (c : Int) : errW (some c) = .iface 0 (.int .i64 c) := rfl
theorem info9 : (Try.prog.info? 9).map (fun i => (i.zero, i.size, i.bytes)) = some (some (.string ⟨#[]⟩), 1, 16) := by kernel_rfl
theorem info22 : (Try.prog.info? 22).map (fun i => (i.zero, i.size, i.bytes)) = some (some (.slice none 0 0), 1, 24) := by kernel_rfl
end Go.Proofs.Ytdfnpjmebnlfbaa.PAll
