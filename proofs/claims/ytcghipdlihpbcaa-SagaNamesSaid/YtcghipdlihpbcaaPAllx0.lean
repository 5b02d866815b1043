-- Made by a program of this session (wip/gen)
import Derived.Test.YtcghipdlihpbcaaProg
import Derived.Below
import Derived.Deep.Draws
import Derived.Deep.AppendLies
import Derived.Maps.AppendAt
import Derived.OwnWalk
import Derived.Laws.BytesArg
import Derived.Laws.MakeOwn
import Derived.Laws.OwnMore
import Derived.Deep.OwnRows
import Derived.Tactics
import Derived.Lib.ConvBytes
import Derived.Laws.Slices
import Derived.WalkKit
import Derived.KernelRfl
import Derived.RowKit3
import Derived.Deep.LoopGhost
import Derived.Deep.QuietTactic
import Derived.BigQuiet
import Derived.WideLaws
import Derived.Deep.DeepCutAuto
import Derived.Deep.CutBlock
import Derived.Deep.RegionHeld3
import Derived.Laws.Rows
import Derived.Lib.AppendStr
import Derived.ArgAppend
import Derived.Laws.IdiomCopy
import Derived.OrdersHeld
import Derived.Laws.BitsLemmas
import Derived.RowKit
import Derived.Test.YtcghipdlihpbcaaWWords
import Derived.Test.YtcghipdlihpbcaaWLast
import Derived.Test.YtcghipdlihpbcaaWTab
import Derived.Test.YtcghipdlihpbcaaWFour
import Derived.Test.YtcghipdlihpbcaaWQPut
import Derived.Test.YtcghipdlihpbcaaWApart
import Derived.Test.YtcghipdlihpbcaaWArr
import Derived.Test.YtcghipdlihpbcaaWZeros
import Derived.Test.YtcghipdlihpbcaaWFoot
import Derived.Test.YtcghipdlihpbcaaWKept
import Derived.Test.YtcghipdlihpbcaaWShare
import Derived.Test.YtcghipdlihpbcaaWN
import Derived.Test.YtcghipdlihpbcaaWFootNe
import Derived.Test.YtcghipdlihpbcaaWAt
import Derived.Test.YtcghipdlihpbcaaWEqStruct
import Derived.Test.YtcghipdlihpbcaaWRepsOne
import Derived.Test.YtcghipdlihpbcaaWInv
import Derived.Test.YtcghipdlihpbcaaWInvWords
import Derived.Test.YtcghipdlihpbcaaWGuard
import Derived.Test.YtcghipdlihpbcaaWNEv
import Derived.Test.YtcghipdlihpbcaaWMore
import Derived.Maps.OwnOps
namespace Go.Proofs.Ytcghipdlihpbcaa.PAll
open Go.RowKit Go.Proofs.YtcghipdlihpbcaaW.PrintWords Go.Proofs.YtcghipdlihpbcaaW.PrintLast Go.Proofs.YtcghipdlihpbcaaW.PrintMore
attribute [local go_sem] max2_int min2_int max_two min_two max_three min_three max_four min_four   -- for this text's walks alone
set_option linter.unusedVariables false
set_option linter.unusedSimpArgs false



def errW : Option Int → Value
  | none => .nilIface
  | some c => .iface 0 (.int .i64 c)
theorem errW_none : errW none = .nilIface := rfl
theorem errW_some (c : Int) : errW (some c) = .iface 0 (.int .i64 c) := rfl

-- the values' own types

end Go.Proofs.Ytcghipdlihpbcaa.PAll
