-- Made by a program of this session (wip/gen)
import Derived.Test.YtdifpehainbkmaaDoorProg
import Derived.Below
import Derived.Deep.Draws
import Derived.Deep.AppendLies
import Derived.Maps.AppendAt
import Derived.OwnWalk
import Derived.Laws.BytesArg
import Derived.Laws.MakeOwn
import Derived.Laws.OwnMore
import Derived.Deep.OwnRows
import Derived.Tactics
import Derived.Lib.ConvBytes
import Derived.Laws.Slices
import Derived.WalkKit
import Derived.KernelRfl
import Derived.RowKit3
import Derived.Deep.LoopGhost
import Derived.Deep.QuietTactic
import Derived.BigQuiet
import Derived.WideLaws
import Derived.Deep.DeepCutAuto
import Derived.Deep.CutBlock
import Derived.Deep.RegionHeld3
import Derived.Laws.Rows
import Derived.Lib.AppendStr
import Derived.ArgAppend
import Derived.Laws.IdiomCopy
import Derived.OrdersHeld
import Derived.Laws.BitsLemmas
import Derived.RowKit
import Derived.Test.YtdifpehainbkmaaDoorWWords
import Derived.Test.YtdifpehainbkmaaDoorWLast
import Derived.Test.YtdifpehainbkmaaDoorWTab
import Derived.Test.YtdifpehainbkmaaDoorWFour
import Derived.Test.YtdifpehainbkmaaDoorWQPut
import Derived.Test.YtdifpehainbkmaaDoorWApart
import Derived.Test.YtdifpehainbkmaaDoorWArr
import Derived.Test.YtdifpehainbkmaaDoorWZeros
import Derived.Test.YtdifpehainbkmaaDoorWFoot
import Derived.Test.YtdifpehainbkmaaDoorWKept
import Derived.Test.YtdifpehainbkmaaDoorWShare
import Derived.Test.YtdifpehainbkmaaDoorWN
import Derived.Test.YtdifpehainbkmaaDoorWFootNe
import Derived.Test.YtdifpehainbkmaaDoorWAt
import Derived.Test.YtdifpehainbkmaaDoorWEqStruct
import Derived.Test.YtdifpehainbkmaaDoorWRepsOne
import Derived.Test.YtdifpehainbkmaaDoorWInv
import Derived.Test.YtdifpehainbkmaaDoorWInvWords
import Derived.Test.YtdifpehainbkmaaDoorWGuard
import Derived.Test.YtdifpehainbkmaaDoorWNEv
import Derived.Test.YtdifpehainbkmaaDoorWMore
import Derived.Deep.LoopGhost
import Derived.Test.YtdifpehainbkmaaDoorStrs
import Derived.Test.YtdifpehainbkmaaDoorStrs
import Derived.Test.YtdifpehainbkmaaDoorStrs
import Derived.Test.YtdifpehainbkmaaDoorStrs
import Derived.Test.YtdifpehainbkmaaDoorStrs
import Derived.Test.YtdifpehainbkmaaDoorStrs
import Derived.Test.YtdifpehainbkmaaDoorValid
import Derived.Test.YtdifpehainbkmaaDoorLab
import Derived.Test.YtdifpehainbkmaaDoorFull
namespace Go.Proofs.YtdifpehainbkmaaDoor.PAll
open Go.RowKit Go.Proofs.YtdifpehainbkmaaDoorW.PrintWords Go.Proofs.YtdifpehainbkmaaDoorW.PrintLast Go.Proofs.YtdifpehainbkmaaDoorW.PrintMore
attribute [local go_sem] max2_int min2_int max_two min_two max_three min_three max_four min_four   -- for this text's walks alone
set_option linter.unusedVariables false
set_option linter.unusedSimpArgs false



def errW : Option Int → Value
  | none => .nilIface
  | some c => .iface 0 (.int .i64 c)
theorem errW_none : errW none = .nilIface := rfl
theorem errW_some (c : Int) : errW (some c) = .iface 0 (.int .i64 c) := rfl

theorem info9 : (Tryd.prog.info? 9).map (fun i => (i.zero, i.size, i.bytes)) = some (some (.string ⟨#[]⟩), 1, 16) := by kernel_rfl
-- the values' own types

/-- The two tables that utf8.ValidString reads, as their initialisers lay them. -/
def Tabs (w : World) : Prop := Lib.Utf8Tabs (Tryd.laysValid_ren.g 3) (Tryd.laysValid_ren.g 4) w
theorem Tabs.below {w w' : World} (h : Tabs w) (hb : Below w.heap.size w w') : Tabs w' := Utf8Tabs_below h hb

end Go.Proofs.YtdifpehainbkmaaDoor.PAll
