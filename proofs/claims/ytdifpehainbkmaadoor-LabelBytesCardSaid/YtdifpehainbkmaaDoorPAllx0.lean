-- Made by a program of this session (wip/gen)
import Derived.Test.YtdifpehainbkmaaDoorProg
import Derived.Below
import Derived.Deep.Draws
import Derived.Deep.AppendLies
import Derived.Maps.AppendAt
import Derived.OwnWalk
import Derived.Laws.BytesArg
import Derived.Laws.MakeOwn
import Derived.Laws.OwnMore
import Derived.Deep.OwnRows
import Derived.Tactics
import Derived.Lib.ConvBytes
import Derived.Laws.Slices
import Derived.WalkKit
import Derived.KernelRfl
import Derived.RowKit3
import Derived.Deep.LoopGhost
import Derived.Deep.QuietTactic
import Derived.BigQuiet
import Derived.WideLaws
import Derived.Deep.DeepCutAuto
import Derived.Deep.CutBlock
import Derived.Deep.RegionHeld3
import Derived.Laws.Rows
import Derived.Lib.AppendStr
import Derived.ArgAppend
import Derived.Laws.IdiomCopy
import Derived.OrdersHeld
import Derived.Laws.BitsLemmas
import Derived.RowKit
import Derived.Test.YtdifpehainbkmaaDoorWWords
import Derived.Test.YtdifpehainbkmaaDoorWLast
import Derived.Test.YtdifpehainbkmaaDoorWTab
import Derived.Test.YtdifpehainbkmaaDoorWFour
import Derived.Test.YtdifpehainbkmaaDoorWQPut
import Derived.Test.YtdifpehainbkmaaDoorWApart
import Derived.Test.YtdifpehainbkmaaDoorWArr
import Derived.Test.YtdifpehainbkmaaDoorWZeros
import Derived.Test.YtdifpehainbkmaaDoorWFoot
import Derived.Test.YtdifpehainbkmaaDoorWKept
import Derived.Test.YtdifpehainbkmaaDoorWShare
import Derived.Test.YtdifpehainbkmaaDoorWN
import Derived.Test.YtdifpehainbkmaaDoorWFootNe
import Derived.Test.YtdifpehainbkmaaDoorWAt
import Derived.Test.YtdifpehainbkmaaDoorWEqStruct
import Derived.Test.YtdifpehainbkmaaDoorWRepsOne
import Derived.Test.YtdifpehainbkmaaDoorWInv
import Derived.Test.YtdifpehainbkmaaDoorWInvWords
import Derived.Test.YtdifpehainbkmaaDoorWGuard
import Derived.Test.YtdifpehainbkmaaDoorWNEv
import Derived.Test.YtdifpehainbkmaaDoorWMore
import Derived.Deep.LoopGhost
import Derived.Test.YtdifpehainbkmaaDoorStrs
import Derived.Test.YtdifpehainbkmaaDoorStrs
import Derived.Test.YtdifpehainbkmaaDoorStrs
import Derived.Test.YtdifpehainbkmaaDoorStrs
import Derived.Test.YtdifpehainbkmaaDoorStrs
import Derived.Test.YtdifpehainbkmaaDoorStrs
import Derived.Test.YtdifpehainbkmaaDoorStrs
import Derived.Test.YtdifpehainbkmaaDoorStrs
import Derived.Test.YtdifpehainbkmaaDoorStrs
import Derived.Test.YtdifpehainbkmaaDoorStrs
import Derived.Test.YtdifpehainbkmaaDoorValid
import Derived.Test.YtdifpehainbkmaaDoorLab
import Derived.Test.YtdifpehainbkmaaDoorFull
import Derived.Test.YtdifpehainbkmaaDoorStrs
namespace Go.Proofs.YtdifpehainbkmaaDoor.PAll
open Go.RowKit Go.Proofs.YtdifpehainbkmaaDoorW.PrintWords Go.Proofs.YtdifpehainbkmaaDoorW.PrintLast Go.Proofs.YtdifpehainbkmaaDoorW.PrintMore
attribute [local go_sem] max2_int min2_int max_two min_two max_three min_three max_four min_four   -- for this text's walks alone
set_option linter.unusedVariables false
set_option linter.unusedSimpArgs false



def errW : Option Int → Value
  | none => .nilIface
  | some c => .iface 0 (.int .i64 c)
theorem errW_none : errW none = .nilIface := rfl
theorem errW_some (c : Int) : errW (some c) = .iface 0 (.int .i64 c) := rfl

theorem info9 : (Tryd.prog.info? 9).map (fun i => (i.zero, i.size, i.bytes)) = some (some (.string ⟨#[]⟩), 1, 16) := by kernel_rfl
-- the values' own types
def rd_L2 (xs : List (List ByteArray)) (i : Int) : (List ByteArray) := xs.getD i.toNat ([] : List ByteArray)
theorem at_L2 {w : World} {A : Option Addr} {n : Nat} {xs : List (List ByteArray)} (h : Kd.C (Kd.slice 9 Kd.string) w A n xs) (i : Int) (h0 : 0 ≤ i) (h1 : i < n) : ∃ ad A0 c0, A = some ad ∧ w.cell? (ad.add i.toNat) = some (.slice A0 (rd_L2 xs i).length c0) ∧ (rd_L2 xs i).length ≤ c0 ∧ Kd.string.C w A0 (rd_L2 xs i).length (rd_L2 xs i) := by
  obtain ⟨ad, c, e, _, hK, hc0⟩ := Kd.C_get h ([] : List ByteArray) i h0 h1
  have hc : ∀ j u, c[j]? = some u → w.cell? (ad.add (i.toNat * 1 + j)) = some u := hc0
  obtain ⟨A0, c0, rfl, l0, g0⟩ := hK
  exact ⟨ad, A0, c0, e, by have hq := hc 0 _ rfl; rwa [Nat.mul_one, Nat.add_zero] at hq, l0, g0⟩

/-- The two tables that utf8.ValidString reads, as their initialisers lay them; and what strings.Split reads holds a number. -/
def Tabs (w : World) : Prop := Lib.Utf8Tabs (Tryd.laysValid_ren.g 3) (Tryd.laysValid_ren.g 4) w ∧ ∃ m : Int, w.cell? ⟨Tryd.laysSplit_ren.g 1, 0, none⟩ = some (.int .i64 m)
theorem Tabs.u8 {w : World} (h : Tabs w) : Lib.Utf8Tabs (Tryd.laysValid_ren.g 3) (Tryd.laysValid_ren.g 4) w := h.1
theorem Tabs.below {w w' : World} (h : Tabs w) (hb : Below w.heap.size w w') : Tabs w' :=
  ⟨Utf8Tabs_below h.1 hb, h.2.imp fun _ hm => (hb.cell (World.block_lt_of_cell? w _ hm)).trans hm⟩

end Go.Proofs.YtdifpehainbkmaaDoor.PAll
