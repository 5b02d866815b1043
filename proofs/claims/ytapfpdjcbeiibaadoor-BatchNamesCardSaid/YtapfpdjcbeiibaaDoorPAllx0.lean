-- Made by a program of this session (wip/gen)
import Derived.Test.YtapfpdjcbeiibaaDoorProg
import Derived.Below
import Derived.Deep.Draws
import Derived.Deep.AppendLies
import Derived.Maps.AppendAt
import Derived.OwnWalk
import Derived.Laws.BytesArg
import Derived.Laws.MakeOwn
import Derived.Laws.OwnMore
import Derived.Deep.OwnRows
import Derived.Tactics
import Derived.Lib.ConvBytes
import Derived.Laws.Slices
import Derived.WalkKit
import Derived.KernelRfl
import Derived.RowKit3
import Derived.Deep.LoopGhost
import Derived.Deep.QuietTactic
import Derived.BigQuiet
import Derived.WideLaws
import Derived.Deep.DeepCutAuto
import Derived.Deep.CutBlock
import Derived.Deep.RegionHeld3
import Derived.Laws.Rows
import Derived.Lib.AppendStr
import Derived.ArgAppend
import Derived.Laws.IdiomCopy
import Derived.OrdersHeld
import Derived.Laws.BitsLemmas
import Derived.RowKit
import Derived.Test.YtapfpdjcbeiibaaDoorWWords
import Derived.Test.YtapfpdjcbeiibaaDoorWLast
import Derived.Test.YtapfpdjcbeiibaaDoorWTab
import Derived.Test.YtapfpdjcbeiibaaDoorWFour
import Derived.Test.YtapfpdjcbeiibaaDoorWQPut
import Derived.Test.YtapfpdjcbeiibaaDoorWApart
import Derived.Test.YtapfpdjcbeiibaaDoorWArr
import Derived.Test.YtapfpdjcbeiibaaDoorWZeros
import Derived.Test.YtapfpdjcbeiibaaDoorWFoot
import Derived.Test.YtapfpdjcbeiibaaDoorWKept
import Derived.Test.YtapfpdjcbeiibaaDoorWShare
import Derived.Test.YtapfpdjcbeiibaaDoorWN
import Derived.Test.YtapfpdjcbeiibaaDoorWFootNe
import Derived.Test.YtapfpdjcbeiibaaDoorWAt
import Derived.Test.YtapfpdjcbeiibaaDoorWEqStruct
import Derived.Test.YtapfpdjcbeiibaaDoorWRepsOne
import Derived.Test.YtapfpdjcbeiibaaDoorWInv
import Derived.Test.YtapfpdjcbeiibaaDoorWInvWords
import Derived.Test.YtapfpdjcbeiibaaDoorWGuard
import Derived.Test.YtapfpdjcbeiibaaDoorWNEv
import Derived.Test.YtapfpdjcbeiibaaDoorWMore
import Derived.Deep.LoopGhost
import Derived.Lib.SliceRun
import Derived.Test.YtapfpdjcbeiibaaDoorValid
import Derived.Test.YtapfpdjcbeiibaaDoorLab
import Derived.Test.YtapfpdjcbeiibaaDoorFull
namespace Go.Proofs.YtapfpdjcbeiibaaDoor.PAll
open Go.RowKit Go.Proofs.YtapfpdjcbeiibaaDoorW.PrintWords Go.Proofs.YtapfpdjcbeiibaaDoorW.PrintLast Go.Proofs.YtapfpdjcbeiibaaDoorW.PrintMore
attribute [local go_sem] max2_int min2_int max_two min_two max_three min_three max_four min_four   -- for this text's walks alone
set_option linter.unusedVariables false
set_option linter.unusedSimpArgs false



def errW : Option Int → Value
  | none => .nilIface
  | some c => .iface 0 (.int .i64 c)
theorem errW_none : errW none = .nilIface := rfl
theorem errW_some (c : Int) : errW (some c) = .iface 0 (.int .i64 c) := rfl

theorem info9 : (Tryd.prog.info? 9).map (fun i => (i.zero, i.size, i.bytes)) = some (some (.string ⟨#[]⟩), 1, 16) := by kernel_rfl
theorem info29 : (Tryd.prog.info? 29).map (fun i => (i.zero, i.size, i.bytes)) = some (some (.slice none 0 0), 1, 24) := by kernel_rfl
-- the values' own types
def rd_L2 (xs : List (List ByteArray)) (i : Int) : (List ByteArray) := xs.getD i.toNat ([] : List ByteArray)
theorem at_L2 {w : World} {A : Option Addr} {n : Nat} {xs : List (List ByteArray)} (h : Kd.C (Kd.slice 9 Kd.string) w A n xs) (i : Int) (h0 : 0 ≤ i) (h1 : i < n) : ∃ ad A0 c0, A = some ad ∧ w.cell? (ad.add i.toNat) = some (.slice A0 (rd_L2 xs i).length c0) ∧ (rd_L2 xs i).length ≤ c0 ∧ Kd.string.C w A0 (rd_L2 xs i).length (rd_L2 xs i) := by
  obtain ⟨ad, c, e, _, hK, hc0⟩ := Kd.C_get h ([] : List ByteArray) i h0 h1
  have hc : ∀ j u, c[j]? = some u → w.cell? (ad.add (i.toNat * 1 + j)) = some u := hc0
  obtain ⟨A0, c0, rfl, l0, g0⟩ := hK
  exact ⟨ad, A0, c0, e, by have hq := hc 0 _ rfl; rwa [Nat.mul_one, Nat.add_zero] at hq, l0, g0⟩

def rd_L3 (xs : List (List (List ByteArray))) (i : Int) : (List (List ByteArray)) := xs.getD i.toNat ([] : List (List ByteArray))
theorem at_L3 {w : World} {A : Option Addr} {n : Nat} {xs : List (List (List ByteArray))} (h : Kd.C (Kd.slice 29 (Kd.slice 9 Kd.string)) w A n xs) (i : Int) (h0 : 0 ≤ i) (h1 : i < n) : ∃ ad A0 c0, A = some ad ∧ w.cell? (ad.add i.toNat) = some (.slice A0 (rd_L3 xs i).length c0) ∧ (rd_L3 xs i).length ≤ c0 ∧ (Kd.slice 9 Kd.string).C w A0 (rd_L3 xs i).length (rd_L3 xs i) := by
  obtain ⟨ad, c, e, _, hK, hc0⟩ := Kd.C_get h ([] : List (List ByteArray)) i h0 h1
  have hc : ∀ j u, c[j]? = some u → w.cell? (ad.add (i.toNat * 1 + j)) = some u := hc0
  obtain ⟨A0, c0, rfl, l0, g0⟩ := hK
  exact ⟨ad, A0, c0, e, by have hq := hc 0 _ rfl; rwa [Nat.mul_one, Nat.add_zero] at hq, l0, g0⟩

/-- The two tables that utf8.ValidString reads, as their initialisers lay them. -/
def Tabs (w : World) : Prop := Lib.Utf8Tabs (Tryd.laysValid_ren.g 3) (Tryd.laysValid_ren.g 4) w
theorem Tabs.below {w w' : World} (h : Tabs w) (hb : Below w.heap.size w w') : Tabs w' := Utf8Tabs_below h hb

end Go.Proofs.YtapfpdjcbeiibaaDoor.PAll
