import Derived.Test.YtmcdbjcbfjnfoaaDoorProg
import Derived.Below
import Derived.Deep.Draws
import Derived.Deep.AppendLies
import Derived.Maps.AppendAt
import Derived.OwnWalk
import Derived.Laws.BytesArg
import Derived.Laws.MakeOwn
import Derived.Laws.OwnMore
import Derived.Deep.OwnRows
import Derived.Tactics
import Derived.Lib.ConvBytes
import Derived.Laws.Slices
import Derived.WalkKit
import Derived.KernelRfl
import Derived.RowKit3
import Derived.Deep.LoopGhost
import Derived.Deep.QuietTactic
import Derived.BigQuiet
import Derived.WideLaws
import Derived.Deep.DeepCutAuto
import Derived.Deep.CutBlock
import Derived.Deep.RegionHeld3
import Derived.Laws.Rows
import Derived.Lib.AppendStr
import Derived.ArgAppend
import Derived.Laws.IdiomCopy
import Derived.OrdersHeld
import Derived.Laws.BitsLemmas
import Derived.RowKit
import Derived.Test.YtmcdbjcbfjnfoaaDoorQOrderTakesWWords
import Derived.Test.YtmcdbjcbfjnfoaaDoorQOrderTakesWLast
import Derived.Test.YtmcdbjcbfjnfoaaDoorQOrderTakesWTab
import Derived.Test.YtmcdbjcbfjnfoaaDoorQOrderTakesWApart
import Derived.Test.YtmcdbjcbfjnfoaaDoorQOrderTakesWShare
import Derived.Test.YtmcdbjcbfjnfoaaDoorQOrderTakesWN
import Derived.Test.YtmcdbjcbfjnfoaaDoorQOrderTakesWAt
import Derived.Test.YtmcdbjcbfjnfoaaDoorQOrderTakesWEqStruct
import Derived.Test.YtmcdbjcbfjnfoaaDoorQOrderTakesWRepsOne
import Derived.Test.YtmcdbjcbfjnfoaaDoorQOrderTakesWInv
import Derived.Test.YtmcdbjcbfjnfoaaDoorQOrderTakesWGuard
import Derived.Test.YtmcdbjcbfjnfoaaDoorQOrderTakesWMore
import Derived.Test.YtmcdbjcbfjnfoaaDoorQOrderTakesStrs
import Derived.Lib.SliceRun
import Derived.Lib.SlBytesConst
import Derived.Test.YtmcdbjcbfjnfoaaDoorQOrderTakesValid
import Derived.Test.YtmcdbjcbfjnfoaaDoorQOrderTakesLab

namespace Go.Proofs.YtmcdbjcbfjnfoaaDoor.PAll
open Go.RowKit Go.Proofs.YtmcdbjcbfjnfoaaDoorW.PrintWords Go.Proofs.YtmcdbjcbfjnfoaaDoorW.PrintLast Go.Proofs.YtmcdbjcbfjnfoaaDoorW.PrintMore
attribute [local go_sem] max2_int max_two
set_option linter.unusedVariables false
set_option linter.unusedSimpArgs false
def errW : Option Int → Value
 | none => .nilIface
 | some c => .iface 0 (.int .i64 c)
theorem errW_none : errW none = .nilIface := rfl
theorem errW_some (c : Int) : errW (some c) = .iface 0 (.int .i64 c) := rfl
theorem info5 : (Tryd.prog.info? 5).map (fun i => (i.zero, i.size, i.bytes)) = some (some (.int .u8 0), 1, 1) := by kernel_rfl
theorem info9 : (Tryd.prog.info? 9).map (fun i => (i.zero, i.size, i.bytes)) = some (some (.string ⟨#[]⟩), 1, 16) := by kernel_rfl
theorem info52 : (Tryd.prog.info? 52).map (fun i => (i.zero, i.size, i.bytes)) = some (some (.agg #[(.string ⟨#[]⟩), (.int .i64 0), (.int .i64 0)]), 3, 32) := by kernel_rfl
structure S52 where
 f0 : ByteArray
 f1 : Int
 f2 : Int
def z52 : S52 := ⟨⟨#[]⟩, (0 : Int), (0 : Int)⟩
def k52 : Kd S52 := Kd.iso (Kd.pair Kd.string (Kd.pair (Kd.int .i64) (Kd.int .i64))) (fun x : S52 => (x.f0, x.f1, x.f2))
theorem k52_open {w : World} {x : S52} {cs : List Value} (h : k52.K w x cs) : cs = [.string x.f0, .int .i64 x.f1, .int .i64 x.f2] := by
 obtain ⟨_, _, rfl, rfl, ⟨_, _, rfl, rfl, rfl⟩⟩ := h; exact rfl
theorem k52_mkM (w : World) (base : Nat) (ok : Nat → Prop) (x : S52)  : k52.M w base ok x [.string x.f0, .int .i64 x.f1, .int .i64 x.f2] := ⟨[.string x.f0], [.int .i64 x.f1, .int .i64 x.f2], rfl, rfl, ⟨[.int .i64 x.f1], [.int .i64 x.f2], rfl, rfl, rfl⟩⟩
def rd_T52 (xs : List S52) (i : Int) : S52 := xs.getD i.toNat z52
theorem at_T52 {w : World} {A : Option Addr} {n : Nat} {xs : List S52} (h : Kd.C k52 w A n xs) (i : Int) (h0 : 0 ≤ i) (h1 : i < n) : ∃ ad , A = some ad ∧ w.cell? (ad.add (i.toNat * 3)) = some (.string (rd_T52 xs i).f0) ∧ w.cell? ⟨(ad.add (i.toNat * 3)).block, (ad.add (i.toNat * 3)).off + 1, none⟩ = some (.int .i64 (rd_T52 xs i).f1) ∧ w.cell? ⟨(ad.add (i.toNat * 3)).block, (ad.add (i.toNat * 3)).off + 2, none⟩ = some (.int .i64 (rd_T52 xs i).f2) := by
 obtain ⟨ad, c, e, _, hK, hc0⟩ := Kd.C_get h z52 i h0 h1; have hc : ∀ j u, c[j]? = some u → w.cell? (ad.add (i.toNat * 3 + j)) = some u := hc0; obtain rfl := k52_open hK; exact ⟨ad, e, hc 0 _ rfl, by rw [← add_field _ _ 1 (by omega)]; exact hc 1 _ rfl, by rw [← add_field _ _ 2 (by omega)]; exact hc 2 _ rfl⟩
def Tabs (w : World) : Prop := Lib.Utf8Tabs (Tryd.laysValid_ren.g 3) (Tryd.laysValid_ren.g 4) w
theorem Tabs.below {w w' : World} (h : Tabs w) (hb : Below w.heap.size w w') : Tabs w' := Utf8Tabs_below h hb
theorem Tabs.u8 {w : World} (h : Tabs w) : Lib.Utf8Tabs (Tryd.laysValid_ren.g 3) (Tryd.laysValid_ren.g 4) w := h
theorem ap1 {p : Prop} (h : p := by (try simp only [List.map_toArray, List.map_cons, List.map_nil]); first | done | rfl | (simp only [List.length_drop, List.length_take]; rfl)) : p := h
theorem ap2 {p : Prop} (h : p := by first | (with_reducible assumption) | assumption) : p := h
theorem ap3 {p : Prop} (h : p := by first | rfl | (simp; done) | (simp [*]; done)) : p := h
theorem ap4 {p : Prop} (h : p := by first | rfl | (simp [errW_none, errW_some] <;> rfl) | (simp [*, errW_none, errW_some] <;> rfl)) : p := h
theorem ap5 {p : Prop} (h : p := by (repeat (first | exact Drawn0.refl _ | apply Drawn0.step)); first | done | fail) : p := h
theorem bu {w W : World} {g : Nat} {o : Obj} (h : w.heap[g]? = some o) (hu : w.heap[g]? = some o → W.heap[g]? = some o := by intro h_; (with_reducible repeat (first | refine blk_drewN ?_ _ | refine blk_drew ?_ | refine blk_alloc ?_ _)); exact h_) : W.heap[g]? = some o := hu h
theorem ru {α : Type} {d : Kd α} {e base : Nat} {ok : Nat → Prop} {w W : World} {v : Value} {xs : List α} (h : d.R e w base ok v xs) (hu : d.R e w base ok v xs → d.R e W base ok v xs := by intro h_; (with_reducible repeat (first | apply Kd.R_alloc | apply Kd.R_drewN | apply Kd.R_drew)); exact h_) : d.R e W base ok v xs := hu h
theorem obm {α β : Type} {x : Option α} {f : α → Option β} {b : β} (h : x.bind f = some b) : ∃ a, x = some a ∧ f a = some b := Option.bind_eq_some_iff.mp h
def bs (n m : Nat) : Array Bool := ⟨(List.range n).map fun i => m.testBit i⟩
theorem rf {α : Type} {d : Kd α} {e base : Nat} {ok : Nat → Prop} {W : World} {v : Value} {xs : List α} (g j : Nat) (h : d.R e W base ok v xs) (u : Value) (hp : ∀ k, ok k → k ≠ g := by exact fun _ hk => hk.2) : d.R e (W.setCell ⟨g, j, none⟩ u) base ok v xs := Kd.R_far h hp u
theorem bf {w W : World} {g : Nat} {t : TypeId} {cs : Array Value} (h : w.heap[g]? = some (.cells cs t (0, 0))) (hu : w.heap[g]? = some (.cells cs t (0, 0)) → W.heap[g]? = some (.cells cs t (0, 0)) := by intro h_; (repeat (first | (with_reducible first | exact h_ | refine blk_drewN ?_ _ | refine blk_drew ?_ | refine blk_alloc ?_ _) | ((with_reducible refine blk_far ?_ ?q_ _); (case q_ => exact Aside0.out (by assumption))))); first | done | fail) : W.heap[g]? = some (.cells cs t (0, 0)) := hu h
theorem ak {md : Region.Mode} {ops : Array Oper} {T : Bool × List (List Nat × List Nat)} {l l' : Array Bool} {i : Nat} (hT : rtab md ops = T) (h : anyT T l.toList l'.toList i = true := by kernel_rfl) : anyB md ops l l' i = true := any_of hT h
theorem sA {α : Type _} (l : List α) (i : Nat) (a : α) : l.toArray.setIfInBounds i a = (l.set i a).toArray := List.setIfInBounds_toArray ..
theorem sB {α : Type _} {x : α} {xs : List α} {a : α} : (x :: xs).set 0 a = a :: xs := List.set_cons_zero ..
theorem sC {α : Type _} {x : α} {xs : List α} {n : Nat} {a : α} : (x :: xs).set (n + 1) a = x :: xs.set n a := List.set_cons_succ ..
theorem am {p : Prop} (h : p) : Aside0 p := ⟨h⟩
theorem cu {α : Type} {d : Kd α} {w W : World} {A : Option Addr} {c : Nat} {xs : List α} (h : d.C w A c xs) (hu : d.C w A c xs → d.C W A c xs := by intro h_; (repeat (first | exact h_ | (with_reducible refine Kd.C_alloc ?_ _) | (with_reducible refine Kd.C_drewN ?_ _) | (with_reducible refine Kd.C_drew ?_))); first | done | fail) : d.C W A c xs := hu h
theorem nb1 {W w : World} {g n : Nat} {o : Obj} (hg : n = W.heap.size) (h : w.heap[g]? = some o) (hu : w.heap[g]? = some o → W.heap[g]? = some o := by intro h_; (with_reducible repeat (first | refine blk_drewN ?_ _ | refine blk_drew ?_ | refine blk_alloc ?_ _)); exact h_) : g ≠ n := hg ▸ Nat.ne_of_lt (blk_lt (hu h))
theorem nb2 {W w : World} {g n : Nat} {o : Obj} (hg : n = W.heap.size) (h : w.heap[g]? = some o) (hu : w.heap[g]? = some o → W.heap[g]? = some o := by intro h_; (with_reducible repeat (first | refine blk_drewN ?_ _ | refine blk_drew ?_ | refine blk_alloc ?_ _)); exact h_) : n ≠ g := hg ▸ Nat.ne_of_gt (blk_lt (hu h))
theorem beu {v w W : World} (h : Below v.heap.size v w) (hu : Below v.heap.size v w → Below v.heap.size v W := by intro h_; (repeat (first | (with_reducible first | exact h_ | apply below_alloc | apply pw_below_drewN | apply below_drew1) | refine below_set ?_ (Aside0.out (by assumption)) | exact h_)); first | done | fail) : Below v.heap.size v W := hu h
theorem beg {v w W : World} {g : Nat} (ge : v.heap.size ≤ g) (h : Below v.heap.size v w) (hu : v.heap.size ≤ g → Below v.heap.size v w → Below v.heap.size v W := by intro g_ h_; (repeat (first | (with_reducible first | exact h_ | apply below_alloc | apply pw_below_drewN | apply below_drew1 | refine below_set ?_ g_) | refine below_set ?_ (Aside0.out (by assumption)) | exact h_)); first | done | fail) : Below v.heap.size v W := hu ge h
theorem ku {v w W : World} {g : Nat} {row : Option Nat} (h : KeepBut v w g row) (hu : KeepBut v w g row → KeepBut v W g row := by intro h_; (repeat (first | (with_reducible first | exact h_ | apply KeepBut.set_ | apply keep_drewN | apply keep_drew | apply keep_alloc) | refine keep_far ?_ (Aside0.out (by assumption)) _ | exact h_)); first | done | fail) : KeepBut v W g row := hu h
theorem cells3 {W : World} {g : Nat} {t : TypeId} {x0 x1 x2 : Value} (h : W.heap[g]? = some (.cells #[x0, x1, x2] t (0, 0))) : W.cell? ⟨g, 0, none⟩ = some x0 ∧ W.cell? ⟨g, 1, none⟩ = some x1 ∧ W.cell? ⟨g, 2, none⟩ = some x2 := ⟨(blk_cell h 0).trans rfl, (blk_cell h 1).trans rfl, (blk_cell h 2).trans rfl⟩
theorem cells10 {W : World} {g : Nat} {t : TypeId} {x0 x1 x2 x3 x4 x5 x6 x7 x8 x9 : Value} (h : W.heap[g]? = some (.cells #[x0, x1, x2, x3, x4, x5, x6, x7, x8, x9] t (0, 0))) : W.cell? ⟨g, 0, none⟩ = some x0 ∧ W.cell? ⟨g, 1, none⟩ = some x1 ∧ W.cell? ⟨g, 2, none⟩ = some x2 ∧ W.cell? ⟨g, 3, none⟩ = some x3 ∧ W.cell? ⟨g, 4, none⟩ = some x4 ∧ W.cell? ⟨g, 5, none⟩ = some x5 ∧ W.cell? ⟨g, 6, none⟩ = some x6 ∧ W.cell? ⟨g, 7, none⟩ = some x7 ∧ W.cell? ⟨g, 8, none⟩ = some x8 ∧ W.cell? ⟨g, 9, none⟩ = some x9 := ⟨(blk_cell h 0).trans rfl, (blk_cell h 1).trans rfl, (blk_cell h 2).trans rfl, (blk_cell h 3).trans rfl, (blk_cell h 4).trans rfl, (blk_cell h 5).trans rfl, (blk_cell h 6).trans rfl, (blk_cell h 7).trans rfl, (blk_cell h 8).trans rfl, (blk_cell h 9).trans rfl⟩
theorem frozens3 {W : World} {g : Nat} {t : TypeId} {c : Array Value} (h : W.heap[g]? = some (.cells c t (0, 0))) : W.frozen? ⟨g, 0, none⟩ = false ∧ W.frozen? ⟨g, 1, none⟩ = false ∧ W.frozen? ⟨g, 2, none⟩ = false := ⟨blk_frozen h 0, blk_frozen h 1, blk_frozen h 2⟩
theorem frozens10 {W : World} {g : Nat} {t : TypeId} {c : Array Value} (h : W.heap[g]? = some (.cells c t (0, 0))) : W.frozen? ⟨g, 0, none⟩ = false ∧ W.frozen? ⟨g, 1, none⟩ = false ∧ W.frozen? ⟨g, 2, none⟩ = false ∧ W.frozen? ⟨g, 3, none⟩ = false ∧ W.frozen? ⟨g, 4, none⟩ = false ∧ W.frozen? ⟨g, 5, none⟩ = false ∧ W.frozen? ⟨g, 6, none⟩ = false ∧ W.frozen? ⟨g, 7, none⟩ = false ∧ W.frozen? ⟨g, 8, none⟩ = false ∧ W.frozen? ⟨g, 9, none⟩ = false := ⟨blk_frozen h 0, blk_frozen h 1, blk_frozen h 2, blk_frozen h 3, blk_frozen h 4, blk_frozen h 5, blk_frozen h 6, blk_frozen h 7, blk_frozen h 8, blk_frozen h 9⟩
end Go.Proofs.YtmcdbjcbfjnfoaaDoor.PAll
