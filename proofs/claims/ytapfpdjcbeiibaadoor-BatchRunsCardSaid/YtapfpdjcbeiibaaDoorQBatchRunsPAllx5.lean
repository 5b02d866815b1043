
import Derived.Test.YtapfpdjcbeiibaaDoorQBatchRunsPAllx0
import Derived.Test.YtapfpdjcbeiibaaDoorQBatchRunsPAllx2
import Derived.Test.YtapfpdjcbeiibaaDoorQBatchRunsPAllx3
import Derived.Test.YtapfpdjcbeiibaaDoorQBatchRunsPAllx4
namespace Go.Proofs.YtapfpdjcbeiibaaDoor.PAll
open Go.RowKit Go.Proofs.YtapfpdjcbeiibaaDoorW.PrintWords Go.Proofs.YtapfpdjcbeiibaaDoorW.PrintLast Go.Proofs.YtapfpdjcbeiibaaDoorW.PrintMore
attribute [local go_sem] max2_int max_two
set_option linter.unusedVariables false
set_option linter.unusedSimpArgs false
mutual
def packhorselaw11_BatchRuns.j0 : Nat → List (S34) → Bool → Int → Int → Int → Int → Int → ByteArray → ByteArray → ByteArray → List ByteArray → Int → Int → Option (Bool)
 | 0, _, _, _, _, _, _, _, _, _, _, _, _, _ => none
 | k + 1, x2, x29, X0, X1, X2, X3, X4, X5, X6, X7, X8, X9, X10 => if x29 = true then (some true) else (packhorselaw11_BatchRuns.l0 k x2 (x2.length : Int) 0 X0 X1 X2 X3 X4 X5 X6 X7 X8 X9 X10 X0 X1 X2 X3 X4 X5 X6 X7 X8)
def packhorselaw11_BatchRuns.l0 : Nat → List (S34) → Int → Int → Int → Int → Int → Int → Int → ByteArray → ByteArray → ByteArray → List ByteArray → Int → Int → Int → Int → Int → Int → Int → ByteArray → ByteArray → ByteArray → List ByteArray → Option (Bool)
 | 0, _, _, _, _, _, _, _, _, _, _, _, _, _, _, _, _, _, _, _, _, _, _, _ => none
 | k + 1, x31, x32, x33, X0, X1, X2, X3, X4, X5, X6, X7, X8, X9, X10, X11, X12, X13, X14, X15, X16, X17, X18, X19 => if x33 < x32 then (if 0 ≤ x33 then (if x33 < (x31.length : Int) then ((packhorseref02_Right.f ((rd_T34 x31 x33).f2)).bind fun t287 => (if t287 = true then (packhorselaw11_BatchRuns.j2 k x31 x32 x33 (decide ((((rd_T34 x31 x33).f1).size : Int) > 60)) X0 X1 X2 X3 X4 X5 X6 X7 X8 X9 X10 X11 X12 X13 X14 X15 X16 X17 X18 X19 ((rd_T34 x31 x33).f0) ((rd_T34 x31 x33).f1) ((rd_T34 x31 x33).f2)) else (packhorselaw11_BatchRuns.j2 k x31 x32 x33 true X0 X1 X2 X3 X4 X5 X6 X7 X8 X9 X10 X11 X12 X13 X14 X15 X16 X17 X18 X19 ((rd_T34 x31 x33).f0) ((rd_T34 x31 x33).f1) ((rd_T34 x31 x33).f2)))) else (none)) else (none)) else (some true)
def packhorselaw11_BatchRuns.j2 : Nat → List (S34) → Int → Int → Bool → Int → Int → Int → Int → Int → ByteArray → ByteArray → ByteArray → List ByteArray → Int → Int → Int → Int → Int → Int → Int → ByteArray → ByteArray → ByteArray → List ByteArray → Int → ByteArray → Int → Option (Bool)
 | 0, _, _, _, _, _, _, _, _, _, _, _, _, _, _, _, _, _, _, _, _, _, _, _, _, _, _, _ => none
 | k + 1, x31, x32, x33, x46, X0, X1, X2, X3, X4, X5, X6, X7, X8, X9, X10, X11, X12, X13, X14, X15, X16, X17, X18, X19, X20, X21, X22 => if x46 = true then (some true) else ((some (([] : List ByteArray) : List ByteArray)).bind fun y288 => (if y288.length + X8.length < 8796093022208 then ((some (y288 ++ X8 : List ByteArray)).bind fun y291 => (if X20 = 0 then ((batch_Join.f k X0 X1 X2 X3 X4 X5 X6 X7 X8 X9 X10 X21 X22).bind fun bt295 => ((packhorseref11_Join.f k X11 X12 X13 X14 X15 X16 X17 X18 X19 X9 X10 X21 X22).bind fun bt307 => (packhorselaw11_BatchRuns.j3 k y291 bt295.2.2.2.2.2.2.2.2.2 bt307.2.2.2.2.2.2.2.2.2 x31 x32 x33 bt295.1 bt295.2.1 bt295.2.2.1 bt295.2.2.2.1 bt295.2.2.2.2.1 bt295.2.2.2.2.2.1 bt295.2.2.2.2.2.2.1 bt295.2.2.2.2.2.2.2.1 bt295.2.2.2.2.2.2.2.2.1 X9 X10 bt307.1 bt307.2.1 bt307.2.2.1 bt307.2.2.2.1 bt307.2.2.2.2.1 bt307.2.2.2.2.2.1 bt307.2.2.2.2.2.2.1 bt307.2.2.2.2.2.2.2.1 bt307.2.2.2.2.2.2.2.2.1 X0 X1 X2 X3 X4 X5 X6 X7 X8))) else ((batch_Evict.f k X0 X1 X2 X3 X4 X5 X6 X7 X8 X21 X22).bind fun bt319 => ((packhorseref11_Evict.f k X11 X12 X13 X14 X15 X16 X17 X18 X19 X21 X22).bind fun bt331 => (packhorselaw11_BatchRuns.j3 k y291 bt319.2.2.2.2.2.2.2.2.2 bt331.2.2.2.2.2.2.2.2.2 x31 x32 x33 bt319.1 bt319.2.1 bt319.2.2.1 bt319.2.2.2.1 bt319.2.2.2.2.1 bt319.2.2.2.2.2.1 bt319.2.2.2.2.2.2.1 bt319.2.2.2.2.2.2.2.1 bt319.2.2.2.2.2.2.2.2.1 X9 X10 bt331.1 bt331.2.1 bt331.2.2.1 bt331.2.2.2.1 bt331.2.2.2.2.1 bt331.2.2.2.2.2.1 bt331.2.2.2.2.2.2.1 bt331.2.2.2.2.2.2.2.1 bt331.2.2.2.2.2.2.2.2.1 X0 X1 X2 X3 X4 X5 X6 X7 X8))))) else (none)))
def packhorselaw11_BatchRuns.j3 : Nat → List ByteArray → Int → Int → List (S34) → Int → Int → Int → Int → Int → Int → Int → ByteArray → ByteArray → ByteArray → List ByteArray → Int → Int → Int → Int → Int → Int → Int → ByteArray → ByteArray → ByteArray → List ByteArray → Int → Int → Int → Int → Int → ByteArray → ByteArray → ByteArray → List ByteArray → Option (Bool)
 | 0, _, _, _, _, _, _, _, _, _, _, _, _, _, _, _, _, _, _, _, _, _, _, _, _, _, _, _, _, _, _, _, _, _, _, _ => none
 | k + 1, x10, x12, x13, x31, x32, x33, X0, X1, X2, X3, X4, X5, X6, X7, X8, X9, X10, X11, X12, X13, X14, X15, X16, X17, X18, X19, X23, X24, X25, X26, X27, X28, X29, X30, X31 => if x12 = x13 then ((packhorseref11_Same.f k X0 X1 X2 X3 X4 X5 X6 X7 X8 X11 X12 X13 X14 X15 X16 X17 X18 X19).bind fun t343 => (if t343 = true then (if (X31.length : Int) = (x10.length : Int) then ((batch_Full.f X0 X1 X2 X3 X4 X5 X6 X7 X8 X9 X10).bind fun t344 => (if (X19.length : Int) ≥ X9 then (packhorselaw11_BatchRuns.j4 k x10 x31 x32 x33 (t344 != true) X0 X1 X2 X3 X4 X5 X6 X7 X8 X9 X10 X11 X12 X13 X14 X15 X16 X17 X18 X19 X23 X24 X25 X26 X27 X28 X29 X30 X31) else (packhorselaw11_BatchRuns.j4 k x10 x31 x32 x33 (t344 != (decide (X12 ≥ X10))) X0 X1 X2 X3 X4 X5 X6 X7 X8 X9 X10 X11 X12 X13 X14 X15 X16 X17 X18 X19 X23 X24 X25 X26 X27 X28 X29 X30 X31))) else (packhorselaw11_BatchRuns.j4 k x10 x31 x32 x33 true X0 X1 X2 X3 X4 X5 X6 X7 X8 X9 X10 X11 X12 X13 X14 X15 X16 X17 X18 X19 X23 X24 X25 X26 X27 X28 X29 X30 X31)) else (packhorselaw11_BatchRuns.j4 k x10 x31 x32 x33 true X0 X1 X2 X3 X4 X5 X6 X7 X8 X9 X10 X11 X12 X13 X14 X15 X16 X17 X18 X19 X23 X24 X25 X26 X27 X28 X29 X30 X31))) else (packhorselaw11_BatchRuns.j4 k x10 x31 x32 x33 true X0 X1 X2 X3 X4 X5 X6 X7 X8 X9 X10 X11 X12 X13 X14 X15 X16 X17 X18 X19 X23 X24 X25 X26 X27 X28 X29 X30 X31)
def packhorselaw11_BatchRuns.j4 : Nat → List ByteArray → List (S34) → Int → Int → Bool → Int → Int → Int → Int → Int → ByteArray → ByteArray → ByteArray → List ByteArray → Int → Int → Int → Int → Int → Int → Int → ByteArray → ByteArray → ByteArray → List ByteArray → Int → Int → Int → Int → Int → ByteArray → ByteArray → ByteArray → List ByteArray → Option (Bool)
 | 0, _, _, _, _, _, _, _, _, _, _, _, _, _, _, _, _, _, _, _, _, _, _, _, _, _, _, _, _, _, _, _, _, _, _ => none
 | k + 1, x10, x31, x32, x33, x128, X0, X1, X2, X3, X4, X5, X6, X7, X8, X9, X10, X11, X12, X13, X14, X15, X16, X17, X18, X19, X23, X24, X25, X26, X27, X28, X29, X30, X31 => if x128 = true then (some false) else (packhorselaw11_BatchRuns.l1 k x10 x31 x32 x33 (x10.length : Int) 0 X0 X1 X2 X3 X4 X5 X6 X7 X8 X9 X10 X11 X12 X13 X14 X15 X16 X17 X18 X19 X23 X24 X25 X26 X27 X28 X29 X30 X31)
def packhorselaw11_BatchRuns.l1 : Nat → List ByteArray → List (S34) → Int → Int → Int → Int → Int → Int → Int → Int → Int → ByteArray → ByteArray → ByteArray → List ByteArray → Int → Int → Int → Int → Int → Int → Int → ByteArray → ByteArray → ByteArray → List ByteArray → Int → Int → Int → Int → Int → ByteArray → ByteArray → ByteArray → List ByteArray → Option (Bool)
 | 0, _, _, _, _, _, _, _, _, _, _, _, _, _, _, _, _, _, _, _, _, _, _, _, _, _, _, _, _, _, _, _, _, _, _, _ => none
 | k + 1, x10, x31, x32, x33, x130, x131, X0, X1, X2, X3, X4, X5, X6, X7, X8, X9, X10, X11, X12, X13, X14, X15, X16, X17, X18, X19, X23, X24, X25, X26, X27, X28, X29, X30, X31 => if x131 < x130 then (if 0 ≤ x131 then (if x131 < (X31.length : Int) then (if x131 < (x10.length : Int) then (if (rdOf ByteArray.empty X31 x131).toList = (rdOf ByteArray.empty x10 x131).toList then (packhorselaw11_BatchRuns.l1 k x10 x31 x32 x33 x130 (wrap64 (x131 + 1)) X0 X1 X2 X3 X4 X5 X6 X7 X8 X9 X10 X11 X12 X13 X14 X15 X16 X17 X18 X19 X23 X24 X25 X26 X27 X28 X29 X30 X31) else (some false)) else (none)) else (none)) else (none)) else (packhorselaw11_BatchRuns.l0 k x31 x32 (wrap64 (x33 + 1)) X0 X1 X2 X3 X4 X5 X6 X7 X8 X9 X10 X11 X12 X13 X14 X15 X16 X17 X18 X19)
end
def packhorselaw11_BatchRuns.f (k : Nat) (a0_0 : Int) (a0_1 : Int) (a0_2 : Int) (a0_3 : Int) (a0_4 : Int) (a0_5 : ByteArray) (a0_6 : ByteArray) (a0_7 : ByteArray) (l0_8 : List ByteArray) (a1_0 : Int) (a1_1 : Int) (l2 : List (S34)) : Option (Bool) := (packhorselaw11_batchAlive.f k).bind fun t281 => (if t281 = true then ((packhorseref11_Right.f k a0_0 a0_1 a0_2 a0_3 a0_4 a0_5 a0_6 a0_7 l0_8).bind fun t282 => (if t282 = true then ((packhorseref11_Caps.f a1_0 a1_1).bind fun t283 => (if t283 = true then (packhorselaw11_BatchRuns.j0 k l2 (decide ((l2.length : Int) > 100)) a0_0 a0_1 a0_2 a0_3 a0_4 a0_5 a0_6 a0_7 l0_8 a1_0 a1_1) else (packhorselaw11_BatchRuns.j0 k l2 true a0_0 a0_1 a0_2 a0_3 a0_4 a0_5 a0_6 a0_7 l0_8 a1_0 a1_1))) else (packhorselaw11_BatchRuns.j0 k l2 true a0_0 a0_1 a0_2 a0_3 a0_4 a0_5 a0_6 a0_7 l0_8 a1_0 a1_1))) else (some false))
def packhorselaw11_BatchRuns.T19 : Bool × List (List Nat × List Nat) := (true, [([], []), ([], []), ([0, 1], [0, 1]), ([2], [2]), ([3], [3]), ([3], [3]), ([4, 5, 3, 3], [3, 4, 5]), ([6, 3], [3, 6]), ([3, 7], [3, 7]), ([8, 6], [8]), ([9], [9]), ([10, 9], [9, 10]), ([11, 9], [9, 11]), ([9], [9]), ([13, 9], [9, 13]), ([12, 14, 9], [9, 12, 14]), ([9, 15], [9, 15]), ([16, 9], [16]), ([17], [17]), ([17], [17]), ([18, 19, 17, 17], [17, 18, 19]), ([17], [17]), ([21, 17], [17, 21]), ([22, 17], [17, 22]), ([17], [17]), ([24, 17], [17, 24]), ([23, 25, 17], [17, 23, 25]), ([26, 20, 17], [17, 26]), ([27], [27]), ([28, 27], [27, 28]), ([27], [27]), ([30, 27], [27, 30]), ([29, 31, 27], [27, 29, 31]), ([27, 32, 17], [17, 27, 32]), ([20, 33, 17], [17, 20, 33]), ([17, 34], [17, 34])])
def packhorselaw11_BatchRuns.B19 : List Nat := [0, 0, 3, 7, 15, 15, 63, 127, 255, 511, 1023, 2047, 4095, 1023, 9215, 32767, 65535, 131071, 262143, 262143, 1048575, 262143, 2359295, 6553599, 262143, 17039359, 65273855, 134217727, 268435455, 536870911, 268435455, 1342177279, 4294967295, 8589934591, 17179869183, 34359738367]
theorem packhorselaw11_BatchRuns.tab19 : rtab .any (opsOf Tryd.f5 19) = packhorselaw11_BatchRuns.T19 := by kernel_rfl
theorem packhorselaw11_BatchRuns.bits19 : waitsOk packhorselaw11_BatchRuns.T19.2 packhorselaw11_BatchRuns.B19 = true := by kernel_rfl
def packhorselaw11_BatchRuns.T24 : Bool × List (List Nat × List Nat) := (true, [([], []), ([0], [0]), ([], []), ([1, 2], [1, 2]), ([3], [3]), ([], []), ([], []), ([5, 6], [5, 6]), ([7], [7]), ([4, 8], [4, 8])])
def packhorselaw11_BatchRuns.B24 : List Nat := [0, 1, 0, 7, 15, 0, 0, 96, 224, 511]
theorem packhorselaw11_BatchRuns.tab24 : rtab .any (opsOf Tryd.f5 24) = packhorselaw11_BatchRuns.T24 := by kernel_rfl
theorem packhorselaw11_BatchRuns.bits24 : waitsOk packhorselaw11_BatchRuns.T24.2 packhorselaw11_BatchRuns.B24 = true := by kernel_rfl
set_option maxHeartbeats 8000000 in
set_option maxRecDepth 100000 in
theorem packhorselaw11_BatchRuns.calls (k : Nat) (a0_0 : Int) (a0_1 : Int) (a0_2 : Int) (a0_3 : Int) (a0_4 : Int) (a0_5 : ByteArray) (a0_6 : ByteArray) (a0_7 : ByteArray) (P0_8_ : Nat → Prop) (A0_8 : Option Addr) (c0_8 : Nat) (l0_8 : List ByteArray) (a1_0 : Int) (a1_1 : Int) (A2 : Option Addr) (c2 : Nat) (l2 : List (S34)) (r : Bool) (w : World) (hs0_8 : Kd.V Kd.string 9 w w.heap.size (fun k_ => P0_8_ k_) (.slice A0_8 l0_8.length c0_8) l0_8) (hr2 : Kd.C k34 w A2 l2.length l2) (hc2 : l2.length ≤ c2) (hT : Tabs w) (h : packhorselaw11_BatchRuns.f k a0_0 a0_1 a0_2 a0_3 a0_4 a0_5 a0_6 a0_7 l0_8 a1_0 a1_1 l2 = some r) (hr_ : r = true) :
  Calls Tryd.prog 5 #[.agg #[.int .i64 a0_0, .int .i64 a0_1, .int .i64 a0_2, .int .i64 a0_3, .int .i64 a0_4, .string a0_5, .string a0_6, .string a0_7, .slice A0_8 l0_8.length c0_8], .agg #[.int .i64 a1_0, .int .i64 a1_1], .slice A2 l2.length c2] w fun e w' => e = .returned (.bool r) ∧ Below w.heap.size w w' := by
 have hu31 := Tryd.underlying31; have hu23 := Tryd.underlying23; have hu34 := Tryd.underlying34; have HO0_8 := am (show Kd.V Kd.string 9 w w.heap.size (fun k_ => (P0_8_ k_ ∨ w.heap.size ≤ k_)) (.slice A0_8 l0_8.length c0_8) l0_8 from Kd.V_mono hs0_8 (fun k_ hk => .inl hk)); have HR2 := am hr2; have HC2 := am hc2; clear hr2 hc2; have HRT := am hr_; clear hr_; have HT := am hT; clear hT; have HB := am (Below.refl w.heap.size w); have H : ((packhorselaw11_batchAlive.f k).bind fun t281 => (if t281 = true then ((packhorseref11_Right.f k a0_0 a0_1 a0_2 a0_3 a0_4 a0_5 a0_6 a0_7 l0_8).bind fun t282 => (if t282 = true then ((packhorseref11_Caps.f a1_0 a1_1).bind fun t283 => (if t283 = true then (packhorselaw11_BatchRuns.j0 k l2 (decide ((l2.length : Int) > 100)) a0_0 a0_1 a0_2 a0_3 a0_4 a0_5 a0_6 a0_7 l0_8 a1_0 a1_1) else (packhorselaw11_BatchRuns.j0 k l2 true a0_0 a0_1 a0_2 a0_3 a0_4 a0_5 a0_6 a0_7 l0_8 a1_0 a1_1))) else (packhorselaw11_BatchRuns.j0 k l2 true a0_0 a0_1 a0_2 a0_3 a0_4 a0_5 a0_6 a0_7 l0_8 a1_0 a1_1))) else (some false))) = some r := h; clear h; replace H := obm H; obtain ⟨t281, A40, H⟩ := H; replace H : (if t281 = true then ((packhorseref11_Right.f k a0_0 a0_1 a0_2 a0_3 a0_4 a0_5 a0_6 a0_7 l0_8).bind fun t282 => (if t282 = true then ((packhorseref11_Caps.f a1_0 a1_1).bind fun t283 => (if t283 = true then (packhorselaw11_BatchRuns.j0 k l2 (decide ((l2.length : Int) > 100)) a0_0 a0_1 a0_2 a0_3 a0_4 a0_5 a0_6 a0_7 l0_8 a1_0 a1_1) else (packhorselaw11_BatchRuns.j0 k l2 true a0_0 a0_1 a0_2 a0_3 a0_4 a0_5 a0_6 a0_7 l0_8 a1_0 a1_1))) else (packhorselaw11_BatchRuns.j0 k l2 true a0_0 a0_1 a0_2 a0_3 a0_4 a0_5 a0_6 a0_7 l0_8 a1_0 a1_1))) else (some false)) = some r := H; have A4 := am A40; clear A40
 by_cases c5 : t281 = true
 ·subst c5
  have H1 : ((packhorseref11_Right.f k a0_0 a0_1 a0_2 a0_3 a0_4 a0_5 a0_6 a0_7 l0_8).bind fun t282 => (if t282 = true then ((packhorseref11_Caps.f a1_0 a1_1).bind fun t283 => (if t283 = true then (packhorselaw11_BatchRuns.j0 k l2 (decide ((l2.length : Int) > 100)) a0_0 a0_1 a0_2 a0_3 a0_4 a0_5 a0_6 a0_7 l0_8 a1_0 a1_1) else (packhorselaw11_BatchRuns.j0 k l2 true a0_0 a0_1 a0_2 a0_3 a0_4 a0_5 a0_6 a0_7 l0_8 a1_0 a1_1))) else (packhorselaw11_BatchRuns.j0 k l2 true a0_0 a0_1 a0_2 a0_3 a0_4 a0_5 a0_6 a0_7 l0_8 a1_0 a1_1))) = some r := by rw [if_pos rfl] at H; exact H
  clear H; have H := H1; clear H1; have HC6 := am H; clear H
  go_enter Tryd.func5, Tryd.ntmps5
  go_upto_region 3 with (first | ((with_reducible refine gate_dst (N := 3) rfl ?_); (try (refine gate_guard (by rfl) ?_; dsimp only)); refine box_event ?hg (N := 3) ?hd (cs := #[.int .i64 a0_0, .int .i64 a0_1, .int .i64 a0_2, .int .i64 a0_3, .int .i64 a0_4, .string a0_5, .string a0_6, .string a0_7, .slice A0_8 l0_8.length c0_8]) (t := 31) ?hr ?_; (case hd => rfl); (case hg => rfl); (case hr => first | (go_simp; done) | (go_simp; rfl)); intro gb279 hg w7 hbox hb; have _ := am (Kd.V_below (Kd.V_elderB (by (with_reducible repeat (first | apply Kd.V_alloc | apply Kd.V_drewN | apply Kd.V_drew)); exact HO0_8.out) gb279 (Nat.le_of_eq hg.symm)) hb); have _ := am (below_step (beu HB.out) hb); have _ := am (hbox); have _ := am ((by rw [hg]; exact (below_size (beu HB.out)) : w.heap.size ≤ gb279)); have _ := am ((by rw [hg]; exact (below_size (beu HB.out)) : w.heap.size ≤ gb279)); clear HO0_8 HB; rename_i HO0_8 HB BK279 GW279 GE279; clear hb hbox hg) | ((with_reducible refine gate_dst (N := 4) rfl ?_); (try (refine gate_guard (by rfl) ?_; dsimp only)); refine box_event ?hg (N := 4) ?hd (cs := #[.int .i64 a1_0, .int .i64 a1_1]) (t := 23) ?hr ?_; (case hd => rfl); (case hg => rfl); (case hr => first | (go_simp; done) | (go_simp; rfl)); intro gb280 hg w8 hbox hb; have _ := am (Kd.V_below (Kd.V_elderB (by (with_reducible repeat (first | apply Kd.V_alloc | apply Kd.V_drewN | apply Kd.V_drew)); exact HO0_8.out) gb280 (Nat.le_of_eq hg.symm)) hb); have _ := am (blk_below (bu BK279.out) hb); have _ := am (below_step (beu HB.out) hb); have _ := am (hbox); have _ := am ((by rw [hg]; exact (below_size (beu HB.out)) : w.heap.size ≤ gb280)); have _ := am ((by rw [hg]; exact (below_size (beu HB.out)) : w.heap.size ≤ gb280)); have _ := am (nb1 hg BK279.out : gb279 ≠ gb280); have _ := am (nb2 hg BK279.out : gb280 ≠ gb279); clear HO0_8 BK279 HB; rename_i HO0_8 BK279 HB BK280 GW280 GE280 NB279_280 NB280_279; clear hb hbox hg) | ((with_reducible refine gate_callee (f := 10) rfl ?_); refine goesL_ (some 15) rfl rfl Tryd.func10 (by kernel_rfl) rfl #[] rfl ap1 ?_; (with_reducible refine (packhorselaw11_batchAlive.calls k  true _ ?side1 A4.out rfl).mono ?_); (case side1 => first | exact HT.out | exact Tabs.below HT.out (beu HB.out)); rintro e w9 ⟨rfl, hb⟩; refine ⟨_, rfl, ?_⟩; have _ := am (Kd.V_below (by (with_reducible repeat (first | apply Kd.V_alloc | apply Kd.V_drewN | apply Kd.V_drew)); exact HO0_8.out) hb); have _ := am (blk_below (bu BK279.out) hb); have _ := am (blk_below (bu BK280.out) hb); have _ := am (below_step (beu HB.out) hb); clear HO0_8 BK279 BK280 HB; rename_i HO0_8 BK279 BK280 HB; (try clear hb)))
  (try simp only [Act.put, sA, sB, sC])
  go_cut [29] (fun v29 wc => ∃ (kq : Nat) (x29_5 : Bool), v29 = .bool x29_5 ∧ Aside0 (packhorselaw11_BatchRuns.j0 kq l2 x29_5 a0_0 a0_1 a0_2 a0_3 a0_4 a0_5 a0_6 a0_7 l0_8 a1_0 a1_1 = some r) ∧ Aside0 (kq ≤ k) ∧ Aside0 (Kd.V Kd.string 9 wc w.heap.size (fun k_ => (P0_8_ k_ ∨ w.heap.size ≤ k_) ∧ k_ ≠ gb279 ∧ k_ ≠ gb280) (.slice A0_8 l0_8.length c0_8) l0_8) ∧ Aside0 (wc.heap[gb279]? = some (.cells #[.int .i64 a0_0, .int .i64 a0_1, .int .i64 a0_2, .int .i64 a0_3, .int .i64 a0_4, .string a0_5, .string a0_6, .string a0_7, (.slice A0_8 l0_8.length c0_8)] 31 (0, 0))) ∧ Aside0 (wc.heap[gb280]? = some (.cells #[.int .i64 a1_0, .int .i64 a1_1] 23 (0, 0))) ∧ Aside0 (Below w.heap.size w wc))
  case first =>
   have H := HC6.out; clear HC6; replace H := obm H; obtain ⟨t282, A100, H⟩ := H; replace H : (if t282 = true then ((packhorseref11_Caps.f a1_0 a1_1).bind fun t283 => (if t283 = true then (packhorselaw11_BatchRuns.j0 k l2 (decide ((l2.length : Int) > 100)) a0_0 a0_1 a0_2 a0_3 a0_4 a0_5 a0_6 a0_7 l0_8 a1_0 a1_1) else (packhorselaw11_BatchRuns.j0 k l2 true a0_0 a0_1 a0_2 a0_3 a0_4 a0_5 a0_6 a0_7 l0_8 a1_0 a1_1))) else (packhorselaw11_BatchRuns.j0 k l2 true a0_0 a0_1 a0_2 a0_3 a0_4 a0_5 a0_6 a0_7 l0_8 a1_0 a1_1)) = some r := H; have A10 := am A100; clear A100
   by_cases c11 : t282 = true
   ·subst c11
    have H1 : ((packhorseref11_Caps.f a1_0 a1_1).bind fun t283 => (if t283 = true then (packhorselaw11_BatchRuns.j0 k l2 (decide ((l2.length : Int) > 100)) a0_0 a0_1 a0_2 a0_3 a0_4 a0_5 a0_6 a0_7 l0_8 a1_0 a1_1) else (packhorselaw11_BatchRuns.j0 k l2 true a0_0 a0_1 a0_2 a0_3 a0_4 a0_5 a0_6 a0_7 l0_8 a1_0 a1_1))) = some r := by rw [if_pos rfl] at H; exact H
    clear H; have H := H1; clear H1; replace H := obm H; obtain ⟨t283, A120, H⟩ := H; replace H : (if t283 = true then (packhorselaw11_BatchRuns.j0 k l2 (decide ((l2.length : Int) > 100)) a0_0 a0_1 a0_2 a0_3 a0_4 a0_5 a0_6 a0_7 l0_8 a1_0 a1_1) else (packhorselaw11_BatchRuns.j0 k l2 true a0_0 a0_1 a0_2 a0_3 a0_4 a0_5 a0_6 a0_7 l0_8 a1_0 a1_1)) = some r := H; have A12 := am A120; clear A120
    by_cases c13 : t283 = true
    ·subst c13
     have H1 : (packhorselaw11_BatchRuns.j0 k l2 (decide ((l2.length : Int) > 100)) a0_0 a0_1 a0_2 a0_3 a0_4 a0_5 a0_6 a0_7 l0_8 a1_0 a1_1) = some r := by rw [if_pos rfl] at H; exact H
     clear H; have H := H1; clear H1; have H' := am H; clear H; have := NB279_280.out; have := NB280_279.out; obtain ⟨hcz15_0, hcz15_1, hcz15_2, hcz15_3, hcz15_4, hcz15_5, hcz15_6, hcz15_7, hcz15_8⟩ := cells9 BK279.out; obtain ⟨hfz15_0, hfz15_1, hfz15_2, hfz15_3, hfz15_4, hfz15_5, hfz15_6, hfz15_7, hfz15_8⟩ := frozens9 BK279.out
     go_wp2_with (first | ((with_reducible refine gate_callee (f := 16) rfl ?_); refine goesL_ (some 18) rfl rfl Tryd.func16 (by kernel_rfl) rfl #[.agg #[.int .i64 a0_0, .int .i64 a0_1, .int .i64 a0_2, .int .i64 a0_3, .int .i64 a0_4, .string a0_5, .string a0_6, .string a0_7, .slice A0_8 l0_8.length c0_8]] rfl ap1 ?_; (with_reducible refine (packhorseref11_Right.calls k a0_0 a0_1 a0_2 a0_3 a0_4 a0_5 a0_6 a0_7 _ _ l0_8 true _ ?side1 ?side2 A10.out).mono ?_); (case side1 => repeat (first | exact (Kd.V_reads' HO0_8.out).2.2 | (with_reducible refine Kd.C_alloc ?_ _) | (with_reducible refine Kd.C_drewN ?_ _) | (with_reducible refine Kd.C_drew ?_))); (case side2 => exact (Kd.V_reads' HO0_8.out).2.1); rintro e w16 ⟨rfl, hb⟩; refine ⟨_, rfl, ?_⟩; have _ := am (Kd.V_below (by (with_reducible repeat (first | apply Kd.V_alloc | apply Kd.V_drewN | apply Kd.V_drew)); exact HO0_8.out) hb); have _ := am (blk_below (bu BK279.out) hb); have _ := am (blk_below (bu BK280.out) hb); have _ := am (below_step (beu HB.out) hb); clear HO0_8 BK279 BK280 HB; rename_i HO0_8 BK279 BK280 HB; (try clear hb); obtain ⟨hcz17_0, hcz17_1⟩ := cells2 BK280.out; obtain ⟨hfz17_0, hfz17_1⟩ := frozens2 BK280.out) | (go_at_call 17; (with_reducible refine (packhorseref11_Caps.calls a1_0 a1_1 true _ A12.out).mono ?_); rintro e w18 ⟨rfl, hb⟩; have _ := am (Kd.V_below (by (with_reducible repeat (first | apply Kd.V_alloc | apply Kd.V_drewN | apply Kd.V_drew)); exact HO0_8.out) hb); have _ := am (blk_below (bu BK279.out) hb); have _ := am (blk_below (bu BK280.out) hb); have _ := am (below_step (beu HB.out) hb); clear HO0_8 BK279 BK280 HB; rename_i HO0_8 BK279 BK280 HB; (try clear hb)))
     go_meet
     case rel => exact ⟨_, (decide ((l2.length : Int) > 100)), ap3, H', ⟨by first | omega | exact Nat.le_refl _⟩, ⟨by (with_reducible repeat (first | apply Kd.V_alloc | apply Kd.V_drewN | apply Kd.V_drew)); exact Kd.V_mono HO0_8.out (fun _ hk => ⟨hk.1.1, ⟨hk.1.2, hk.2⟩⟩)⟩, ⟨by refine bu ?_; exact BK279.out⟩, ⟨by refine bu ?_; exact BK280.out⟩, ⟨beu HB.out⟩⟩
    ·replace c13 := Bool.eq_false_iff.mpr c13
     subst c13
     have H1 : (packhorselaw11_BatchRuns.j0 k l2 true a0_0 a0_1 a0_2 a0_3 a0_4 a0_5 a0_6 a0_7 l0_8 a1_0 a1_1) = some r := by rw [if_neg (show ¬ (false = true) by decide)] at H; exact H
     clear H; have H := H1; clear H1; have H' := am H; clear H; have := NB279_280.out; have := NB280_279.out; obtain ⟨hcz20_0, hcz20_1, hcz20_2, hcz20_3, hcz20_4, hcz20_5, hcz20_6, hcz20_7, hcz20_8⟩ := cells9 BK279.out; obtain ⟨hfz20_0, hfz20_1, hfz20_2, hfz20_3, hfz20_4, hfz20_5, hfz20_6, hfz20_7, hfz20_8⟩ := frozens9 BK279.out
     go_wp2_with (first | ((with_reducible refine gate_callee (f := 16) rfl ?_); refine goesL_ (some 18) rfl rfl Tryd.func16 (by kernel_rfl) rfl #[.agg #[.int .i64 a0_0, .int .i64 a0_1, .int .i64 a0_2, .int .i64 a0_3, .int .i64 a0_4, .string a0_5, .string a0_6, .string a0_7, .slice A0_8 l0_8.length c0_8]] rfl ap1 ?_; (with_reducible refine (packhorseref11_Right.calls k a0_0 a0_1 a0_2 a0_3 a0_4 a0_5 a0_6 a0_7 _ _ l0_8 true _ ?side1 ?side2 A10.out).mono ?_); (case side1 => repeat (first | exact (Kd.V_reads' HO0_8.out).2.2 | (with_reducible refine Kd.C_alloc ?_ _) | (with_reducible refine Kd.C_drewN ?_ _) | (with_reducible refine Kd.C_drew ?_))); (case side2 => exact (Kd.V_reads' HO0_8.out).2.1); rintro e w21 ⟨rfl, hb⟩; refine ⟨_, rfl, ?_⟩; have _ := am (Kd.V_below (by (with_reducible repeat (first | apply Kd.V_alloc | apply Kd.V_drewN | apply Kd.V_drew)); exact HO0_8.out) hb); have _ := am (blk_below (bu BK279.out) hb); have _ := am (blk_below (bu BK280.out) hb); have _ := am (below_step (beu HB.out) hb); clear HO0_8 BK279 BK280 HB; rename_i HO0_8 BK279 BK280 HB; (try clear hb); obtain ⟨hcz22_0, hcz22_1⟩ := cells2 BK280.out; obtain ⟨hfz22_0, hfz22_1⟩ := frozens2 BK280.out) | (go_at_call 17; (with_reducible refine (packhorseref11_Caps.calls a1_0 a1_1 false _ A12.out).mono ?_); rintro e w23 ⟨rfl, hb⟩; have _ := am (Kd.V_below (by (with_reducible repeat (first | apply Kd.V_alloc | apply Kd.V_drewN | apply Kd.V_drew)); exact HO0_8.out) hb); have _ := am (blk_below (bu BK279.out) hb); have _ := am (blk_below (bu BK280.out) hb); have _ := am (below_step (beu HB.out) hb); clear HO0_8 BK279 BK280 HB; rename_i HO0_8 BK279 BK280 HB; (try clear hb)))
     go_meet
     case rel => exact ⟨_, (true), ap3, H', ⟨by first | omega | exact Nat.le_refl _⟩, ⟨by (with_reducible repeat (first | apply Kd.V_alloc | apply Kd.V_drewN | apply Kd.V_drew)); exact Kd.V_mono HO0_8.out (fun _ hk => ⟨hk.1.1, ⟨hk.1.2, hk.2⟩⟩)⟩, ⟨by refine bu ?_; exact BK279.out⟩, ⟨by refine bu ?_; exact BK280.out⟩, ⟨beu HB.out⟩⟩
   ·replace c11 := Bool.eq_false_iff.mpr c11
    subst c11
    have H1 : (packhorselaw11_BatchRuns.j0 k l2 true a0_0 a0_1 a0_2 a0_3 a0_4 a0_5 a0_6 a0_7 l0_8 a1_0 a1_1) = some r := by rw [if_neg (show ¬ (false = true) by decide)] at H; exact H
    clear H; have H := H1; clear H1; have H' := am H; clear H; have := NB279_280.out; have := NB280_279.out; obtain ⟨hcz25_0, hcz25_1, hcz25_2, hcz25_3, hcz25_4, hcz25_5, hcz25_6, hcz25_7, hcz25_8⟩ := cells9 BK279.out; obtain ⟨hfz25_0, hfz25_1, hfz25_2, hfz25_3, hfz25_4, hfz25_5, hfz25_6, hfz25_7, hfz25_8⟩ := frozens9 BK279.out
    go_wp2_with (first | ((with_reducible refine gate_callee (f := 16) rfl ?_); refine goesL_ (some 18) rfl rfl Tryd.func16 (by kernel_rfl) rfl #[.agg #[.int .i64 a0_0, .int .i64 a0_1, .int .i64 a0_2, .int .i64 a0_3, .int .i64 a0_4, .string a0_5, .string a0_6, .string a0_7, .slice A0_8 l0_8.length c0_8]] rfl ap1 ?_; (with_reducible refine (packhorseref11_Right.calls k a0_0 a0_1 a0_2 a0_3 a0_4 a0_5 a0_6 a0_7 _ _ l0_8 false _ ?side1 ?side2 A10.out).mono ?_); (case side1 => repeat (first | exact (Kd.V_reads' HO0_8.out).2.2 | (with_reducible refine Kd.C_alloc ?_ _) | (with_reducible refine Kd.C_drewN ?_ _) | (with_reducible refine Kd.C_drew ?_))); (case side2 => exact (Kd.V_reads' HO0_8.out).2.1); rintro e w26 ⟨rfl, hb⟩; refine ⟨_, rfl, ?_⟩; have _ := am (Kd.V_below (by (with_reducible repeat (first | apply Kd.V_alloc | apply Kd.V_drewN | apply Kd.V_drew)); exact HO0_8.out) hb); have _ := am (blk_below (bu BK279.out) hb); have _ := am (blk_below (bu BK280.out) hb); have _ := am (below_step (beu HB.out) hb); clear HO0_8 BK279 BK280 HB; rename_i HO0_8 BK279 BK280 HB; (try clear hb)))
    go_meet
    case rel => exact ⟨_, (true), ap3, H', ⟨by first | omega | exact Nat.le_refl _⟩, ⟨by (with_reducible repeat (first | apply Kd.V_alloc | apply Kd.V_drewN | apply Kd.V_drew)); exact Kd.V_mono HO0_8.out (fun _ hk => ⟨hk.1.1, ⟨hk.1.2, hk.2⟩⟩)⟩, ⟨by refine bu ?_; exact BK279.out⟩, ⟨by refine bu ?_; exact BK280.out⟩, ⟨beu HB.out⟩⟩
  case rest =>
   clear HC6; (try clear c1); (try clear c2); (try clear p2); (try clear c5); (try clear c10); (try clear c11); (try clear c13); (try clear c14); (try clear c16); (try clear c19); (try clear c24); (try clear hcz15_0); (try clear hcz15_1); (try clear hcz15_2); (try clear hcz15_3); (try clear hcz15_4); (try clear hcz15_5); (try clear hcz15_6); (try clear hcz15_7); (try clear hcz15_8); (try clear hcz17_0); (try clear hcz17_1); (try clear hcz20_0); (try clear hcz20_1); (try clear hcz20_2); (try clear hcz20_3); (try clear hcz20_4); (try clear hcz20_5); (try clear hcz20_6); (try clear hcz20_7); (try clear hcz20_8); (try clear hcz22_0); (try clear hcz22_1); (try clear hcz25_0); (try clear hcz25_1); (try clear hcz25_2); (try clear hcz25_3); (try clear hcz25_4); (try clear hcz25_5); (try clear hcz25_6); (try clear hcz25_7); (try clear hcz25_8); (try clear hfz15_0); (try clear hfz15_1); (try clear hfz15_2); (try clear hfz15_3); (try clear hfz15_4); (try clear hfz15_5); (try clear hfz15_6); (try clear hfz15_7); (try clear hfz15_8); (try clear hfz17_0); (try clear hfz17_1); (try clear hfz20_0); (try clear hfz20_1); (try clear hfz20_2); (try clear hfz20_3); (try clear hfz20_4); (try clear hfz20_5); (try clear hfz20_6); (try clear hfz20_7); (try clear hfz20_8); (try clear hfz22_0); (try clear hfz22_1); (try clear hfz25_0); (try clear hfz25_1); (try clear hfz25_2); (try clear hfz25_3); (try clear hfz25_4); (try clear hfz25_5); (try clear hfz25_6); (try clear hfz25_7); (try clear hfz25_8); obtain ⟨kq, x29_5, rfl, HA, HJ5, HO_280008, BK279, BK280, HB⟩ := hcut
   cases kq with
   | zero => exact absurd HA.out (by simp [packhorselaw11_BatchRuns.j0])
   | succ kj5 =>
    have H := HA.out; clear HA; simp only [packhorselaw11_BatchRuns.j0] at H
    by_cases c27 : x29_5 = true
    ·subst c27
     have H1 : (some true) = some r := by rw [if_pos rfl] at H; exact H
     clear H; have H := H1; clear H1; obtain rfl := Option.some.inj H; simp only [Option.some.injEq, Prod.mk.injEq] at H; obtain ⟨rfl⟩ := H
     go_wp2
     go_ret
     exact ⟨ap4, beu HB.out⟩
    ·replace c27 := Bool.eq_false_iff.mpr c27
     subst c27
     have H1 : (packhorselaw11_BatchRuns.l0 kj5 l2 (l2.length : Int) 0 a0_0 a0_1 a0_2 a0_3 a0_4 a0_5 a0_6 a0_7 l0_8 a1_0 a1_1 a0_0 a0_1 a0_2 a0_3 a0_4 a0_5 a0_6 a0_7 l0_8) = some r := by rw [if_neg (show ¬ (false = true) by decide)] at H; exact H
     clear H; have H := H1; clear H1; have H' := am H; clear H; have := NB279_280.out; have := NB280_279.out; obtain ⟨hcz29_0, hcz29_1, hcz29_2, hcz29_3, hcz29_4, hcz29_5, hcz29_6, hcz29_7, hcz29_8⟩ := cells9 BK279.out; obtain ⟨hfz29_0, hfz29_1, hfz29_2, hfz29_3, hfz29_4, hfz29_5, hfz29_6, hfz29_7, hfz29_8⟩ := frozens9 BK279.out
     go_wp2_with (first | ((with_reducible refine gate_dst (N := 7) rfl ?_); (try (refine gate_guard (by rfl) ?_; dsimp only)); refine box_event ?hg (N := 7) ?hd (cs := #[.int .i64 0, .int .i64 0, .int .i64 0, .int .i64 0, .int .i64 0, .string ⟨#[]⟩, .string ⟨#[]⟩, .string ⟨#[]⟩, .slice none 0 0]) (t := 31) ?hr ?_; (case hd => rfl); (case hg => rfl); (case hr => first | (go_simp; done) | (go_simp; rfl)); intro gb284 hg w30 hbox hb; have _ := am (Kd.V_below (Kd.V_elderB (by (with_reducible repeat (first | apply Kd.V_alloc | apply Kd.V_drewN | apply Kd.V_drew)); exact HO_280008.out) gb284 (Nat.le_of_eq hg.symm)) hb); have _ := am (blk_below (bu BK279.out) hb); have _ := am (blk_below (bu BK280.out) hb); have _ := am (below_step (beu HB.out) hb); have _ := am (hbox); have _ := am ((by rw [hg]; exact (below_size (beu HB.out)) : w.heap.size ≤ gb284)); have _ := am ((by rw [hg]; exact (below_size (beu HB.out)) : w.heap.size ≤ gb284)); have _ := am (nb1 hg BK279.out : gb279 ≠ gb284); have _ := am (nb2 hg BK279.out : gb284 ≠ gb279); have _ := am (nb1 hg BK280.out : gb280 ≠ gb284); have _ := am (nb2 hg BK280.out : gb284 ≠ gb280); clear HO_280008 BK279 BK280 HB; rename_i HO_280008 BK279 BK280 HB BK284 GW284 GE284 NB279_284 NB284_279 NB280_284 NB284_280; clear hb hbox hg; have := NB284_279.out; have := NB279_284.out; have := NB284_280.out; have := NB280_284.out; obtain ⟨hcz33_0, hcz33_1, hcz33_2, hcz33_3, hcz33_4, hcz33_5, hcz33_6, hcz33_7, hcz33_8⟩ := cells9 BK284.out; obtain ⟨hfz33_0, hfz33_1, hfz33_2, hfz33_3, hfz33_4, hfz33_5, hfz33_6, hfz33_7, hfz33_8⟩ := frozens9 BK284.out) | ((with_reducible refine gate_store (t := 31) (p := 7) rfl ?_); refine store_event (t := 31) (p := 7) (v := ?vo_w34) (w1 := (((((((((w30.setCell ⟨gb284, 0, none⟩ (.int .i64 a0_0)).setCell ⟨gb284, 1, none⟩ (.int .i64 a0_1)).setCell ⟨gb284, 2, none⟩ (.int .i64 a0_2)).setCell ⟨gb284, 3, none⟩ (.int .i64 a0_3)).setCell ⟨gb284, 4, none⟩ (.int .i64 a0_4)).setCell ⟨gb284, 5, none⟩ (.string a0_5)).setCell ⟨gb284, 6, none⟩ (.string a0_6)).setCell ⟨gb284, 7, none⟩ (.string a0_7)).setCell ⟨gb284, 8, none⟩ (.slice A0_8 l0_8.length c0_8))) ?hg ?ho ?hn ?hr ?_; (case ho => rfl); (case hg => rfl); (case hn => rfl); (case hr => first | (go_simp; done) | (go_simp; rfl)); intro w34 hw; have _ : Aside0 (Kd.V Kd.string 9 w34 w.heap.size (fun k_ => (P0_8_ k_ ∨ w.heap.size ≤ k_) ∧ k_ ≠ gb279 ∧ k_ ≠ gb280 ∧ k_ ≠ gb284) (.slice A0_8 l0_8.length c0_8) l0_8) := ⟨(by rw [hw]; exact (by (with_reducible repeat (first | apply Kd.V_alloc | apply Kd.V_drewN | apply Kd.V_drew)); exact Kd.V_mono (vf gb284 8 (vf gb284 7 (vf gb284 6 (vf gb284 5 (vf gb284 4 (vf gb284 3 (vf gb284 2 (vf gb284 1 (vf gb284 0 (Kd.V_mono HO_280008.out (fun k_ hk => (⟨hk, by first | exact hk.2 | exact hk.2.2.2 | exact hk.2.2 | exact hk.2.1 | exact hk.2.2.1⟩ : _ ∧ k_ ≠ gb284))) (.int .i64 a0_0)) (.int .i64 a0_1)) (.int .i64 a0_2)) (.int .i64 a0_3)) (.int .i64 a0_4)) (.string a0_5)) (.string a0_6)) (.string a0_7)) (.slice A0_8 l0_8.length c0_8)) (fun _ hk => ⟨hk.1.1.1, ⟨hk.1.1.2.1, ⟨hk.1.1.2.2, hk.1.2⟩⟩⟩)))⟩; have _ : Aside0 (w34.heap[gb279]? = some (.cells #[.int .i64 a0_0, .int .i64 a0_1, .int .i64 a0_2, .int .i64 a0_3, .int .i64 a0_4, .string a0_5, .string a0_6, .string a0_7, .slice A0_8 l0_8.length c0_8] 31 (0, 0))) := ⟨(by rw [hw]; exact (bf BK279.out))⟩; have _ : Aside0 (w34.heap[gb280]? = some (.cells #[.int .i64 a1_0, .int .i64 a1_1] 23 (0, 0))) := ⟨(by rw [hw]; exact (bf BK280.out))⟩; have _ : Aside0 (w34.heap[gb284]? = some (.cells #[.int .i64 a0_0, .int .i64 a0_1, .int .i64 a0_2, .int .i64 a0_3, .int .i64 a0_4, .string a0_5, .string a0_6, .string a0_7, .slice A0_8 l0_8.length c0_8] 31 (0, 0))) := ⟨(by rw [hw]; exact (by refine bu ?_; refine blk_put (cs := #[.int .i64 a0_0, .int .i64 a0_1, .int .i64 a0_2, .int .i64 a0_3, .int .i64 a0_4, .string a0_5, .string a0_6, .string a0_7, .slice none 0 0]) ?_ 8 _ rfl; refine bu ?_; refine blk_put (cs := #[.int .i64 a0_0, .int .i64 a0_1, .int .i64 a0_2, .int .i64 a0_3, .int .i64 a0_4, .string a0_5, .string a0_6, .string ⟨#[]⟩, .slice none 0 0]) ?_ 7 _ rfl; refine bu ?_; refine blk_put (cs := #[.int .i64 a0_0, .int .i64 a0_1, .int .i64 a0_2, .int .i64 a0_3, .int .i64 a0_4, .string a0_5, .string ⟨#[]⟩, .string ⟨#[]⟩, .slice none 0 0]) ?_ 6 _ rfl; refine bu ?_; refine blk_put (cs := #[.int .i64 a0_0, .int .i64 a0_1, .int .i64 a0_2, .int .i64 a0_3, .int .i64 a0_4, .string ⟨#[]⟩, .string ⟨#[]⟩, .string ⟨#[]⟩, .slice none 0 0]) ?_ 5 _ rfl; refine bu ?_; refine blk_put (cs := #[.int .i64 a0_0, .int .i64 a0_1, .int .i64 a0_2, .int .i64 a0_3, .int .i64 0, .string ⟨#[]⟩, .string ⟨#[]⟩, .string ⟨#[]⟩, .slice none 0 0]) ?_ 4 _ rfl; refine bu ?_; refine blk_put (cs := #[.int .i64 a0_0, .int .i64 a0_1, .int .i64 a0_2, .int .i64 0, .int .i64 0, .string ⟨#[]⟩, .string ⟨#[]⟩, .string ⟨#[]⟩, .slice none 0 0]) ?_ 3 _ rfl; refine bu ?_; refine blk_put (cs := #[.int .i64 a0_0, .int .i64 a0_1, .int .i64 0, .int .i64 0, .int .i64 0, .string ⟨#[]⟩, .string ⟨#[]⟩, .string ⟨#[]⟩, .slice none 0 0]) ?_ 2 _ rfl; refine bu ?_; refine blk_put (cs := #[.int .i64 a0_0, .int .i64 0, .int .i64 0, .int .i64 0, .int .i64 0, .string ⟨#[]⟩, .string ⟨#[]⟩, .string ⟨#[]⟩, .slice none 0 0]) ?_ 1 _ rfl; refine bu ?_; refine blk_put (cs := #[.int .i64 0, .int .i64 0, .int .i64 0, .int .i64 0, .int .i64 0, .string ⟨#[]⟩, .string ⟨#[]⟩, .string ⟨#[]⟩, .slice none 0 0]) ?_ 0 _ rfl; refine bu ?_; exact BK284.out))⟩; have _ : Aside0 (Below w.heap.size w w34) := ⟨(by rw [hw]; exact (beu HB.out))⟩; clear hw HO_280008 BK279 BK280 BK284 HB; rename_i HO_280008 BK279 BK280 BK284 HB))
     go_loopg [33] kj5 (fun kq v33 w' => ∃ (x33_2 : Int) (X0_2 : Int) (X1_2 : Int) (X2_2 : Int) (X3_2 : Int) (X4_2 : Int) (X5_2 : ByteArray) (X6_2 : ByteArray) (X7_2 : ByteArray) (X8_2 : List ByteArray) (X11_2 : Int) (X12_2 : Int) (X13_2 : Int) (X14_2 : Int) (X15_2 : Int) (X16_2 : ByteArray) (X17_2 : ByteArray) (X18_2 : ByteArray) (X19_2 : List ByteArray) (u280008 : Value) (u285008 : Value), v33 = .int .i64 x33_2 ∧ Aside0 (packhorselaw11_BatchRuns.l0 kq l2 (l2.length : Int) x33_2 X0_2 X1_2 X2_2 X3_2 X4_2 X5_2 X6_2 X7_2 X8_2 a1_0 a1_1 X11_2 X12_2 X13_2 X14_2 X15_2 X16_2 X17_2 X18_2 X19_2 = some r) ∧ Aside0 (kq ≤ kj5) ∧ Aside0 (Kd.V Kd.string 9 w' w.heap.size (fun k_ => (P0_8_ k_ ∨ w.heap.size ≤ k_) ∧ k_ ≠ gb279 ∧ k_ ≠ gb280 ∧ k_ ≠ gb284) u280008 X8_2) ∧ Aside0 (Kd.V Kd.string 9 w' w.heap.size (fun k_ => (P0_8_ k_ ∨ w.heap.size ≤ k_) ∧ k_ ≠ gb279 ∧ k_ ≠ gb280 ∧ k_ ≠ gb284) u285008 X19_2) ∧ Aside0 (w'.heap[gb279]? = some (.cells #[.int .i64 X0_2, .int .i64 X1_2, .int .i64 X2_2, .int .i64 X3_2, .int .i64 X4_2, .string X5_2, .string X6_2, .string X7_2, u280008] 31 (0, 0))) ∧ Aside0 (w'.heap[gb280]? = some (.cells #[.int .i64 a1_0, .int .i64 a1_1] 23 (0, 0))) ∧ Aside0 (w'.heap[gb284]? = some (.cells #[.int .i64 X11_2, .int .i64 X12_2, .int .i64 X13_2, .int .i64 X14_2, .int .i64 X15_2, .string X16_2, .string X17_2, .string X18_2, u285008] 31 (0, 0))) ∧ Aside0 (Below w.heap.size w w'))
     case atStart => exact ⟨(0), (a0_0), (a0_1), (a0_2), (a0_3), (a0_4), (a0_5), (a0_6), (a0_7), (l0_8), (a0_0), (a0_1), (a0_2), (a0_3), (a0_4), (a0_5), (a0_6), (a0_7), (l0_8), (.slice A0_8 l0_8.length c0_8), (.slice A0_8 l0_8.length c0_8), ap3, H', ⟨Nat.le_refl _⟩, ⟨by (with_reducible repeat (first | apply Kd.V_alloc | apply Kd.V_drewN | apply Kd.V_drew)); exact HO_280008.out⟩, ⟨by (with_reducible repeat (first | apply Kd.V_alloc | apply Kd.V_drewN | apply Kd.V_drew)); exact HO_280008.out⟩, ⟨by refine bu ?_; exact BK279.out⟩, ⟨by refine bu ?_; exact BK280.out⟩, ⟨by refine bu ?_; exact BK284.out⟩, ⟨beu HB.out⟩⟩
     case round =>
      clear H'; (try clear c1); (try clear c2); (try clear p2); (try clear c3); (try clear c5); (try clear c10); (try clear c11); (try clear c13); (try clear c14); (try clear c16); (try clear c19); (try clear c24); (try clear c27); (try clear c28); (try clear c31); (try clear c32); (try clear hcz15_0); (try clear hcz15_1); (try clear hcz15_2); (try clear hcz15_3); (try clear hcz15_4); (try clear hcz15_5); (try clear hcz15_6); (try clear hcz15_7); (try clear hcz15_8); (try clear hcz17_0); (try clear hcz17_1); (try clear hcz20_0); (try clear hcz20_1); (try clear hcz20_2); (try clear hcz20_3); (try clear hcz20_4); (try clear hcz20_5); (try clear hcz20_6); (try clear hcz20_7); (try clear hcz20_8); (try clear hcz22_0); (try clear hcz22_1); (try clear hcz25_0); (try clear hcz25_1); (try clear hcz25_2); (try clear hcz25_3); (try clear hcz25_4); (try clear hcz25_5); (try clear hcz25_6); (try clear hcz25_7); (try clear hcz25_8); (try clear hcz29_0); (try clear hcz29_1); (try clear hcz29_2); (try clear hcz29_3); (try clear hcz29_4); (try clear hcz29_5); (try clear hcz29_6); (try clear hcz29_7); (try clear hcz29_8); (try clear hcz33_0); (try clear hcz33_1); (try clear hcz33_2); (try clear hcz33_3); (try clear hcz33_4); (try clear hcz33_5); (try clear hcz33_6); (try clear hcz33_7); (try clear hcz33_8); (try clear hfz15_0); (try clear hfz15_1); (try clear hfz15_2); (try clear hfz15_3); (try clear hfz15_4); (try clear hfz15_5); (try clear hfz15_6); (try clear hfz15_7); (try clear hfz15_8); (try clear hfz17_0); (try clear hfz17_1); (try clear hfz20_0); (try clear hfz20_1); (try clear hfz20_2); (try clear hfz20_3); (try clear hfz20_4); (try clear hfz20_5); (try clear hfz20_6); (try clear hfz20_7); (try clear hfz20_8); (try clear hfz22_0); (try clear hfz22_1); (try clear hfz25_0); (try clear hfz25_1); (try clear hfz25_2); (try clear hfz25_3); (try clear hfz25_4); (try clear hfz25_5); (try clear hfz25_6); (try clear hfz25_7); (try clear hfz25_8); (try clear hfz29_0); (try clear hfz29_1); (try clear hfz29_2); (try clear hfz29_3); (try clear hfz29_4); (try clear hfz29_5); (try clear hfz29_6); (try clear hfz29_7); (try clear hfz29_8); (try clear hfz33_0); (try clear hfz33_1); (try clear hfz33_2); (try clear hfz33_3); (try clear hfz33_4); (try clear hfz33_5); (try clear hfz33_6); (try clear hfz33_7); (try clear hfz33_8); (try clear p2); obtain ⟨x33_2, X0_2, X1_2, X2_2, X3_2, X4_2, X5_2, X6_2, X7_2, X8_2, X11_2, X12_2, X13_2, X14_2, X15_2, X16_2, X17_2, X18_2, X19_2, u280008, u285008, rfl, HA, HK2, HO_280008, HO_285008, BK279, BK280, BK284, HB⟩ := hrel
      cases gk with
      | zero => exact absurd HA.out (by simp [packhorselaw11_BatchRuns.l0])
      | succ k2 =>
       have H := HA.out; clear HA; simp only [packhorselaw11_BatchRuns.l0] at H
       by_cases c35 : x33_2 < (l2.length : Int)
       ·rw [if_pos c35] at H
        have c35b0 : decide (x33_2 < (l2.length : Int)) = true := decide_eq_true c35; clear c35
        by_cases c36 : 0 ≤ x33_2
        ·rw [if_pos c36] at H
         have c36b0 : decide (0 ≤ x33_2) = true := decide_eq_true c36; clear c36
         by_cases c37 : x33_2 < (l2.length : Int)
         ·rw [if_pos c37] at H
          have c37b0 : decide (x33_2 < (l2.length : Int)) = true := decide_eq_true c37; clear c37; have HC38 := am H; clear H; have p285 : 0 ≤ (x33_2 : Int) := of_decide_eq_true ap2; have q285 : x33_2 < (l2.length : Int) := of_decide_eq_true ap2; obtain ⟨ad285, e285, hx285_0, hx285_1, hx285_2⟩ := at_T34 HR2.out x33_2 p285 q285
          cases e285
          replace hx285_0 := (HB.out.cell (World.block_lt_of_cell? w _ hx285_0)).trans hx285_0; replace hx285_1 := (HB.out.cell (World.block_lt_of_cell? w _ hx285_1)).trans hx285_1; replace hx285_2 := (HB.out.cell (World.block_lt_of_cell? w _ hx285_2)).trans hx285_2; replace p285 := eq_true p285; replace q285 := eq_true q285
          go_upto_region 9 with (first | ((with_reducible refine gate_dst (N := 9) rfl ?_); (try (refine gate_guard (by rfl) ?_; dsimp only)); refine box_event ?hg (N := 9) ?hd (cs := #[.int .i64 0, .string ⟨#[]⟩, .int .i64 0]) (t := 34) ?hr ?_; (case hd => rfl); (case hg => rfl); (case hr => first | (go_simp; done) | (go_simp; rfl)); intro gb286 hg w39 hbox hb; have _ := am (Kd.V_below (Kd.V_elderB (by (with_reducible repeat (first | apply Kd.V_alloc | apply Kd.V_drewN | apply Kd.V_drew)); exact HO_280008.out) gb286 (Nat.le_of_eq hg.symm)) hb); have _ := am (Kd.V_below (Kd.V_elderB (by (with_reducible repeat (first | apply Kd.V_alloc | apply Kd.V_drewN | apply Kd.V_drew)); exact HO_285008.out) gb286 (Nat.le_of_eq hg.symm)) hb); have _ := am (blk_below (bu BK279.out) hb); have _ := am (blk_below (bu BK280.out) hb); have _ := am (blk_below (bu BK284.out) hb); have _ := am (below_step (beu HB.out) hb); have _ := am (hbox); have _ := am ((by rw [hg]; exact (below_size (beu HB.out)) : w.heap.size ≤ gb286)); have _ := am ((by rw [hg]; exact (below_size (beu HB.out)) : w.heap.size ≤ gb286)); have _ := am (nb1 hg BK279.out : gb279 ≠ gb286); have _ := am (nb2 hg BK279.out : gb286 ≠ gb279); have _ := am (nb1 hg BK280.out : gb280 ≠ gb286); have _ := am (nb2 hg BK280.out : gb286 ≠ gb280); have _ := am (nb1 hg BK284.out : gb284 ≠ gb286); have _ := am (nb2 hg BK284.out : gb286 ≠ gb284); clear HO_280008 HO_285008 BK279 BK280 BK284 HB; rename_i HO_280008 HO_285008 BK279 BK280 BK284 HB BK286 GW286 GE286 NB279_286 NB286_279 NB280_286 NB286_280 NB284_286 NB286_284; clear hb hbox hg; have := NB286_279.out; have := NB279_286.out; have := NB286_280.out; have := NB280_286.out; have := NB286_284.out; have := NB284_286.out; obtain ⟨hcz43_0, hcz43_1, hcz43_2⟩ := cells3 BK286.out; obtain ⟨hfz43_0, hfz43_1, hfz43_2⟩ := frozens3 BK286.out) | ((with_reducible refine gate_store (t := 34) (p := 9) rfl ?_); refine store_event (t := 34) (p := 9) (v := ?vo_w44) (w1 := (((w39.setCell ⟨gb286, 0, none⟩ (.int .i64 ((rd_T34 l2 x33_2).f0))).setCell ⟨gb286, 1, none⟩ (.string ((rd_T34 l2 x33_2).f1))).setCell ⟨gb286, 2, none⟩ (.int .i64 ((rd_T34 l2 x33_2).f2)))) ?hg ?ho ?hn ?hr ?_; (case ho => rfl); (case hg => rfl); (case hn => rfl); (case hr => first | (go_simp; done) | (go_simp; rfl)); intro w44 hw; have _ : Aside0 (Kd.V Kd.string 9 w44 w.heap.size (fun k_ => (P0_8_ k_ ∨ w.heap.size ≤ k_) ∧ k_ ≠ gb279 ∧ k_ ≠ gb280 ∧ k_ ≠ gb284 ∧ k_ ≠ gb286) u280008 X8_2) := ⟨(by rw [hw]; exact (by (with_reducible repeat (first | apply Kd.V_alloc | apply Kd.V_drewN | apply Kd.V_drew)); exact Kd.V_mono (vf gb286 2 (vf gb286 1 (vf gb286 0 (Kd.V_mono HO_280008.out (fun k_ hk => (⟨hk, by first | exact hk.2 | exact hk.2.2.2 | exact hk.2.2 | exact hk.2.1 | exact hk.2.2.1⟩ : _ ∧ k_ ≠ gb286))) (.int .i64 ((rd_T34 l2 x33_2).f0))) (.string ((rd_T34 l2 x33_2).f1))) (.int .i64 ((rd_T34 l2 x33_2).f2))) (fun _ hk => ⟨hk.1.1.1, ⟨hk.1.1.2.1, ⟨hk.1.1.2.2.1, ⟨hk.1.1.2.2.2, hk.1.2⟩⟩⟩⟩)))⟩; have _ : Aside0 (Kd.V Kd.string 9 w44 w.heap.size (fun k_ => (P0_8_ k_ ∨ w.heap.size ≤ k_) ∧ k_ ≠ gb279 ∧ k_ ≠ gb280 ∧ k_ ≠ gb284 ∧ k_ ≠ gb286) u285008 X19_2) := ⟨(by rw [hw]; exact (by (with_reducible repeat (first | apply Kd.V_alloc | apply Kd.V_drewN | apply Kd.V_drew)); exact Kd.V_mono (vf gb286 2 (vf gb286 1 (vf gb286 0 (Kd.V_mono HO_285008.out (fun k_ hk => (⟨hk, by first | exact hk.2 | exact hk.2.2.2 | exact hk.2.2 | exact hk.2.1 | exact hk.2.2.1⟩ : _ ∧ k_ ≠ gb286))) (.int .i64 ((rd_T34 l2 x33_2).f0))) (.string ((rd_T34 l2 x33_2).f1))) (.int .i64 ((rd_T34 l2 x33_2).f2))) (fun _ hk => ⟨hk.1.1.1, ⟨hk.1.1.2.1, ⟨hk.1.1.2.2.1, ⟨hk.1.1.2.2.2, hk.1.2⟩⟩⟩⟩)))⟩; have _ : Aside0 (w44.heap[gb279]? = some (.cells #[.int .i64 X0_2, .int .i64 X1_2, .int .i64 X2_2, .int .i64 X3_2, .int .i64 X4_2, .string X5_2, .string X6_2, .string X7_2, u280008] 31 (0, 0))) := ⟨(by rw [hw]; exact (bf BK279.out))⟩; have _ : Aside0 (w44.heap[gb280]? = some (.cells #[.int .i64 a1_0, .int .i64 a1_1] 23 (0, 0))) := ⟨(by rw [hw]; exact (bf BK280.out))⟩; have _ : Aside0 (w44.heap[gb284]? = some (.cells #[.int .i64 X11_2, .int .i64 X12_2, .int .i64 X13_2, .int .i64 X14_2, .int .i64 X15_2, .string X16_2, .string X17_2, .string X18_2, u285008] 31 (0, 0))) := ⟨(by rw [hw]; exact (bf BK284.out))⟩; have _ : Aside0 (w44.heap[gb286]? = some (.cells #[.int .i64 ((rd_T34 l2 x33_2).f0), .string ((rd_T34 l2 x33_2).f1), .int .i64 ((rd_T34 l2 x33_2).f2)] 34 (0, 0))) := ⟨(by rw [hw]; exact (by refine bu ?_; refine blk_put (cs := #[.int .i64 ((rd_T34 l2 x33_2).f0), .string ((rd_T34 l2 x33_2).f1), .int .i64 0]) ?_ 2 _ rfl; refine bu ?_; refine blk_put (cs := #[.int .i64 ((rd_T34 l2 x33_2).f0), .string ⟨#[]⟩, .int .i64 0]) ?_ 1 _ rfl; refine bu ?_; refine blk_put (cs := #[.int .i64 0, .string ⟨#[]⟩, .int .i64 0]) ?_ 0 _ rfl; refine bu ?_; exact BK286.out))⟩; have _ : Aside0 (Below w.heap.size w w44) := ⟨(by rw [hw]; exact (beu HB.out))⟩; clear hw HO_280008 HO_285008 BK279 BK280 BK284 BK286 HB; rename_i HO_280008 HO_285008 BK279 BK280 BK284 BK286 HB))
          (try simp only [Act.put, sA, sB, sC])
          go_cut [46] (fun v46 wc => ∃ (kq : Nat) (x46_37 : Bool), v46 = .bool x46_37 ∧ Aside0 (packhorselaw11_BatchRuns.j2 kq l2 (l2.length : Int) x33_2 x46_37 X0_2 X1_2 X2_2 X3_2 X4_2 X5_2 X6_2 X7_2 X8_2 a1_0 a1_1 X11_2 X12_2 X13_2 X14_2 X15_2 X16_2 X17_2 X18_2 X19_2 ((rd_T34 l2 x33_2).f0) ((rd_T34 l2 x33_2).f1) ((rd_T34 l2 x33_2).f2) = some r) ∧ Aside0 (kq ≤ k2) ∧ Aside0 (Kd.V Kd.string 9 wc w.heap.size (fun k_ => (P0_8_ k_ ∨ w.heap.size ≤ k_) ∧ k_ ≠ gb279 ∧ k_ ≠ gb280 ∧ k_ ≠ gb284 ∧ k_ ≠ gb286) u280008 X8_2) ∧ Aside0 (Kd.V Kd.string 9 wc w.heap.size (fun k_ => (P0_8_ k_ ∨ w.heap.size ≤ k_) ∧ k_ ≠ gb279 ∧ k_ ≠ gb280 ∧ k_ ≠ gb284 ∧ k_ ≠ gb286) u285008 X19_2) ∧ Aside0 (wc.heap[gb279]? = some (.cells #[.int .i64 X0_2, .int .i64 X1_2, .int .i64 X2_2, .int .i64 X3_2, .int .i64 X4_2, .string X5_2, .string X6_2, .string X7_2, u280008] 31 (0, 0))) ∧ Aside0 (wc.heap[gb280]? = some (.cells #[.int .i64 a1_0, .int .i64 a1_1] 23 (0, 0))) ∧ Aside0 (wc.heap[gb284]? = some (.cells #[.int .i64 X11_2, .int .i64 X12_2, .int .i64 X13_2, .int .i64 X14_2, .int .i64 X15_2, .string X16_2, .string X17_2, .string X18_2, u285008] 31 (0, 0))) ∧ Aside0 (wc.heap[gb286]? = some (.cells #[.int .i64 ((rd_T34 l2 x33_2).f0), .string ((rd_T34 l2 x33_2).f1), .int .i64 ((rd_T34 l2 x33_2).f2)] 34 (0, 0))) ∧ Aside0 (Below w.heap.size w wc))
          case first =>
           have H := HC38.out; clear HC38; replace H := obm H; obtain ⟨t287, A450, H⟩ := H; replace H : (if t287 = true then (packhorselaw11_BatchRuns.j2 k2 l2 (l2.length : Int) x33_2 (decide ((((rd_T34 l2 x33_2).f1).size : Int) > 60)) X0_2 X1_2 X2_2 X3_2 X4_2 X5_2 X6_2 X7_2 X8_2 a1_0 a1_1 X11_2 X12_2 X13_2 X14_2 X15_2 X16_2 X17_2 X18_2 X19_2 ((rd_T34 l2 x33_2).f0) ((rd_T34 l2 x33_2).f1) ((rd_T34 l2 x33_2).f2)) else (packhorselaw11_BatchRuns.j2 k2 l2 (l2.length : Int) x33_2 true X0_2 X1_2 X2_2 X3_2 X4_2 X5_2 X6_2 X7_2 X8_2 a1_0 a1_1 X11_2 X12_2 X13_2 X14_2 X15_2 X16_2 X17_2 X18_2 X19_2 ((rd_T34 l2 x33_2).f0) ((rd_T34 l2 x33_2).f1) ((rd_T34 l2 x33_2).f2))) = some r := H; have A45 := am A450; clear A450
           by_cases c46 : t287 = true
           ·subst c46
            have H1 : (packhorselaw11_BatchRuns.j2 k2 l2 (l2.length : Int) x33_2 (decide ((((rd_T34 l2 x33_2).f1).size : Int) > 60)) X0_2 X1_2 X2_2 X3_2 X4_2 X5_2 X6_2 X7_2 X8_2 a1_0 a1_1 X11_2 X12_2 X13_2 X14_2 X15_2 X16_2 X17_2 X18_2 X19_2 ((rd_T34 l2 x33_2).f0) ((rd_T34 l2 x33_2).f1) ((rd_T34 l2 x33_2).f2)) = some r := by rw [if_pos rfl] at H; exact H
            clear H; have H := H1; clear H1; have H' := am H; clear H; have := NB286_279.out; have := NB279_286.out; have := NB286_280.out; have := NB280_286.out; have := NB286_284.out; have := NB284_286.out; obtain ⟨hcz50_0, hcz50_1, hcz50_2⟩ := cells3 BK286.out; obtain ⟨hfz50_0, hfz50_1, hfz50_2⟩ := frozens3 BK286.out
            go_wp2_with (first | ((with_reducible refine gate_callee (f := 20) rfl ?_); refine goesL_ (some 39) rfl rfl Tryd.func20 (by kernel_rfl) rfl #[.int .i64 ((rd_T34 l2 x33_2).f2)] rfl ap1 ?_; (with_reducible refine (packhorseref02_Right.calls ((rd_T34 l2 x33_2).f2) true _ A45.out).mono ?_); rintro e w' ⟨rfl, ⟨nd, rfl⟩⟩; refine ⟨_, rfl, ?_⟩))
            go_meet
            case rel => exact ⟨_, (decide ((((rd_T34 l2 x33_2).f1).size : Int) > 60)), ap3, H', ⟨by have := HJ5.out; have := HK2.out; first | omega | exact Nat.le_refl _⟩, ⟨by (with_reducible repeat (first | apply Kd.V_alloc | apply Kd.V_drewN | apply Kd.V_drew)); exact HO_280008.out⟩, ⟨by (with_reducible repeat (first | apply Kd.V_alloc | apply Kd.V_drewN | apply Kd.V_drew)); exact HO_285008.out⟩, ⟨by refine bu ?_; exact BK279.out⟩, ⟨by refine bu ?_; exact BK280.out⟩, ⟨by refine bu ?_; exact BK284.out⟩, ⟨by refine bu ?_; exact BK286.out⟩, ⟨beu HB.out⟩⟩
           ·replace c46 := Bool.eq_false_iff.mpr c46
            subst c46
            have H1 : (packhorselaw11_BatchRuns.j2 k2 l2 (l2.length : Int) x33_2 true X0_2 X1_2 X2_2 X3_2 X4_2 X5_2 X6_2 X7_2 X8_2 a1_0 a1_1 X11_2 X12_2 X13_2 X14_2 X15_2 X16_2 X17_2 X18_2 X19_2 ((rd_T34 l2 x33_2).f0) ((rd_T34 l2 x33_2).f1) ((rd_T34 l2 x33_2).f2)) = some r := by rw [if_neg (show ¬ (false = true) by decide)] at H; exact H
            clear H; have H := H1; clear H1; have H' := am H; clear H; have := NB286_279.out; have := NB279_286.out; have := NB286_280.out; have := NB280_286.out; have := NB286_284.out; have := NB284_286.out; obtain ⟨hcz54_0, hcz54_1, hcz54_2⟩ := cells3 BK286.out; obtain ⟨hfz54_0, hfz54_1, hfz54_2⟩ := frozens3 BK286.out
            go_wp2_with (first | ((with_reducible refine gate_callee (f := 20) rfl ?_); refine goesL_ (some 39) rfl rfl Tryd.func20 (by kernel_rfl) rfl #[.int .i64 ((rd_T34 l2 x33_2).f2)] rfl ap1 ?_; (with_reducible refine (packhorseref02_Right.calls ((rd_T34 l2 x33_2).f2) false _ A45.out).mono ?_); rintro e w' ⟨rfl, ⟨nd, rfl⟩⟩; refine ⟨_, rfl, ?_⟩))
            go_meet
            case rel => exact ⟨_, (true), ap3, H', ⟨by have := HJ5.out; have := HK2.out; first | omega | exact Nat.le_refl _⟩, ⟨by (with_reducible repeat (first | apply Kd.V_alloc | apply Kd.V_drewN | apply Kd.V_drew)); exact HO_280008.out⟩, ⟨by (with_reducible repeat (first | apply Kd.V_alloc | apply Kd.V_drewN | apply Kd.V_drew)); exact HO_285008.out⟩, ⟨by refine bu ?_; exact BK279.out⟩, ⟨by refine bu ?_; exact BK280.out⟩, ⟨by refine bu ?_; exact BK284.out⟩, ⟨by refine bu ?_; exact BK286.out⟩, ⟨beu HB.out⟩⟩
          case rest =>
           clear HC38; (try clear c1); (try clear c2); (try clear p2); (try clear q2); (try clear hx2); (try clear c3); (try clear c4); (try clear c5); (try clear c10); (try clear c11); (try clear c13); (try clear c14); (try clear c16); (try clear c19); (try clear c20); (try clear c24); (try clear c27); (try clear c28); (try clear p28); (try clear q28); (try clear hx28); (try clear c31); (try clear c32); (try clear c35); (try clear c35b0); (try clear c36); (try clear c36b0); (try clear c37); (try clear c37b0); (try clear c40); (try clear c41); (try clear c42); (try clear c46); (try clear c47); (try clear c48); (try clear c49); (try clear c51); (try clear c52); (try clear c53); (try clear hcz15_0); (try clear hcz15_1); (try clear hcz15_2); (try clear hcz15_3); (try clear hcz15_4); (try clear hcz15_5); (try clear hcz15_6); (try clear hcz15_7); (try clear hcz15_8); (try clear hcz17_0); (try clear hcz17_1); (try clear hcz20_0); (try clear hcz20_1); (try clear hcz20_2); (try clear hcz20_3); (try clear hcz20_4); (try clear hcz20_5); (try clear hcz20_6); (try clear hcz20_7); (try clear hcz20_8); (try clear hcz22_0); (try clear hcz22_1); (try clear hcz25_0); (try clear hcz25_1); (try clear hcz25_2); (try clear hcz25_3); (try clear hcz25_4); (try clear hcz25_5); (try clear hcz25_6); (try clear hcz25_7); (try clear hcz25_8); (try clear hcz29_0); (try clear hcz29_1); (try clear hcz29_2); (try clear hcz29_3); (try clear hcz29_4); (try clear hcz29_5); (try clear hcz29_6); (try clear hcz29_7); (try clear hcz29_8); (try clear hcz33_0); (try clear hcz33_1); (try clear hcz33_2); (try clear hcz33_3); (try clear hcz33_4); (try clear hcz33_5); (try clear hcz33_6); (try clear hcz33_7); (try clear hcz33_8); (try clear hcz43_0); (try clear hcz43_1); (try clear hcz43_2); (try clear hcz50_0); (try clear hcz50_1); (try clear hcz50_2); (try clear hcz54_0); (try clear hcz54_1); (try clear hcz54_2); (try clear hfz15_0); (try clear hfz15_1); (try clear hfz15_2); (try clear hfz15_3); (try clear hfz15_4); (try clear hfz15_5); (try clear hfz15_6); (try clear hfz15_7); (try clear hfz15_8); (try clear hfz17_0); (try clear hfz17_1); (try clear hfz20_0); (try clear hfz20_1); (try clear hfz20_2); (try clear hfz20_3); (try clear hfz20_4); (try clear hfz20_5); (try clear hfz20_6); (try clear hfz20_7); (try clear hfz20_8); (try clear hfz22_0); (try clear hfz22_1); (try clear hfz25_0); (try clear hfz25_1); (try clear hfz25_2); (try clear hfz25_3); (try clear hfz25_4); (try clear hfz25_5); (try clear hfz25_6); (try clear hfz25_7); (try clear hfz25_8); (try clear hfz29_0); (try clear hfz29_1); (try clear hfz29_2); (try clear hfz29_3); (try clear hfz29_4); (try clear hfz29_5); (try clear hfz29_6); (try clear hfz29_7); (try clear hfz29_8); (try clear hfz33_0); (try clear hfz33_1); (try clear hfz33_2); (try clear hfz33_3); (try clear hfz33_4); (try clear hfz33_5); (try clear hfz33_6); (try clear hfz33_7); (try clear hfz33_8); (try clear hfz43_0); (try clear hfz43_1); (try clear hfz43_2); (try clear hfz50_0); (try clear hfz50_1); (try clear hfz50_2); (try clear hfz54_0); (try clear hfz54_1); (try clear hfz54_2); (try clear hx285_0); (try clear hx285_1); (try clear hx285_2); (try clear p2); (try clear p285); (try clear q285); (try clear HO_280008); (try clear HO_285008); (try clear BK279); (try clear BK280); (try clear BK284); (try clear BK286); obtain ⟨kq, x46_37, rfl, HA, HJ37, HO_280008, HO_285008, BK279, BK280, BK284, BK286, HB⟩ := hcut
           cases kq with
           | zero => exact absurd HA.out (by simp [packhorselaw11_BatchRuns.j2])
           | succ kj37 =>
            have H := HA.out; clear HA; simp only [packhorselaw11_BatchRuns.j2] at H
            by_cases c55 : x46_37 = true
            ·subst c55
             have H1 : (some true) = some r := by rw [if_pos rfl] at H; exact H
             clear H; have H := H1; clear H1; obtain rfl := Option.some.inj H; simp only [Option.some.injEq, Prod.mk.injEq] at H; obtain ⟨rfl⟩ := H
             go_wp2
             go_ret
             exact ⟨ap4, beu HB.out⟩
            ·replace c55 := Bool.eq_false_iff.mpr c55
             subst c55
             have H1 : ((some (([] : List ByteArray) : List ByteArray)).bind fun y288 => (if y288.length + X8_2.length < 8796093022208 then ((some (y288 ++ X8_2 : List ByteArray)).bind fun y291 => (if ((rd_T34 l2 x33_2).f0) = 0 then ((batch_Join.f kj37 X0_2 X1_2 X2_2 X3_2 X4_2 X5_2 X6_2 X7_2 X8_2 a1_0 a1_1 ((rd_T34 l2 x33_2).f1) ((rd_T34 l2 x33_2).f2)).bind fun bt295 => ((packhorseref11_Join.f kj37 X11_2 X12_2 X13_2 X14_2 X15_2 X16_2 X17_2 X18_2 X19_2 a1_0 a1_1 ((rd_T34 l2 x33_2).f1) ((rd_T34 l2 x33_2).f2)).bind fun bt307 => (packhorselaw11_BatchRuns.j3 kj37 y291 bt295.2.2.2.2.2.2.2.2.2 bt307.2.2.2.2.2.2.2.2.2 l2 (l2.length : Int) x33_2 bt295.1 bt295.2.1 bt295.2.2.1 bt295.2.2.2.1 bt295.2.2.2.2.1 bt295.2.2.2.2.2.1 bt295.2.2.2.2.2.2.1 bt295.2.2.2.2.2.2.2.1 bt295.2.2.2.2.2.2.2.2.1 a1_0 a1_1 bt307.1 bt307.2.1 bt307.2.2.1 bt307.2.2.2.1 bt307.2.2.2.2.1 bt307.2.2.2.2.2.1 bt307.2.2.2.2.2.2.1 bt307.2.2.2.2.2.2.2.1 bt307.2.2.2.2.2.2.2.2.1 X0_2 X1_2 X2_2 X3_2 X4_2 X5_2 X6_2 X7_2 X8_2))) else ((batch_Evict.f kj37 X0_2 X1_2 X2_2 X3_2 X4_2 X5_2 X6_2 X7_2 X8_2 ((rd_T34 l2 x33_2).f1) ((rd_T34 l2 x33_2).f2)).bind fun bt319 => ((packhorseref11_Evict.f kj37 X11_2 X12_2 X13_2 X14_2 X15_2 X16_2 X17_2 X18_2 X19_2 ((rd_T34 l2 x33_2).f1) ((rd_T34 l2 x33_2).f2)).bind fun bt331 => (packhorselaw11_BatchRuns.j3 kj37 y291 bt319.2.2.2.2.2.2.2.2.2 bt331.2.2.2.2.2.2.2.2.2 l2 (l2.length : Int) x33_2 bt319.1 bt319.2.1 bt319.2.2.1 bt319.2.2.2.1 bt319.2.2.2.2.1 bt319.2.2.2.2.2.1 bt319.2.2.2.2.2.2.1 bt319.2.2.2.2.2.2.2.1 bt319.2.2.2.2.2.2.2.2.1 a1_0 a1_1 bt331.1 bt331.2.1 bt331.2.2.1 bt331.2.2.2.1 bt331.2.2.2.2.1 bt331.2.2.2.2.2.1 bt331.2.2.2.2.2.2.1 bt331.2.2.2.2.2.2.2.1 bt331.2.2.2.2.2.2.2.2.1 X0_2 X1_2 X2_2 X3_2 X4_2 X5_2 X6_2 X7_2 X8_2))))) else (none))) = some r := by rw [if_neg (show ¬ (false = true) by decide)] at H; exact H
             clear H; have H := H1; clear H1; obtain ⟨y288, hy288⟩ : ∃ y_ : List ByteArray, y_ = (([] : List ByteArray)) := ⟨_, rfl⟩
             replace H : (if y288.length + X8_2.length < 8796093022208 then ((some (y288 ++ X8_2 : List ByteArray)).bind fun y291 => (if ((rd_T34 l2 x33_2).f0) = 0 then ((batch_Join.f kj37 X0_2 X1_2 X2_2 X3_2 X4_2 X5_2 X6_2 X7_2 X8_2 a1_0 a1_1 ((rd_T34 l2 x33_2).f1) ((rd_T34 l2 x33_2).f2)).bind fun bt295 => ((packhorseref11_Join.f kj37 X11_2 X12_2 X13_2 X14_2 X15_2 X16_2 X17_2 X18_2 X19_2 a1_0 a1_1 ((rd_T34 l2 x33_2).f1) ((rd_T34 l2 x33_2).f2)).bind fun bt307 => (packhorselaw11_BatchRuns.j3 kj37 y291 bt295.2.2.2.2.2.2.2.2.2 bt307.2.2.2.2.2.2.2.2.2 l2 (l2.length : Int) x33_2 bt295.1 bt295.2.1 bt295.2.2.1 bt295.2.2.2.1 bt295.2.2.2.2.1 bt295.2.2.2.2.2.1 bt295.2.2.2.2.2.2.1 bt295.2.2.2.2.2.2.2.1 bt295.2.2.2.2.2.2.2.2.1 a1_0 a1_1 bt307.1 bt307.2.1 bt307.2.2.1 bt307.2.2.2.1 bt307.2.2.2.2.1 bt307.2.2.2.2.2.1 bt307.2.2.2.2.2.2.1 bt307.2.2.2.2.2.2.2.1 bt307.2.2.2.2.2.2.2.2.1 X0_2 X1_2 X2_2 X3_2 X4_2 X5_2 X6_2 X7_2 X8_2))) else ((batch_Evict.f kj37 X0_2 X1_2 X2_2 X3_2 X4_2 X5_2 X6_2 X7_2 X8_2 ((rd_T34 l2 x33_2).f1) ((rd_T34 l2 x33_2).f2)).bind fun bt319 => ((packhorseref11_Evict.f kj37 X11_2 X12_2 X13_2 X14_2 X15_2 X16_2 X17_2 X18_2 X19_2 ((rd_T34 l2 x33_2).f1) ((rd_T34 l2 x33_2).f2)).bind fun bt331 => (packhorselaw11_BatchRuns.j3 kj37 y291 bt319.2.2.2.2.2.2.2.2.2 bt331.2.2.2.2.2.2.2.2.2 l2 (l2.length : Int) x33_2 bt319.1 bt319.2.1 bt319.2.2.1 bt319.2.2.2.1 bt319.2.2.2.2.1 bt319.2.2.2.2.2.1 bt319.2.2.2.2.2.2.1 bt319.2.2.2.2.2.2.2.1 bt319.2.2.2.2.2.2.2.2.1 a1_0 a1_1 bt331.1 bt331.2.1 bt331.2.2.1 bt331.2.2.2.1 bt331.2.2.2.2.1 bt331.2.2.2.2.2.1 bt331.2.2.2.2.2.2.1 bt331.2.2.2.2.2.2.2.1 bt331.2.2.2.2.2.2.2.2.1 X0_2 X1_2 X2_2 X3_2 X4_2 X5_2 X6_2 X7_2 X8_2))))) else (none)) = some r := by first | (rw [hy288]; with_reducible exact H) | (have H2_ := (Option.bind_some _ _).symm.trans H; rw [hy288]; with_reducible exact H2_) | (have H2_ := (Option.bind_some _ _).symm.trans H; with_reducible exact H2_) | with_reducible exact H | (rw [hy288]; exact H) | exact H
             have Ny288 := am hy288; clear hy288
             by_cases c56 : y288.length + X8_2.length < 8796093022208
             ·rw [if_pos c56] at H
              have LMc56 := am c56; clear c56; obtain ⟨y291, hy291⟩ : ∃ y_ : List ByteArray, y_ = (y288 ++ X8_2) := ⟨_, rfl⟩
              replace H : (if ((rd_T34 l2 x33_2).f0) = 0 then ((batch_Join.f kj37 X0_2 X1_2 X2_2 X3_2 X4_2 X5_2 X6_2 X7_2 X8_2 a1_0 a1_1 ((rd_T34 l2 x33_2).f1) ((rd_T34 l2 x33_2).f2)).bind fun bt295 => ((packhorseref11_Join.f kj37 X11_2 X12_2 X13_2 X14_2 X15_2 X16_2 X17_2 X18_2 X19_2 a1_0 a1_1 ((rd_T34 l2 x33_2).f1) ((rd_T34 l2 x33_2).f2)).bind fun bt307 => (packhorselaw11_BatchRuns.j3 kj37 y291 bt295.2.2.2.2.2.2.2.2.2 bt307.2.2.2.2.2.2.2.2.2 l2 (l2.length : Int) x33_2 bt295.1 bt295.2.1 bt295.2.2.1 bt295.2.2.2.1 bt295.2.2.2.2.1 bt295.2.2.2.2.2.1 bt295.2.2.2.2.2.2.1 bt295.2.2.2.2.2.2.2.1 bt295.2.2.2.2.2.2.2.2.1 a1_0 a1_1 bt307.1 bt307.2.1 bt307.2.2.1 bt307.2.2.2.1 bt307.2.2.2.2.1 bt307.2.2.2.2.2.1 bt307.2.2.2.2.2.2.1 bt307.2.2.2.2.2.2.2.1 bt307.2.2.2.2.2.2.2.2.1 X0_2 X1_2 X2_2 X3_2 X4_2 X5_2 X6_2 X7_2 X8_2))) else ((batch_Evict.f kj37 X0_2 X1_2 X2_2 X3_2 X4_2 X5_2 X6_2 X7_2 X8_2 ((rd_T34 l2 x33_2).f1) ((rd_T34 l2 x33_2).f2)).bind fun bt319 => ((packhorseref11_Evict.f kj37 X11_2 X12_2 X13_2 X14_2 X15_2 X16_2 X17_2 X18_2 X19_2 ((rd_T34 l2 x33_2).f1) ((rd_T34 l2 x33_2).f2)).bind fun bt331 => (packhorselaw11_BatchRuns.j3 kj37 y291 bt319.2.2.2.2.2.2.2.2.2 bt331.2.2.2.2.2.2.2.2.2 l2 (l2.length : Int) x33_2 bt319.1 bt319.2.1 bt319.2.2.1 bt319.2.2.2.1 bt319.2.2.2.2.1 bt319.2.2.2.2.2.1 bt319.2.2.2.2.2.2.1 bt319.2.2.2.2.2.2.2.1 bt319.2.2.2.2.2.2.2.2.1 a1_0 a1_1 bt331.1 bt331.2.1 bt331.2.2.1 bt331.2.2.2.1 bt331.2.2.2.2.1 bt331.2.2.2.2.2.1 bt331.2.2.2.2.2.2.1 bt331.2.2.2.2.2.2.2.1 bt331.2.2.2.2.2.2.2.2.1 X0_2 X1_2 X2_2 X3_2 X4_2 X5_2 X6_2 X7_2 X8_2)))) = some r := by first | (rw [hy291]; with_reducible exact H) | (have H2_ := (Option.bind_some _ _).symm.trans H; rw [hy291]; with_reducible exact H2_) | (have H2_ := (Option.bind_some _ _).symm.trans H; with_reducible exact H2_) | with_reducible exact H | (rw [hy291]; exact H) | exact H
              have Ny291 := am hy291; clear hy291; have HC57 := am H; clear H
              go_upto_if 54 with (first | ((with_reducible refine gate_dst (N := 47) rfl ?_); (try (refine gate_guard (by rfl) ?_; dsimp only)); refine Kd.R_lit Kd.string _ 9 ?hg (N := 47) ?hd (xs := ([] : List ByteArray)) (inner := []) (ok := fun _ => True) (okp := fun _ => True) ?hr ?hp (fun _ hk => hk) trivial (Below.refl _ _) (Nat.le_refl _) (by simp) ?_; (case hd => rfl); (case hg => rfl); (case hr => first | (go_simp; done) | (go_simp; rfl)); (case hp => exact (Reps.none _ _)); intro v289 w58 ho59 hb hg_ hnew_; clear hg_ hnew_; (first | rw [← Ny288.out] at ho59 | (simp only [Int.reduceToNat] at ho59; rw [← Ny288.out] at ho59)); have _ := am (Kd.V_elder' (by (with_reducible repeat (first | apply Kd.V_alloc | apply Kd.V_drewN | apply Kd.V_drew)); exact HO_280008.out) (Kd.R_base ho59) hb); have _ := am (Kd.V_elder' (by (with_reducible repeat (first | apply Kd.V_alloc | apply Kd.V_drewN | apply Kd.V_drew)); exact HO_285008.out) (Kd.R_base ho59) hb); have _ := am (Kd.R_lower (Kd.R_newM (M := fun k_ => (w.heap.size ≤ k_)) ho59 (below_size (beu HB.out)) (fun k_ h_ => h_)) (below_size (beu HB.out))); have _ := am (blk_below (bu BK279.out) hb); have _ := am (blk_below (bu BK280.out) hb); have _ := am (blk_below (bu BK284.out) hb); have _ := am (blk_below (bu BK286.out) hb); have _ := am (below_step (beu HB.out) hb); clear HO_280008 HO_285008 BK279 BK280 BK284 BK286 HB; rename_i HO_280008 HO_285008 HO290 BK279 BK280 BK284 BK286 HB; clear hb ho59; have := NB279_280.out; have := NB280_279.out; have := NB279_284.out; have := NB284_279.out; have := NB279_286.out; have := NB286_279.out; obtain ⟨hcz63_0, hcz63_1, hcz63_2, hcz63_3, hcz63_4, hcz63_5, hcz63_6, hcz63_7, hcz63_8⟩ := cells9 BK279.out; obtain ⟨hfz63_0, hfz63_1, hfz63_2, hfz63_3, hfz63_4, hfz63_5, hfz63_6, hfz63_7, hfz63_8⟩ := frozens9 BK279.out; obtain ⟨Ao65, co65, eo65⟩ := Kd.V_slice HO_280008.out; subst eo65) | ((with_reducible refine gate_builtin (b := .append) (xs := #[.tmp 47, .tmp 49]) rfl ?_); (try (refine gate_guard (by rfl) ?_; dsimp only)); at_builtin; refine Kd.R_append_rows Kd.string (w0 := w) w.heap.size rfl (.tmp 47) (.tmp 49) 29 9 (.string ⟨#[]⟩) 16 rfl Tryd.underlying29 info9 rfl (by decide) (by omega) v289 y288 X8_2 _ _ _ (fun k_ => (w.heap.size ≤ k_)) (fun _ => False) rfl rfl ?aO ?aR (fun _ _ h => h) (fun _ h => h.elim) ?aF ?aB ?aS ?aL ?_; (case aR => repeat (first | exact (Kd.V_reads' HO_280008.out).2.2 | (with_reducible refine Kd.C_alloc ?_ _) | (with_reducible refine Kd.C_drewN ?_ _) | (with_reducible refine Kd.C_drew ?_))); (case aB => exact (beu HB.out)); (case aF => exact (fun k_ hk => (Nat.le_trans (below_size (beu HB.out)) hk))); (case aO => exact (ru (Kd.R_mono HO290.out (fun _ hk => hk.1)))); (case aS => exact (below_size (beu HB.out))); (case aL => have := LMc56.out; omega); intro v292 w64 ho hb hg hat; rw [← Ny291.out] at ho; have _ := am (Kd.V_afterv (ok := (fun k_ => (P0_8_ k_ ∨ w.heap.size ≤ k_) ∧ k_ ≠ gb279 ∧ k_ ≠ gb280 ∧ k_ ≠ gb284 ∧ k_ ≠ gb286)) (by (with_reducible repeat (first | apply Kd.V_alloc | apply Kd.V_drewN | apply Kd.V_drew)); exact HO_280008.out) hg hat); have _ := am (Kd.V_afterv (ok := (fun k_ => (P0_8_ k_ ∨ w.heap.size ≤ k_) ∧ k_ ≠ gb279 ∧ k_ ≠ gb280 ∧ k_ ≠ gb284 ∧ k_ ≠ gb286)) (by (with_reducible repeat (first | apply Kd.V_alloc | apply Kd.V_drewN | apply Kd.V_drew)); exact HO_285008.out) hg hat); have _ := am (blk_grown (bu BK279.out) hg (Kd.R_ne HO290.out BK279.out (by decide))); have _ := am (blk_grown (bu BK280.out) hg (Kd.R_ne HO290.out BK280.out (by decide))); have _ := am (blk_grown (bu BK284.out) hg (Kd.R_ne HO290.out BK284.out (by decide))); have _ := am (blk_grown (bu BK286.out) hg (Kd.R_ne HO290.out BK286.out (by decide))); have _ := am (hb); have _ := am (ho); clear HO_280008 HO_285008 BK279 BK280 BK284 BK286 HB HO290; rename_i HO_280008 HO_285008 BK279 BK280 BK284 BK286 HB HO293; clear ho hb hg hat; obtain ⟨hcz66_0, hcz66_1, hcz66_2, hcz66_3, hcz66_4, hcz66_5, hcz66_6, hcz66_7, hcz66_8⟩ := cells9 BK279.out; obtain ⟨hfz66_0, hfz66_1, hfz66_2, hfz66_3, hfz66_4, hfz66_5, hfz66_6, hfz66_7, hfz66_8⟩ := frozens9 BK279.out) | ((with_reducible refine gate_dst (N := 11) rfl ?_); (try (refine gate_guard (by rfl) ?_; dsimp only)); refine box_event ?hg (N := 11) ?hd (cs := #[.int .i64 0, .int .i64 0, .int .i64 0, .int .i64 0, .int .i64 0, .string ⟨#[]⟩, .string ⟨#[]⟩, .string ⟨#[]⟩, .slice none 0 0]) (t := 31) ?hr ?_; (case hd => rfl); (case hg => rfl); (case hr => first | (go_simp; done) | (go_simp; rfl)); intro gb294 hg w67 hbox hb; have _ := am (Kd.V_below (Kd.V_elderB (by (with_reducible repeat (first | apply Kd.V_alloc | apply Kd.V_drewN | apply Kd.V_drew)); exact HO_280008.out) gb294 (Nat.le_of_eq hg.symm)) hb); have _ := am (Kd.V_below (Kd.V_elderB (by (with_reducible repeat (first | apply Kd.V_alloc | apply Kd.V_drewN | apply Kd.V_drew)); exact HO_285008.out) gb294 (Nat.le_of_eq hg.symm)) hb); have _ := am (Kd.R_below (ru HO293.out) hb); have _ := am (blk_below (bu BK279.out) hb); have _ := am (blk_below (bu BK280.out) hb); have _ := am (blk_below (bu BK284.out) hb); have _ := am (blk_below (bu BK286.out) hb); have _ := am (below_step (beu HB.out) hb); have _ := am (hbox); have _ := am ((by rw [hg]; exact (below_size (beu HB.out)) : w.heap.size ≤ gb294)); have _ := am ((by rw [hg]; exact (below_size (beu HB.out)) : w.heap.size ≤ gb294)); have _ := am (nb1 hg BK279.out : gb279 ≠ gb294); have _ := am (nb2 hg BK279.out : gb294 ≠ gb279); have _ := am (nb1 hg BK280.out : gb280 ≠ gb294); have _ := am (nb2 hg BK280.out : gb294 ≠ gb280); have _ := am (nb1 hg BK284.out : gb284 ≠ gb294); have _ := am (nb2 hg BK284.out : gb294 ≠ gb284); have _ := am (nb1 hg BK286.out : gb286 ≠ gb294); have _ := am (nb2 hg BK286.out : gb294 ≠ gb286); clear HO_280008 HO_285008 HO293 BK279 BK280 BK284 BK286 HB; rename_i HO_280008 HO_285008 HO293 BK279 BK280 BK284 BK286 HB BK294 GW294 GE294 NB279_294 NB294_279 NB280_294 NB294_280 NB284_294 NB294_284 NB286_294 NB294_286; clear hb hbox hg; have := NB294_279.out; have := NB279_294.out; have := NB294_280.out; have := NB280_294.out; have := NB294_284.out; have := NB284_294.out; have := NB294_286.out; have := NB286_294.out; obtain ⟨hcz72_0, hcz72_1, hcz72_2, hcz72_3, hcz72_4, hcz72_5, hcz72_6, hcz72_7, hcz72_8⟩ := cells9 BK294.out; obtain ⟨hfz72_0, hfz72_1, hfz72_2, hfz72_3, hfz72_4, hfz72_5, hfz72_6, hfz72_7, hfz72_8⟩ := frozens9 BK294.out) | ((with_reducible refine gate_store (t := 31) (p := 11) rfl ?_); refine store_event (t := 31) (p := 11) (v := ?vo_w73) (w1 := (((((((((w67.setCell ⟨gb294, 0, none⟩ (.int .i64 X0_2)).setCell ⟨gb294, 1, none⟩ (.int .i64 X1_2)).setCell ⟨gb294, 2, none⟩ (.int .i64 X2_2)).setCell ⟨gb294, 3, none⟩ (.int .i64 X3_2)).setCell ⟨gb294, 4, none⟩ (.int .i64 X4_2)).setCell ⟨gb294, 5, none⟩ (.string X5_2)).setCell ⟨gb294, 6, none⟩ (.string X6_2)).setCell ⟨gb294, 7, none⟩ (.string X7_2)).setCell ⟨gb294, 8, none⟩ (.slice Ao65 X8_2.length co65))) ?hg ?ho ?hn ?hr ?_; (case ho => rfl); (case hg => rfl); (case hn => rfl); (case hr => first | (go_simp; done) | (go_simp; rfl)); intro w73 hw; have _ : Aside0 (Kd.V Kd.string 9 w73 w.heap.size (fun k_ => (P0_8_ k_ ∨ w.heap.size ≤ k_) ∧ some k_ ≠ (v292 : Value).ownBlock ∧ k_ ≠ gb279 ∧ k_ ≠ gb280 ∧ k_ ≠ gb284 ∧ k_ ≠ gb286 ∧ k_ ≠ gb294) (.slice Ao65 X8_2.length co65) X8_2) := ⟨(by rw [hw]; exact (by (with_reducible repeat (first | apply Kd.V_alloc | apply Kd.V_drewN | apply Kd.V_drew)); exact Kd.V_mono (vf gb294 8 (vf gb294 7 (vf gb294 6 (vf gb294 5 (vf gb294 4 (vf gb294 3 (vf gb294 2 (vf gb294 1 (vf gb294 0 (Kd.V_mono HO_280008.out (fun k_ hk => (⟨hk, by first | exact hk.2 | exact hk.2.2.2 | exact hk.2.2 | exact hk.2.1 | exact hk.2.2.1⟩ : _ ∧ k_ ≠ gb294))) (.int .i64 X0_2)) (.int .i64 X1_2)) (.int .i64 X2_2)) (.int .i64 X3_2)) (.int .i64 X4_2)) (.string X5_2)) (.string X6_2)) (.string X7_2)) (.slice Ao65 X8_2.length co65)) (fun _ hk => ⟨hk.1.1.1.1, ⟨hk.1.1.2, ⟨hk.1.1.1.2.1, ⟨hk.1.1.1.2.2.1, ⟨hk.1.1.1.2.2.2.1, ⟨hk.1.1.1.2.2.2.2, hk.1.2⟩⟩⟩⟩⟩⟩)))⟩; have _ : Aside0 (Kd.V Kd.string 9 w73 w.heap.size (fun k_ => (P0_8_ k_ ∨ w.heap.size ≤ k_) ∧ some k_ ≠ (v292 : Value).ownBlock ∧ k_ ≠ gb279 ∧ k_ ≠ gb280 ∧ k_ ≠ gb284 ∧ k_ ≠ gb286 ∧ k_ ≠ gb294) u285008 X19_2) := ⟨(by rw [hw]; exact (by (with_reducible repeat (first | apply Kd.V_alloc | apply Kd.V_drewN | apply Kd.V_drew)); exact Kd.V_mono (vf gb294 8 (vf gb294 7 (vf gb294 6 (vf gb294 5 (vf gb294 4 (vf gb294 3 (vf gb294 2 (vf gb294 1 (vf gb294 0 (Kd.V_mono HO_285008.out (fun k_ hk => (⟨hk, by first | exact hk.2 | exact hk.2.2.2 | exact hk.2.2 | exact hk.2.1 | exact hk.2.2.1⟩ : _ ∧ k_ ≠ gb294))) (.int .i64 X0_2)) (.int .i64 X1_2)) (.int .i64 X2_2)) (.int .i64 X3_2)) (.int .i64 X4_2)) (.string X5_2)) (.string X6_2)) (.string X7_2)) (.slice Ao65 X8_2.length co65)) (fun _ hk => ⟨hk.1.1.1.1, ⟨hk.1.1.2, ⟨hk.1.1.1.2.1, ⟨hk.1.1.1.2.2.1, ⟨hk.1.1.1.2.2.2.1, ⟨hk.1.1.1.2.2.2.2, hk.1.2⟩⟩⟩⟩⟩⟩)))⟩; have _ : Aside0 (Kd.R Kd.string 9 w73 w.heap.size (fun k_ => (w.heap.size ≤ k_)) v292 y291) := ⟨(by rw [hw]; exact (ru (Kd.R_mono (rf gb294 8 (rf gb294 7 (rf gb294 6 (rf gb294 5 (rf gb294 4 (rf gb294 3 (rf gb294 2 (rf gb294 1 (rf gb294 0 (Kd.R_types HO293.out BK294.out (by decide)) (.int .i64 X0_2)) (.int .i64 X1_2)) (.int .i64 X2_2)) (.int .i64 X3_2)) (.int .i64 X4_2)) (.string X5_2)) (.string X6_2)) (.string X7_2)) (.slice Ao65 X8_2.length co65)) (fun _ hk => hk.1))))⟩; have _ : Aside0 (w73.heap[gb279]? = some (.cells #[.int .i64 X0_2, .int .i64 X1_2, .int .i64 X2_2, .int .i64 X3_2, .int .i64 X4_2, .string X5_2, .string X6_2, .string X7_2, .slice Ao65 X8_2.length co65] 31 (0, 0))) := ⟨(by rw [hw]; exact (bf BK279.out))⟩; have _ : Aside0 (w73.heap[gb280]? = some (.cells #[.int .i64 a1_0, .int .i64 a1_1] 23 (0, 0))) := ⟨(by rw [hw]; exact (bf BK280.out))⟩; have _ : Aside0 (w73.heap[gb284]? = some (.cells #[.int .i64 X11_2, .int .i64 X12_2, .int .i64 X13_2, .int .i64 X14_2, .int .i64 X15_2, .string X16_2, .string X17_2, .string X18_2, u285008] 31 (0, 0))) := ⟨(by rw [hw]; exact (bf BK284.out))⟩; have _ : Aside0 (w73.heap[gb286]? = some (.cells #[.int .i64 ((rd_T34 l2 x33_2).f0), .string ((rd_T34 l2 x33_2).f1), .int .i64 ((rd_T34 l2 x33_2).f2)] 34 (0, 0))) := ⟨(by rw [hw]; exact (bf BK286.out))⟩; have _ : Aside0 (w73.heap[gb294]? = some (.cells #[.int .i64 X0_2, .int .i64 X1_2, .int .i64 X2_2, .int .i64 X3_2, .int .i64 X4_2, .string X5_2, .string X6_2, .string X7_2, .slice Ao65 X8_2.length co65] 31 (0, 0))) := ⟨(by rw [hw]; exact (by refine bu ?_; refine blk_put (cs := #[.int .i64 X0_2, .int .i64 X1_2, .int .i64 X2_2, .int .i64 X3_2, .int .i64 X4_2, .string X5_2, .string X6_2, .string X7_2, .slice none 0 0]) ?_ 8 _ rfl; refine bu ?_; refine blk_put (cs := #[.int .i64 X0_2, .int .i64 X1_2, .int .i64 X2_2, .int .i64 X3_2, .int .i64 X4_2, .string X5_2, .string X6_2, .string ⟨#[]⟩, .slice none 0 0]) ?_ 7 _ rfl; refine bu ?_; refine blk_put (cs := #[.int .i64 X0_2, .int .i64 X1_2, .int .i64 X2_2, .int .i64 X3_2, .int .i64 X4_2, .string X5_2, .string ⟨#[]⟩, .string ⟨#[]⟩, .slice none 0 0]) ?_ 6 _ rfl; refine bu ?_; refine blk_put (cs := #[.int .i64 X0_2, .int .i64 X1_2, .int .i64 X2_2, .int .i64 X3_2, .int .i64 X4_2, .string ⟨#[]⟩, .string ⟨#[]⟩, .string ⟨#[]⟩, .slice none 0 0]) ?_ 5 _ rfl; refine bu ?_; refine blk_put (cs := #[.int .i64 X0_2, .int .i64 X1_2, .int .i64 X2_2, .int .i64 X3_2, .int .i64 0, .string ⟨#[]⟩, .string ⟨#[]⟩, .string ⟨#[]⟩, .slice none 0 0]) ?_ 4 _ rfl; refine bu ?_; refine blk_put (cs := #[.int .i64 X0_2, .int .i64 X1_2, .int .i64 X2_2, .int .i64 0, .int .i64 0, .string ⟨#[]⟩, .string ⟨#[]⟩, .string ⟨#[]⟩, .slice none 0 0]) ?_ 3 _ rfl; refine bu ?_; refine blk_put (cs := #[.int .i64 X0_2, .int .i64 X1_2, .int .i64 0, .int .i64 0, .int .i64 0, .string ⟨#[]⟩, .string ⟨#[]⟩, .string ⟨#[]⟩, .slice none 0 0]) ?_ 2 _ rfl; refine bu ?_; refine blk_put (cs := #[.int .i64 X0_2, .int .i64 0, .int .i64 0, .int .i64 0, .int .i64 0, .string ⟨#[]⟩, .string ⟨#[]⟩, .string ⟨#[]⟩, .slice none 0 0]) ?_ 1 _ rfl; refine bu ?_; refine blk_put (cs := #[.int .i64 0, .int .i64 0, .int .i64 0, .int .i64 0, .int .i64 0, .string ⟨#[]⟩, .string ⟨#[]⟩, .string ⟨#[]⟩, .slice none 0 0]) ?_ 0 _ rfl; refine bu ?_; exact BK294.out))⟩; have _ : Aside0 (Below w.heap.size w w73) := ⟨(by rw [hw]; exact (beu HB.out))⟩; clear hw HO_280008 HO_285008 HO293 BK279 BK280 BK284 BK286 BK294 HB; rename_i HO_280008 HO_285008 HO293 BK279 BK280 BK284 BK286 BK294 HB; have := NB286_280.out; have := NB280_286.out; have := NB286_284.out; have := NB284_286.out; obtain ⟨hcz76_0, hcz76_1, hcz76_2⟩ := cells3 BK286.out; obtain ⟨hfz76_0, hfz76_1, hfz76_2⟩ := frozens3 BK286.out))
              (try simp only [Act.put, sA, sB, sC])
              go_cut [12, 13] (fun v12 v13 wc => ∃ (kq : Nat) (x12_56 : Int) (x13_56 : Int) (X0_56 : Int) (X1_56 : Int) (X2_56 : Int) (X3_56 : Int) (X4_56 : Int) (X5_56 : ByteArray) (X6_56 : ByteArray) (X7_56 : ByteArray) (X8_56 : List ByteArray) (X11_56 : Int) (X12_56 : Int) (X13_56 : Int) (X14_56 : Int) (X15_56 : Int) (X16_56 : ByteArray) (X17_56 : ByteArray) (X18_56 : ByteArray) (X19_56 : List ByteArray) (u280008 : Value) (u285008 : Value), v12 = .int .i64 x12_56 ∧ v13 = .int .i64 x13_56 ∧ Aside0 (packhorselaw11_BatchRuns.j3 kq y291 x12_56 x13_56 l2 (l2.length : Int) x33_2 X0_56 X1_56 X2_56 X3_56 X4_56 X5_56 X6_56 X7_56 X8_56 a1_0 a1_1 X11_56 X12_56 X13_56 X14_56 X15_56 X16_56 X17_56 X18_56 X19_56 X0_2 X1_2 X2_2 X3_2 X4_2 X5_2 X6_2 X7_2 X8_2 = some r) ∧ Aside0 (kq ≤ kj37) ∧ Aside0 (Kd.R Kd.string 9 wc w.heap.size (fun k_ => (w.heap.size ≤ k_)) v292 y291) ∧ Aside0 (Kd.V Kd.string 9 wc w.heap.size (fun k_ => (P0_8_ k_ ∨ w.heap.size ≤ k_) ∧ some k_ ≠ (v292 : Value).ownBlock ∧ k_ ≠ gb279 ∧ k_ ≠ gb280 ∧ k_ ≠ gb284 ∧ k_ ≠ gb286 ∧ k_ ≠ gb294) u280008 X8_56) ∧ Aside0 (Kd.V Kd.string 9 wc w.heap.size (fun k_ => (P0_8_ k_ ∨ w.heap.size ≤ k_) ∧ some k_ ≠ (v292 : Value).ownBlock ∧ k_ ≠ gb279 ∧ k_ ≠ gb280 ∧ k_ ≠ gb284 ∧ k_ ≠ gb286 ∧ k_ ≠ gb294) u285008 X19_56) ∧ Aside0 (Kd.V Kd.string 9 wc w.heap.size (fun k_ => (P0_8_ k_ ∨ w.heap.size ≤ k_) ∧ some k_ ≠ (v292 : Value).ownBlock ∧ k_ ≠ gb279 ∧ k_ ≠ gb280 ∧ k_ ≠ gb284 ∧ k_ ≠ gb286 ∧ k_ ≠ gb294) (.slice Ao65 X8_2.length co65) X8_2) ∧ Aside0 (wc.heap[gb279]? = some (.cells #[.int .i64 X0_56, .int .i64 X1_56, .int .i64 X2_56, .int .i64 X3_56, .int .i64 X4_56, .string X5_56, .string X6_56, .string X7_56, u280008] 31 (0, 0))) ∧ Aside0 (wc.heap[gb280]? = some (.cells #[.int .i64 a1_0, .int .i64 a1_1] 23 (0, 0))) ∧ Aside0 (wc.heap[gb284]? = some (.cells #[.int .i64 X11_56, .int .i64 X12_56, .int .i64 X13_56, .int .i64 X14_56, .int .i64 X15_56, .string X16_56, .string X17_56, .string X18_56, u285008] 31 (0, 0))) ∧ Aside0 (wc.heap[gb286]? = some (.cells #[.int .i64 ((rd_T34 l2 x33_2).f0), .string ((rd_T34 l2 x33_2).f1), .int .i64 ((rd_T34 l2 x33_2).f2)] 34 (0, 0))) ∧ Aside0 (wc.heap[gb294]? = some (.cells #[.int .i64 X0_2, .int .i64 X1_2, .int .i64 X2_2, .int .i64 X3_2, .int .i64 X4_2, .string X5_2, .string X6_2, .string X7_2, (.slice Ao65 X8_2.length co65)] 31 (0, 0))) ∧ Aside0 (Below w.heap.size w wc))
              case first =>
               have H := HC57.out; clear HC57
               by_cases c77 : ((rd_T34 l2 x33_2).f0) = 0
               ·rw [if_pos c77] at H
                have c77b0 : (((rd_T34 l2 x33_2).f0) == 0) = true := beq_iff_eq.mpr c77; have c77b1 : (((rd_T34 l2 x33_2).f0) != 0) = false := bne_eq_false_iff_eq.mpr c77; clear c77
                (first | rw [c77b0] | (simp only [i64_w, i32_w]; rw [c77b0]) | skip)
                replace H := obm H; obtain ⟨⟨t295, t296, t297, t298, t299, t300, t301, t302, t303, t306⟩, A780, H⟩ := H; replace H : ((packhorseref11_Join.f kj37 X11_2 X12_2 X13_2 X14_2 X15_2 X16_2 X17_2 X18_2 X19_2 a1_0 a1_1 ((rd_T34 l2 x33_2).f1) ((rd_T34 l2 x33_2).f2)).bind fun bt307 => (packhorselaw11_BatchRuns.j3 kj37 y291 t306 bt307.2.2.2.2.2.2.2.2.2 l2 (l2.length : Int) x33_2 t295 t296 t297 t298 t299 t300 t301 t302 t303 a1_0 a1_1 bt307.1 bt307.2.1 bt307.2.2.1 bt307.2.2.2.1 bt307.2.2.2.2.1 bt307.2.2.2.2.2.1 bt307.2.2.2.2.2.2.1 bt307.2.2.2.2.2.2.2.1 bt307.2.2.2.2.2.2.2.2.1 X0_2 X1_2 X2_2 X3_2 X4_2 X5_2 X6_2 X7_2 X8_2)) = some r := H; have A78 := am A780; clear A780; replace H := obm H; obtain ⟨⟨t307, t308, t309, t310, t311, t312, t313, t314, t315, t318⟩, A790, H⟩ := H; replace H : (packhorselaw11_BatchRuns.j3 kj37 y291 t306 t318 l2 (l2.length : Int) x33_2 t295 t296 t297 t298 t299 t300 t301 t302 t303 a1_0 a1_1 t307 t308 t309 t310 t311 t312 t313 t314 t315 X0_2 X1_2 X2_2 X3_2 X4_2 X5_2 X6_2 X7_2 X8_2) = some r := H; have A79 := am A790; clear A790; have H' := am H; clear H; have := NB279_280.out; have := NB280_279.out; have := NB279_284.out; have := NB284_279.out; have := NB279_286.out; have := NB286_279.out; have := NB279_294.out; have := NB294_279.out; obtain ⟨hcz84_0, hcz84_1, hcz84_2, hcz84_3, hcz84_4, hcz84_5, hcz84_6, hcz84_7, hcz84_8⟩ := cells9 BK279.out; obtain ⟨hfz84_0, hfz84_1, hfz84_2, hfz84_3, hfz84_4, hfz84_5, hfz84_6, hfz84_7, hfz84_8⟩ := frozens9 BK279.out; have := NB280_284.out; have := NB284_280.out; have := NB280_286.out; have := NB286_280.out; have := NB280_294.out; have := NB294_280.out; obtain ⟨hcz88_0, hcz88_1⟩ := cells2 BK280.out; obtain ⟨hfz88_0, hfz88_1⟩ := frozens2 BK280.out; have := NB286_284.out; have := NB284_286.out; have := NB286_294.out; have := NB294_286.out; obtain ⟨hcz91_0, hcz91_1, hcz91_2⟩ := cells3 BK286.out; obtain ⟨hfz91_0, hfz91_1, hfz91_2⟩ := frozens3 BK286.out
                go_wp2_with (first | ((with_reducible refine gate_callee (f := 13) rfl ?_); refine goesL_ (some 62) rfl rfl Tryd.func13 (by kernel_rfl) rfl #[.agg #[.int .i64 X0_2, .int .i64 X1_2, .int .i64 X2_2, .int .i64 X3_2, .int .i64 X4_2, .string X5_2, .string X6_2, .string X7_2, .slice Ao65 X8_2.length co65], .agg #[.int .i64 a1_0, .int .i64 a1_1], .string ((rd_T34 l2 x33_2).f1), .int .i64 ((rd_T34 l2 x33_2).f2)] rfl ap1 ?_; (with_reducible refine (batch_Join.calls kj37 X0_2 X1_2 X2_2 X3_2 X4_2 X5_2 X6_2 X7_2 (fun k_ => ((P0_8_ k_ ∨ w.heap.size ≤ k_) ∧ (some k_ ≠ (v292 : Value).ownBlock ∧ (k_ ≠ gb279 ∧ (k_ ≠ gb280 ∧ (k_ ≠ gb284 ∧ (k_ ≠ gb286 ∧ k_ ≠ gb294))))))) _ _ X8_2 a1_0 a1_1 ((rd_T34 l2 x33_2).f1) ((rd_T34 l2 x33_2).f2) t295 t296 t297 t298 t299 t300 t301 t302 t303 t306 _ ?side1 ?side2 A78.out).mono ?_); (case side1 => exact HO_280008.out); (case side2 => first | exact HT.out | exact Tabs.below HT.out (beu HB.out)); rintro e w92 ⟨v304, rfl, ho0, hb⟩; refine ⟨_, rfl, ?_⟩; have _ := am (Kd.V_below (by (with_reducible repeat (first | apply Kd.V_alloc | apply Kd.V_drewN | apply Kd.V_drew)); exact HO_280008.out) hb); have _ := am (Kd.V_below (by (with_reducible repeat (first | apply Kd.V_alloc | apply Kd.V_drewN | apply Kd.V_drew)); exact HO_285008.out) hb); have _ := am (Kd.R_below (ru HO293.out) hb); have _ := am (Kd.V_lower (Kd.V_mono (ok' := fun k_ => (P0_8_ k_ ∨ w.heap.size ≤ k_) ∧ some k_ ≠ (v292 : Value).ownBlock ∧ k_ ≠ gb279 ∧ k_ ≠ gb280 ∧ k_ ≠ gb284 ∧ k_ ≠ gb286 ∧ k_ ≠ gb294) ho0 (fun k_ hk_ => ⟨Or.elim hk_ (fun hs_ => hs_.1) (fun hn_ => (.inr (Nat.le_trans (below_size (beu HB.out)) hn_))), Or.elim hk_ (fun hs_ => hs_.2.1) (fun hn_ => (Kd.fresh' (Kd.R_lt (ru HO293.out)) k_ hn_)), Or.elim hk_ (fun hs_ => hs_.2.2.1) (fun hn_ => (Kd.freshB (bu BK279.out) k_ hn_)), Or.elim hk_ (fun hs_ => hs_.2.2.2.1) (fun hn_ => (Kd.freshB (bu BK280.out) k_ hn_)), Or.elim hk_ (fun hs_ => hs_.2.2.2.2.1) (fun hn_ => (Kd.freshB (bu BK284.out) k_ hn_)), Or.elim hk_ (fun hs_ => hs_.2.2.2.2.2.1) (fun hn_ => (Kd.freshB (bu BK286.out) k_ hn_)), Or.elim hk_ (fun hs_ => hs_.2.2.2.2.2.2) (fun hn_ => (Kd.freshB (bu BK294.out) k_ hn_))⟩)) (below_size (beu HB.out))); have _ := am (blk_below (bu BK279.out) hb); have _ := am (blk_below (bu BK280.out) hb); have _ := am (blk_below (bu BK284.out) hb); have _ := am (blk_below (bu BK286.out) hb); have _ := am (blk_below (bu BK294.out) hb); have _ := am (below_step (beu HB.out) hb); clear HO_280008 HO_285008 HO293 BK279 BK280 BK284 BK286 BK294 HB; rename_i HO_280008 HO_285008 HO293 HO305 BK279 BK280 BK284 BK286 BK294 HB; (try clear hb); (try clear ho0); obtain ⟨hcz93_0, hcz93_1, hcz93_2, hcz93_3, hcz93_4, hcz93_5, hcz93_6, hcz93_7, hcz93_8⟩ := cells9 BK279.out; obtain ⟨hfz93_0, hfz93_1, hfz93_2, hfz93_3, hfz93_4, hfz93_5, hfz93_6, hfz93_7, hfz93_8⟩ := frozens9 BK279.out; obtain ⟨Ao94, co94, eo94⟩ := Kd.V_slice HO305.out; subst eo94) | ((with_reducible refine gate_store (t := 31) (p := 3) rfl ?_); refine store_event (t := 31) (p := 3) (v := ?vo_w95) (w1 := (((((((((w92.setCell ⟨gb279, 0, none⟩ (.int .i64 t295)).setCell ⟨gb279, 1, none⟩ (.int .i64 t296)).setCell ⟨gb279, 2, none⟩ (.int .i64 t297)).setCell ⟨gb279, 3, none⟩ (.int .i64 t298)).setCell ⟨gb279, 4, none⟩ (.int .i64 t299)).setCell ⟨gb279, 5, none⟩ (.string t300)).setCell ⟨gb279, 6, none⟩ (.string t301)).setCell ⟨gb279, 7, none⟩ (.string t302)).setCell ⟨gb279, 8, none⟩ (.slice Ao94 t303.length co94))) ?hg ?ho ?hn ?hr ?_; (case ho => rfl); (case hg => rfl); (case hn => rfl); (case hr => first | (go_simp; done) | (go_simp; rfl)); intro w95 hw; have _ : Aside0 (Kd.V Kd.string 9 w95 w.heap.size (fun k_ => (P0_8_ k_ ∨ w.heap.size ≤ k_) ∧ some k_ ≠ (v292 : Value).ownBlock ∧ k_ ≠ gb279 ∧ k_ ≠ gb280 ∧ k_ ≠ gb284 ∧ k_ ≠ gb286 ∧ k_ ≠ gb294) (.slice Ao65 X8_2.length co65) X8_2) := ⟨(by rw [hw]; exact (by (with_reducible repeat (first | apply Kd.V_alloc | apply Kd.V_drewN | apply Kd.V_drew)); exact Kd.V_mono (vf gb279 8 (vf gb279 7 (vf gb279 6 (vf gb279 5 (vf gb279 4 (vf gb279 3 (vf gb279 2 (vf gb279 1 (vf gb279 0 (Kd.V_mono HO_280008.out (fun k_ hk => (⟨hk, hk.2.2.1⟩ : _ ∧ k_ ≠ gb279))) (.int .i64 t295)) (.int .i64 t296)) (.int .i64 t297)) (.int .i64 t298)) (.int .i64 t299)) (.string t300)) (.string t301)) (.string t302)) (.slice Ao94 t303.length co94)) (fun _ hk => ⟨hk.1.1, ⟨hk.1.2.1, ⟨hk.1.2.2.1, ⟨hk.1.2.2.2.1, ⟨hk.1.2.2.2.2.1, ⟨hk.1.2.2.2.2.2.1, hk.1.2.2.2.2.2.2⟩⟩⟩⟩⟩⟩)))⟩; have _ : Aside0 (Kd.V Kd.string 9 w95 w.heap.size (fun k_ => (P0_8_ k_ ∨ w.heap.size ≤ k_) ∧ some k_ ≠ (v292 : Value).ownBlock ∧ k_ ≠ gb279 ∧ k_ ≠ gb280 ∧ k_ ≠ gb284 ∧ k_ ≠ gb286 ∧ k_ ≠ gb294) u285008 X19_2) := ⟨(by rw [hw]; exact (by (with_reducible repeat (first | apply Kd.V_alloc | apply Kd.V_drewN | apply Kd.V_drew)); exact Kd.V_mono (vf gb279 8 (vf gb279 7 (vf gb279 6 (vf gb279 5 (vf gb279 4 (vf gb279 3 (vf gb279 2 (vf gb279 1 (vf gb279 0 (Kd.V_mono HO_285008.out (fun k_ hk => (⟨hk, hk.2.2.1⟩ : _ ∧ k_ ≠ gb279))) (.int .i64 t295)) (.int .i64 t296)) (.int .i64 t297)) (.int .i64 t298)) (.int .i64 t299)) (.string t300)) (.string t301)) (.string t302)) (.slice Ao94 t303.length co94)) (fun _ hk => ⟨hk.1.1, ⟨hk.1.2.1, ⟨hk.1.2.2.1, ⟨hk.1.2.2.2.1, ⟨hk.1.2.2.2.2.1, ⟨hk.1.2.2.2.2.2.1, hk.1.2.2.2.2.2.2⟩⟩⟩⟩⟩⟩)))⟩; have _ : Aside0 (Kd.R Kd.string 9 w95 w.heap.size (fun k_ => (w.heap.size ≤ k_)) v292 y291) := ⟨(by rw [hw]; exact (ru (Kd.R_mono (rf gb279 8 (rf gb279 7 (rf gb279 6 (rf gb279 5 (rf gb279 4 (rf gb279 3 (rf gb279 2 (rf gb279 1 (rf gb279 0 (Kd.R_types HO293.out BK279.out (by decide)) (.int .i64 t295)) (.int .i64 t296)) (.int .i64 t297)) (.int .i64 t298)) (.int .i64 t299)) (.string t300)) (.string t301)) (.string t302)) (.slice Ao94 t303.length co94)) (fun _ hk => hk.1))))⟩; have _ : Aside0 (Kd.V Kd.string 9 w95 w.heap.size (fun k_ => (P0_8_ k_ ∨ w.heap.size ≤ k_) ∧ some k_ ≠ (v292 : Value).ownBlock ∧ k_ ≠ gb279 ∧ k_ ≠ gb280 ∧ k_ ≠ gb284 ∧ k_ ≠ gb286 ∧ k_ ≠ gb294) (.slice Ao94 t303.length co94) t303) := ⟨(by rw [hw]; exact (by (with_reducible repeat (first | apply Kd.V_alloc | apply Kd.V_drewN | apply Kd.V_drew)); exact Kd.V_mono (vf gb279 8 (vf gb279 7 (vf gb279 6 (vf gb279 5 (vf gb279 4 (vf gb279 3 (vf gb279 2 (vf gb279 1 (vf gb279 0 (Kd.V_mono HO305.out (fun k_ hk => (⟨hk, hk.2.2.1⟩ : _ ∧ k_ ≠ gb279))) (.int .i64 t295)) (.int .i64 t296)) (.int .i64 t297)) (.int .i64 t298)) (.int .i64 t299)) (.string t300)) (.string t301)) (.string t302)) (.slice Ao94 t303.length co94)) (fun _ hk => ⟨hk.1.1, ⟨hk.1.2.1, ⟨hk.1.2.2.1, ⟨hk.1.2.2.2.1, ⟨hk.1.2.2.2.2.1, ⟨hk.1.2.2.2.2.2.1, hk.1.2.2.2.2.2.2⟩⟩⟩⟩⟩⟩)))⟩; have _ : Aside0 (w95.heap[gb279]? = some (.cells #[.int .i64 t295, .int .i64 t296, .int .i64 t297, .int .i64 t298, .int .i64 t299, .string t300, .string t301, .string t302, .slice Ao94 t303.length co94] 31 (0, 0))) := ⟨(by rw [hw]; exact (by refine bu ?_; refine blk_put (cs := #[.int .i64 t295, .int .i64 t296, .int .i64 t297, .int .i64 t298, .int .i64 t299, .string t300, .string t301, .string t302, .slice Ao65 X8_2.length co65]) ?_ 8 _ rfl; refine bu ?_; refine blk_put (cs := #[.int .i64 t295, .int .i64 t296, .int .i64 t297, .int .i64 t298, .int .i64 t299, .string t300, .string t301, .string X7_2, .slice Ao65 X8_2.length co65]) ?_ 7 _ rfl; refine bu ?_; refine blk_put (cs := #[.int .i64 t295, .int .i64 t296, .int .i64 t297, .int .i64 t298, .int .i64 t299, .string t300, .string X6_2, .string X7_2, .slice Ao65 X8_2.length co65]) ?_ 6 _ rfl; refine bu ?_; refine blk_put (cs := #[.int .i64 t295, .int .i64 t296, .int .i64 t297, .int .i64 t298, .int .i64 t299, .string X5_2, .string X6_2, .string X7_2, .slice Ao65 X8_2.length co65]) ?_ 5 _ rfl; refine bu ?_; refine blk_put (cs := #[.int .i64 t295, .int .i64 t296, .int .i64 t297, .int .i64 t298, .int .i64 X4_2, .string X5_2, .string X6_2, .string X7_2, .slice Ao65 X8_2.length co65]) ?_ 4 _ rfl; refine bu ?_; refine blk_put (cs := #[.int .i64 t295, .int .i64 t296, .int .i64 t297, .int .i64 X3_2, .int .i64 X4_2, .string X5_2, .string X6_2, .string X7_2, .slice Ao65 X8_2.length co65]) ?_ 3 _ rfl; refine bu ?_; refine blk_put (cs := #[.int .i64 t295, .int .i64 t296, .int .i64 X2_2, .int .i64 X3_2, .int .i64 X4_2, .string X5_2, .string X6_2, .string X7_2, .slice Ao65 X8_2.length co65]) ?_ 2 _ rfl; refine bu ?_; refine blk_put (cs := #[.int .i64 t295, .int .i64 X1_2, .int .i64 X2_2, .int .i64 X3_2, .int .i64 X4_2, .string X5_2, .string X6_2, .string X7_2, .slice Ao65 X8_2.length co65]) ?_ 1 _ rfl; refine bu ?_; refine blk_put (cs := #[.int .i64 X0_2, .int .i64 X1_2, .int .i64 X2_2, .int .i64 X3_2, .int .i64 X4_2, .string X5_2, .string X6_2, .string X7_2, .slice Ao65 X8_2.length co65]) ?_ 0 _ rfl; refine bu ?_; exact BK279.out))⟩; have _ : Aside0 (w95.heap[gb280]? = some (.cells #[.int .i64 a1_0, .int .i64 a1_1] 23 (0, 0))) := ⟨(by rw [hw]; exact (bf BK280.out))⟩; have _ : Aside0 (w95.heap[gb284]? = some (.cells #[.int .i64 X11_2, .int .i64 X12_2, .int .i64 X13_2, .int .i64 X14_2, .int .i64 X15_2, .string X16_2, .string X17_2, .string X18_2, u285008] 31 (0, 0))) := ⟨(by rw [hw]; exact (bf BK284.out))⟩; have _ : Aside0 (w95.heap[gb286]? = some (.cells #[.int .i64 ((rd_T34 l2 x33_2).f0), .string ((rd_T34 l2 x33_2).f1), .int .i64 ((rd_T34 l2 x33_2).f2)] 34 (0, 0))) := ⟨(by rw [hw]; exact (bf BK286.out))⟩; have _ : Aside0 (w95.heap[gb294]? = some (.cells #[.int .i64 X0_2, .int .i64 X1_2, .int .i64 X2_2, .int .i64 X3_2, .int .i64 X4_2, .string X5_2, .string X6_2, .string X7_2, .slice Ao65 X8_2.length co65] 31 (0, 0))) := ⟨(by rw [hw]; exact (bf BK294.out))⟩; have _ : Aside0 (Below w.heap.size w w95) := ⟨(by rw [hw]; exact (beu HB.out))⟩; clear hw HO_280008 HO_285008 HO293 HO305 BK279 BK280 BK284 BK286 BK294 HB; rename_i HO_280008 HO_285008 HO293 HO305 BK279 BK280 BK284 BK286 BK294 HB; have := NB284_294.out; have := NB294_284.out; obtain ⟨hcz97_0, hcz97_1, hcz97_2, hcz97_3, hcz97_4, hcz97_5, hcz97_6, hcz97_7, hcz97_8⟩ := cells9 BK284.out; obtain ⟨hfz97_0, hfz97_1, hfz97_2, hfz97_3, hfz97_4, hfz97_5, hfz97_6, hfz97_7, hfz97_8⟩ := frozens9 BK284.out; obtain ⟨hcz98_0, hcz98_1⟩ := cells2 BK280.out; obtain ⟨hfz98_0, hfz98_1⟩ := frozens2 BK280.out; obtain ⟨hcz99_0, hcz99_1, hcz99_2⟩ := cells3 BK286.out; obtain ⟨hfz99_0, hfz99_1, hfz99_2⟩ := frozens3 BK286.out; obtain ⟨Ao100, co100, eo100⟩ := Kd.V_slice HO_285008.out; subst eo100) | ((with_reducible refine gate_callee (f := 21) rfl ?_); refine goesL_ (some 72) rfl rfl Tryd.func21 (by kernel_rfl) rfl #[.agg #[.int .i64 X11_2, .int .i64 X12_2, .int .i64 X13_2, .int .i64 X14_2, .int .i64 X15_2, .string X16_2, .string X17_2, .string X18_2, .slice Ao100 X19_2.length co100], .agg #[.int .i64 a1_0, .int .i64 a1_1], .string ((rd_T34 l2 x33_2).f1), .int .i64 ((rd_T34 l2 x33_2).f2)] rfl ap1 ?_; (with_reducible refine (packhorseref11_Join.calls kj37 X11_2 X12_2 X13_2 X14_2 X15_2 X16_2 X17_2 X18_2 (fun k_ => ((P0_8_ k_ ∨ w.heap.size ≤ k_) ∧ (some k_ ≠ (v292 : Value).ownBlock ∧ (k_ ≠ gb279 ∧ (k_ ≠ gb280 ∧ (k_ ≠ gb284 ∧ (k_ ≠ gb286 ∧ k_ ≠ gb294))))))) _ _ X19_2 a1_0 a1_1 ((rd_T34 l2 x33_2).f1) ((rd_T34 l2 x33_2).f2) t307 t308 t309 t310 t311 t312 t313 t314 t315 t318 _ ?side1 A79.out).mono ?_); (case side1 => exact HO_285008.out); rintro e w101 ⟨v316, rfl, ho0, hb⟩; refine ⟨_, rfl, ?_⟩; have _ := am (Kd.V_below (by (with_reducible repeat (first | apply Kd.V_alloc | apply Kd.V_drewN | apply Kd.V_drew)); exact HO_280008.out) hb); have _ := am (Kd.V_below (by (with_reducible repeat (first | apply Kd.V_alloc | apply Kd.V_drewN | apply Kd.V_drew)); exact HO_285008.out) hb); have _ := am (Kd.R_below (ru HO293.out) hb); have _ := am (Kd.V_below (by (with_reducible repeat (first | apply Kd.V_alloc | apply Kd.V_drewN | apply Kd.V_drew)); exact HO305.out) hb); have _ := am (Kd.V_lower (Kd.V_mono (ok' := fun k_ => (P0_8_ k_ ∨ w.heap.size ≤ k_) ∧ some k_ ≠ (v292 : Value).ownBlock ∧ k_ ≠ gb279 ∧ k_ ≠ gb280 ∧ k_ ≠ gb284 ∧ k_ ≠ gb286 ∧ k_ ≠ gb294) ho0 (fun k_ hk_ => ⟨Or.elim hk_ (fun hs_ => hs_.1) (fun hn_ => (.inr (Nat.le_trans (below_size (beu HB.out)) hn_))), Or.elim hk_ (fun hs_ => hs_.2.1) (fun hn_ => (Kd.fresh' (Kd.R_lt (ru HO293.out)) k_ hn_)), Or.elim hk_ (fun hs_ => hs_.2.2.1) (fun hn_ => (Kd.freshB (bu BK279.out) k_ hn_)), Or.elim hk_ (fun hs_ => hs_.2.2.2.1) (fun hn_ => (Kd.freshB (bu BK280.out) k_ hn_)), Or.elim hk_ (fun hs_ => hs_.2.2.2.2.1) (fun hn_ => (Kd.freshB (bu BK284.out) k_ hn_)), Or.elim hk_ (fun hs_ => hs_.2.2.2.2.2.1) (fun hn_ => (Kd.freshB (bu BK286.out) k_ hn_)), Or.elim hk_ (fun hs_ => hs_.2.2.2.2.2.2) (fun hn_ => (Kd.freshB (bu BK294.out) k_ hn_))⟩)) (below_size (beu HB.out))); have _ := am (blk_below (bu BK279.out) hb); have _ := am (blk_below (bu BK280.out) hb); have _ := am (blk_below (bu BK284.out) hb); have _ := am (blk_below (bu BK286.out) hb); have _ := am (blk_below (bu BK294.out) hb); have _ := am (below_step (beu HB.out) hb); clear HO_280008 HO_285008 HO293 HO305 BK279 BK280 BK284 BK286 BK294 HB; rename_i HO_280008 HO_285008 HO293 HO305 HO317 BK279 BK280 BK284 BK286 BK294 HB; (try clear hb); (try clear ho0); obtain ⟨hcz102_0, hcz102_1, hcz102_2, hcz102_3, hcz102_4, hcz102_5, hcz102_6, hcz102_7, hcz102_8⟩ := cells9 BK284.out; obtain ⟨hfz102_0, hfz102_1, hfz102_2, hfz102_3, hfz102_4, hfz102_5, hfz102_6, hfz102_7, hfz102_8⟩ := frozens9 BK284.out; obtain ⟨Ao103, co103, eo103⟩ := Kd.V_slice HO317.out; subst eo103) | ((with_reducible refine gate_store (t := 31) (p := 7) rfl ?_); refine store_event (t := 31) (p := 7) (v := ?vo_w104) (w1 := (((((((((w101.setCell ⟨gb284, 0, none⟩ (.int .i64 t307)).setCell ⟨gb284, 1, none⟩ (.int .i64 t308)).setCell ⟨gb284, 2, none⟩ (.int .i64 t309)).setCell ⟨gb284, 3, none⟩ (.int .i64 t310)).setCell ⟨gb284, 4, none⟩ (.int .i64 t311)).setCell ⟨gb284, 5, none⟩ (.string t312)).setCell ⟨gb284, 6, none⟩ (.string t313)).setCell ⟨gb284, 7, none⟩ (.string t314)).setCell ⟨gb284, 8, none⟩ (.slice Ao103 t315.length co103))) ?hg ?ho ?hn ?hr ?_; (case ho => rfl); (case hg => rfl); (case hn => rfl); (case hr => first | (go_simp; done) | (go_simp; rfl)); intro w104 hw; have _ : Aside0 (Kd.V Kd.string 9 w104 w.heap.size (fun k_ => (P0_8_ k_ ∨ w.heap.size ≤ k_) ∧ some k_ ≠ (v292 : Value).ownBlock ∧ k_ ≠ gb279 ∧ k_ ≠ gb280 ∧ k_ ≠ gb284 ∧ k_ ≠ gb286 ∧ k_ ≠ gb294) (.slice Ao65 X8_2.length co65) X8_2) := ⟨(by rw [hw]; exact (by (with_reducible repeat (first | apply Kd.V_alloc | apply Kd.V_drewN | apply Kd.V_drew)); exact Kd.V_mono (vf gb284 8 (vf gb284 7 (vf gb284 6 (vf gb284 5 (vf gb284 4 (vf gb284 3 (vf gb284 2 (vf gb284 1 (vf gb284 0 (Kd.V_mono HO_280008.out (fun k_ hk => (⟨hk, hk.2.2.2.2.1⟩ : _ ∧ k_ ≠ gb284))) (.int .i64 t307)) (.int .i64 t308)) (.int .i64 t309)) (.int .i64 t310)) (.int .i64 t311)) (.string t312)) (.string t313)) (.string t314)) (.slice Ao103 t315.length co103)) (fun _ hk => ⟨hk.1.1, ⟨hk.1.2.1, ⟨hk.1.2.2.1, ⟨hk.1.2.2.2.1, ⟨hk.1.2.2.2.2.1, ⟨hk.1.2.2.2.2.2.1, hk.1.2.2.2.2.2.2⟩⟩⟩⟩⟩⟩)))⟩; have _ : Aside0 (Kd.V Kd.string 9 w104 w.heap.size (fun k_ => (P0_8_ k_ ∨ w.heap.size ≤ k_) ∧ some k_ ≠ (v292 : Value).ownBlock ∧ k_ ≠ gb279 ∧ k_ ≠ gb280 ∧ k_ ≠ gb284 ∧ k_ ≠ gb286 ∧ k_ ≠ gb294) (.slice Ao100 X19_2.length co100) X19_2) := ⟨(by rw [hw]; exact (by (with_reducible repeat (first | apply Kd.V_alloc | apply Kd.V_drewN | apply Kd.V_drew)); exact Kd.V_mono (vf gb284 8 (vf gb284 7 (vf gb284 6 (vf gb284 5 (vf gb284 4 (vf gb284 3 (vf gb284 2 (vf gb284 1 (vf gb284 0 (Kd.V_mono HO_285008.out (fun k_ hk => (⟨hk, hk.2.2.2.2.1⟩ : _ ∧ k_ ≠ gb284))) (.int .i64 t307)) (.int .i64 t308)) (.int .i64 t309)) (.int .i64 t310)) (.int .i64 t311)) (.string t312)) (.string t313)) (.string t314)) (.slice Ao103 t315.length co103)) (fun _ hk => ⟨hk.1.1, ⟨hk.1.2.1, ⟨hk.1.2.2.1, ⟨hk.1.2.2.2.1, ⟨hk.1.2.2.2.2.1, ⟨hk.1.2.2.2.2.2.1, hk.1.2.2.2.2.2.2⟩⟩⟩⟩⟩⟩)))⟩; have _ : Aside0 (Kd.R Kd.string 9 w104 w.heap.size (fun k_ => (w.heap.size ≤ k_)) v292 y291) := ⟨(by rw [hw]; exact (ru (Kd.R_mono (rf gb284 8 (rf gb284 7 (rf gb284 6 (rf gb284 5 (rf gb284 4 (rf gb284 3 (rf gb284 2 (rf gb284 1 (rf gb284 0 (Kd.R_types HO293.out BK284.out (by decide)) (.int .i64 t307)) (.int .i64 t308)) (.int .i64 t309)) (.int .i64 t310)) (.int .i64 t311)) (.string t312)) (.string t313)) (.string t314)) (.slice Ao103 t315.length co103)) (fun _ hk => hk.1))))⟩; have _ : Aside0 (Kd.V Kd.string 9 w104 w.heap.size (fun k_ => (P0_8_ k_ ∨ w.heap.size ≤ k_) ∧ some k_ ≠ (v292 : Value).ownBlock ∧ k_ ≠ gb279 ∧ k_ ≠ gb280 ∧ k_ ≠ gb284 ∧ k_ ≠ gb286 ∧ k_ ≠ gb294) (.slice Ao94 t303.length co94) t303) := ⟨(by rw [hw]; exact (by (with_reducible repeat (first | apply Kd.V_alloc | apply Kd.V_drewN | apply Kd.V_drew)); exact Kd.V_mono (vf gb284 8 (vf gb284 7 (vf gb284 6 (vf gb284 5 (vf gb284 4 (vf gb284 3 (vf gb284 2 (vf gb284 1 (vf gb284 0 (Kd.V_mono HO305.out (fun k_ hk => (⟨hk, hk.2.2.2.2.1⟩ : _ ∧ k_ ≠ gb284))) (.int .i64 t307)) (.int .i64 t308)) (.int .i64 t309)) (.int .i64 t310)) (.int .i64 t311)) (.string t312)) (.string t313)) (.string t314)) (.slice Ao103 t315.length co103)) (fun _ hk => ⟨hk.1.1, ⟨hk.1.2.1, ⟨hk.1.2.2.1, ⟨hk.1.2.2.2.1, ⟨hk.1.2.2.2.2.1, ⟨hk.1.2.2.2.2.2.1, hk.1.2.2.2.2.2.2⟩⟩⟩⟩⟩⟩)))⟩; have _ : Aside0 (Kd.V Kd.string 9 w104 w.heap.size (fun k_ => (P0_8_ k_ ∨ w.heap.size ≤ k_) ∧ some k_ ≠ (v292 : Value).ownBlock ∧ k_ ≠ gb279 ∧ k_ ≠ gb280 ∧ k_ ≠ gb284 ∧ k_ ≠ gb286 ∧ k_ ≠ gb294) (.slice Ao103 t315.length co103) t315) := ⟨(by rw [hw]; exact (by (with_reducible repeat (first | apply Kd.V_alloc | apply Kd.V_drewN | apply Kd.V_drew)); exact Kd.V_mono (vf gb284 8 (vf gb284 7 (vf gb284 6 (vf gb284 5 (vf gb284 4 (vf gb284 3 (vf gb284 2 (vf gb284 1 (vf gb284 0 (Kd.V_mono HO317.out (fun k_ hk => (⟨hk, hk.2.2.2.2.1⟩ : _ ∧ k_ ≠ gb284))) (.int .i64 t307)) (.int .i64 t308)) (.int .i64 t309)) (.int .i64 t310)) (.int .i64 t311)) (.string t312)) (.string t313)) (.string t314)) (.slice Ao103 t315.length co103)) (fun _ hk => ⟨hk.1.1, ⟨hk.1.2.1, ⟨hk.1.2.2.1, ⟨hk.1.2.2.2.1, ⟨hk.1.2.2.2.2.1, ⟨hk.1.2.2.2.2.2.1, hk.1.2.2.2.2.2.2⟩⟩⟩⟩⟩⟩)))⟩; have _ : Aside0 (w104.heap[gb279]? = some (.cells #[.int .i64 t295, .int .i64 t296, .int .i64 t297, .int .i64 t298, .int .i64 t299, .string t300, .string t301, .string t302, .slice Ao94 t303.length co94] 31 (0, 0))) := ⟨(by rw [hw]; exact (bf BK279.out))⟩; have _ : Aside0 (w104.heap[gb280]? = some (.cells #[.int .i64 a1_0, .int .i64 a1_1] 23 (0, 0))) := ⟨(by rw [hw]; exact (bf BK280.out))⟩; have _ : Aside0 (w104.heap[gb284]? = some (.cells #[.int .i64 t307, .int .i64 t308, .int .i64 t309, .int .i64 t310, .int .i64 t311, .string t312, .string t313, .string t314, .slice Ao103 t315.length co103] 31 (0, 0))) := ⟨(by rw [hw]; exact (by refine bu ?_; refine blk_put (cs := #[.int .i64 t307, .int .i64 t308, .int .i64 t309, .int .i64 t310, .int .i64 t311, .string t312, .string t313, .string t314, .slice Ao100 X19_2.length co100]) ?_ 8 _ rfl; refine bu ?_; refine blk_put (cs := #[.int .i64 t307, .int .i64 t308, .int .i64 t309, .int .i64 t310, .int .i64 t311, .string t312, .string t313, .string X18_2, .slice Ao100 X19_2.length co100]) ?_ 7 _ rfl; refine bu ?_; refine blk_put (cs := #[.int .i64 t307, .int .i64 t308, .int .i64 t309, .int .i64 t310, .int .i64 t311, .string t312, .string X17_2, .string X18_2, .slice Ao100 X19_2.length co100]) ?_ 6 _ rfl; refine bu ?_; refine blk_put (cs := #[.int .i64 t307, .int .i64 t308, .int .i64 t309, .int .i64 t310, .int .i64 t311, .string X16_2, .string X17_2, .string X18_2, .slice Ao100 X19_2.length co100]) ?_ 5 _ rfl; refine bu ?_; refine blk_put (cs := #[.int .i64 t307, .int .i64 t308, .int .i64 t309, .int .i64 t310, .int .i64 X15_2, .string X16_2, .string X17_2, .string X18_2, .slice Ao100 X19_2.length co100]) ?_ 4 _ rfl; refine bu ?_; refine blk_put (cs := #[.int .i64 t307, .int .i64 t308, .int .i64 t309, .int .i64 X14_2, .int .i64 X15_2, .string X16_2, .string X17_2, .string X18_2, .slice Ao100 X19_2.length co100]) ?_ 3 _ rfl; refine bu ?_; refine blk_put (cs := #[.int .i64 t307, .int .i64 t308, .int .i64 X13_2, .int .i64 X14_2, .int .i64 X15_2, .string X16_2, .string X17_2, .string X18_2, .slice Ao100 X19_2.length co100]) ?_ 2 _ rfl; refine bu ?_; refine blk_put (cs := #[.int .i64 t307, .int .i64 X12_2, .int .i64 X13_2, .int .i64 X14_2, .int .i64 X15_2, .string X16_2, .string X17_2, .string X18_2, .slice Ao100 X19_2.length co100]) ?_ 1 _ rfl; refine bu ?_; refine blk_put (cs := #[.int .i64 X11_2, .int .i64 X12_2, .int .i64 X13_2, .int .i64 X14_2, .int .i64 X15_2, .string X16_2, .string X17_2, .string X18_2, .slice Ao100 X19_2.length co100]) ?_ 0 _ rfl; refine bu ?_; exact BK284.out))⟩; have _ : Aside0 (w104.heap[gb286]? = some (.cells #[.int .i64 ((rd_T34 l2 x33_2).f0), .string ((rd_T34 l2 x33_2).f1), .int .i64 ((rd_T34 l2 x33_2).f2)] 34 (0, 0))) := ⟨(by rw [hw]; exact (bf BK286.out))⟩; have _ : Aside0 (w104.heap[gb294]? = some (.cells #[.int .i64 X0_2, .int .i64 X1_2, .int .i64 X2_2, .int .i64 X3_2, .int .i64 X4_2, .string X5_2, .string X6_2, .string X7_2, .slice Ao65 X8_2.length co65] 31 (0, 0))) := ⟨(by rw [hw]; exact (bf BK294.out))⟩; have _ : Aside0 (Below w.heap.size w w104) := ⟨(by rw [hw]; exact (beu HB.out))⟩; clear hw HO_280008 HO_285008 HO293 HO305 HO317 BK279 BK280 BK284 BK286 BK294 HB; rename_i HO_280008 HO_285008 HO293 HO305 HO317 BK279 BK280 BK284 BK286 BK294 HB))
                go_meet
                case rel => exact ⟨_, (t306), (t318), (t295), (t296), (t297), (t298), (t299), (t300), (t301), (t302), (t303), (t307), (t308), (t309), (t310), (t311), (t312), (t313), (t314), (t315), (.slice Ao94 t303.length co94), (.slice Ao103 t315.length co103), ap3, ap3, H', ⟨by have := HJ5.out; have := HK2.out; have := HJ37.out; first | omega | exact Nat.le_refl _⟩, ⟨ru HO293.out⟩, ⟨by (with_reducible repeat (first | apply Kd.V_alloc | apply Kd.V_drewN | apply Kd.V_drew)); exact HO305.out⟩, ⟨by (with_reducible repeat (first | apply Kd.V_alloc | apply Kd.V_drewN | apply Kd.V_drew)); exact HO317.out⟩, ⟨by (with_reducible repeat (first | apply Kd.V_alloc | apply Kd.V_drewN | apply Kd.V_drew)); exact HO_280008.out⟩, ⟨by refine bu ?_; exact BK279.out⟩, ⟨by refine bu ?_; exact BK280.out⟩, ⟨by refine bu ?_; exact BK284.out⟩, ⟨by refine bu ?_; exact BK286.out⟩, ⟨by refine bu ?_; exact BK294.out⟩, ⟨beu HB.out⟩⟩
               ·rw [if_neg c77] at H
                have c77b0 : (((rd_T34 l2 x33_2).f0) == 0) = false := beq_eq_false_iff_ne.mpr c77; have c77b1 : (((rd_T34 l2 x33_2).f0) != 0) = true := bne_iff_ne.mpr c77
                (first | rw [c77b0] | (simp only [i64_w, i32_w]; rw [c77b0]) | skip)
                replace H := obm H; obtain ⟨⟨t319, t320, t321, t322, t323, t324, t325, t326, t327, t330⟩, A1050, H⟩ := H; replace H : ((packhorseref11_Evict.f kj37 X11_2 X12_2 X13_2 X14_2 X15_2 X16_2 X17_2 X18_2 X19_2 ((rd_T34 l2 x33_2).f1) ((rd_T34 l2 x33_2).f2)).bind fun bt331 => (packhorselaw11_BatchRuns.j3 kj37 y291 t330 bt331.2.2.2.2.2.2.2.2.2 l2 (l2.length : Int) x33_2 t319 t320 t321 t322 t323 t324 t325 t326 t327 a1_0 a1_1 bt331.1 bt331.2.1 bt331.2.2.1 bt331.2.2.2.1 bt331.2.2.2.2.1 bt331.2.2.2.2.2.1 bt331.2.2.2.2.2.2.1 bt331.2.2.2.2.2.2.2.1 bt331.2.2.2.2.2.2.2.2.1 X0_2 X1_2 X2_2 X3_2 X4_2 X5_2 X6_2 X7_2 X8_2)) = some r := H; have A105 := am A1050; clear A1050; replace H := obm H; obtain ⟨⟨t331, t332, t333, t334, t335, t336, t337, t338, t339, t342⟩, A1060, H⟩ := H; replace H : (packhorselaw11_BatchRuns.j3 kj37 y291 t330 t342 l2 (l2.length : Int) x33_2 t319 t320 t321 t322 t323 t324 t325 t326 t327 a1_0 a1_1 t331 t332 t333 t334 t335 t336 t337 t338 t339 X0_2 X1_2 X2_2 X3_2 X4_2 X5_2 X6_2 X7_2 X8_2) = some r := H; have A106 := am A1060; clear A1060; have H' := am H; clear H; have := NB279_280.out; have := NB280_279.out; have := NB279_284.out; have := NB284_279.out; have := NB279_286.out; have := NB286_279.out; have := NB279_294.out; have := NB294_279.out; obtain ⟨hcz111_0, hcz111_1, hcz111_2, hcz111_3, hcz111_4, hcz111_5, hcz111_6, hcz111_7, hcz111_8⟩ := cells9 BK279.out; obtain ⟨hfz111_0, hfz111_1, hfz111_2, hfz111_3, hfz111_4, hfz111_5, hfz111_6, hfz111_7, hfz111_8⟩ := frozens9 BK279.out; have := NB286_280.out; have := NB280_286.out; have := NB286_284.out; have := NB284_286.out; have := NB286_294.out; have := NB294_286.out; obtain ⟨hcz115_0, hcz115_1, hcz115_2⟩ := cells3 BK286.out; obtain ⟨hfz115_0, hfz115_1, hfz115_2⟩ := frozens3 BK286.out
                go_wp2_with (first | ((with_reducible refine gate_callee (f := 22) rfl ?_); refine goesL_ (some 81) rfl rfl Tryd.func22 (by kernel_rfl) rfl #[.agg #[.int .i64 X0_2, .int .i64 X1_2, .int .i64 X2_2, .int .i64 X3_2, .int .i64 X4_2, .string X5_2, .string X6_2, .string X7_2, .slice Ao65 X8_2.length co65], .string ((rd_T34 l2 x33_2).f1), .int .i64 ((rd_T34 l2 x33_2).f2)] rfl ap1 ?_; (with_reducible refine (batch_Evict.calls kj37 X0_2 X1_2 X2_2 X3_2 X4_2 X5_2 X6_2 X7_2 (fun k_ => ((P0_8_ k_ ∨ w.heap.size ≤ k_) ∧ (some k_ ≠ (v292 : Value).ownBlock ∧ (k_ ≠ gb279 ∧ (k_ ≠ gb280 ∧ (k_ ≠ gb284 ∧ (k_ ≠ gb286 ∧ k_ ≠ gb294))))))) _ _ X8_2 ((rd_T34 l2 x33_2).f1) ((rd_T34 l2 x33_2).f2) t319 t320 t321 t322 t323 t324 t325 t326 t327 t330 _ ?side1 A105.out).mono ?_); (case side1 => exact HO_280008.out); rintro e w116 ⟨v328, rfl, ho0, hb⟩; refine ⟨_, rfl, ?_⟩; have _ := am (Kd.V_below (by (with_reducible repeat (first | apply Kd.V_alloc | apply Kd.V_drewN | apply Kd.V_drew)); exact HO_280008.out) hb); have _ := am (Kd.V_below (by (with_reducible repeat (first | apply Kd.V_alloc | apply Kd.V_drewN | apply Kd.V_drew)); exact HO_285008.out) hb); have _ := am (Kd.R_below (ru HO293.out) hb); have _ := am (Kd.V_lower (Kd.V_mono (ok' := fun k_ => (P0_8_ k_ ∨ w.heap.size ≤ k_) ∧ some k_ ≠ (v292 : Value).ownBlock ∧ k_ ≠ gb279 ∧ k_ ≠ gb280 ∧ k_ ≠ gb284 ∧ k_ ≠ gb286 ∧ k_ ≠ gb294) ho0 (fun k_ hk_ => ⟨Or.elim hk_ (fun hs_ => hs_.1) (fun hn_ => (.inr (Nat.le_trans (below_size (beu HB.out)) hn_))), Or.elim hk_ (fun hs_ => hs_.2.1) (fun hn_ => (Kd.fresh' (Kd.R_lt (ru HO293.out)) k_ hn_)), Or.elim hk_ (fun hs_ => hs_.2.2.1) (fun hn_ => (Kd.freshB (bu BK279.out) k_ hn_)), Or.elim hk_ (fun hs_ => hs_.2.2.2.1) (fun hn_ => (Kd.freshB (bu BK280.out) k_ hn_)), Or.elim hk_ (fun hs_ => hs_.2.2.2.2.1) (fun hn_ => (Kd.freshB (bu BK284.out) k_ hn_)), Or.elim hk_ (fun hs_ => hs_.2.2.2.2.2.1) (fun hn_ => (Kd.freshB (bu BK286.out) k_ hn_)), Or.elim hk_ (fun hs_ => hs_.2.2.2.2.2.2) (fun hn_ => (Kd.freshB (bu BK294.out) k_ hn_))⟩)) (below_size (beu HB.out))); have _ := am (blk_below (bu BK279.out) hb); have _ := am (blk_below (bu BK280.out) hb); have _ := am (blk_below (bu BK284.out) hb); have _ := am (blk_below (bu BK286.out) hb); have _ := am (blk_below (bu BK294.out) hb); have _ := am (below_step (beu HB.out) hb); clear HO_280008 HO_285008 HO293 BK279 BK280 BK284 BK286 BK294 HB; rename_i HO_280008 HO_285008 HO293 HO329 BK279 BK280 BK284 BK286 BK294 HB; (try clear hb); (try clear ho0); obtain ⟨hcz117_0, hcz117_1, hcz117_2, hcz117_3, hcz117_4, hcz117_5, hcz117_6, hcz117_7, hcz117_8⟩ := cells9 BK279.out; obtain ⟨hfz117_0, hfz117_1, hfz117_2, hfz117_3, hfz117_4, hfz117_5, hfz117_6, hfz117_7, hfz117_8⟩ := frozens9 BK279.out; obtain ⟨Ao118, co118, eo118⟩ := Kd.V_slice HO329.out; subst eo118) | ((with_reducible refine gate_store (t := 31) (p := 3) rfl ?_); refine store_event (t := 31) (p := 3) (v := ?vo_w119) (w1 := (((((((((w116.setCell ⟨gb279, 0, none⟩ (.int .i64 t319)).setCell ⟨gb279, 1, none⟩ (.int .i64 t320)).setCell ⟨gb279, 2, none⟩ (.int .i64 t321)).setCell ⟨gb279, 3, none⟩ (.int .i64 t322)).setCell ⟨gb279, 4, none⟩ (.int .i64 t323)).setCell ⟨gb279, 5, none⟩ (.string t324)).setCell ⟨gb279, 6, none⟩ (.string t325)).setCell ⟨gb279, 7, none⟩ (.string t326)).setCell ⟨gb279, 8, none⟩ (.slice Ao118 t327.length co118))) ?hg ?ho ?hn ?hr ?_; (case ho => rfl); (case hg => rfl); (case hn => rfl); (case hr => first | (go_simp; done) | (go_simp; rfl)); intro w119 hw; have _ : Aside0 (Kd.V Kd.string 9 w119 w.heap.size (fun k_ => (P0_8_ k_ ∨ w.heap.size ≤ k_) ∧ some k_ ≠ (v292 : Value).ownBlock ∧ k_ ≠ gb279 ∧ k_ ≠ gb280 ∧ k_ ≠ gb284 ∧ k_ ≠ gb286 ∧ k_ ≠ gb294) (.slice Ao65 X8_2.length co65) X8_2) := ⟨(by rw [hw]; exact (by (with_reducible repeat (first | apply Kd.V_alloc | apply Kd.V_drewN | apply Kd.V_drew)); exact Kd.V_mono (vf gb279 8 (vf gb279 7 (vf gb279 6 (vf gb279 5 (vf gb279 4 (vf gb279 3 (vf gb279 2 (vf gb279 1 (vf gb279 0 (Kd.V_mono HO_280008.out (fun k_ hk => (⟨hk, hk.2.2.1⟩ : _ ∧ k_ ≠ gb279))) (.int .i64 t319)) (.int .i64 t320)) (.int .i64 t321)) (.int .i64 t322)) (.int .i64 t323)) (.string t324)) (.string t325)) (.string t326)) (.slice Ao118 t327.length co118)) (fun _ hk => ⟨hk.1.1, ⟨hk.1.2.1, ⟨hk.1.2.2.1, ⟨hk.1.2.2.2.1, ⟨hk.1.2.2.2.2.1, ⟨hk.1.2.2.2.2.2.1, hk.1.2.2.2.2.2.2⟩⟩⟩⟩⟩⟩)))⟩; have _ : Aside0 (Kd.V Kd.string 9 w119 w.heap.size (fun k_ => (P0_8_ k_ ∨ w.heap.size ≤ k_) ∧ some k_ ≠ (v292 : Value).ownBlock ∧ k_ ≠ gb279 ∧ k_ ≠ gb280 ∧ k_ ≠ gb284 ∧ k_ ≠ gb286 ∧ k_ ≠ gb294) u285008 X19_2) := ⟨(by rw [hw]; exact (by (with_reducible repeat (first | apply Kd.V_alloc | apply Kd.V_drewN | apply Kd.V_drew)); exact Kd.V_mono (vf gb279 8 (vf gb279 7 (vf gb279 6 (vf gb279 5 (vf gb279 4 (vf gb279 3 (vf gb279 2 (vf gb279 1 (vf gb279 0 (Kd.V_mono HO_285008.out (fun k_ hk => (⟨hk, hk.2.2.1⟩ : _ ∧ k_ ≠ gb279))) (.int .i64 t319)) (.int .i64 t320)) (.int .i64 t321)) (.int .i64 t322)) (.int .i64 t323)) (.string t324)) (.string t325)) (.string t326)) (.slice Ao118 t327.length co118)) (fun _ hk => ⟨hk.1.1, ⟨hk.1.2.1, ⟨hk.1.2.2.1, ⟨hk.1.2.2.2.1, ⟨hk.1.2.2.2.2.1, ⟨hk.1.2.2.2.2.2.1, hk.1.2.2.2.2.2.2⟩⟩⟩⟩⟩⟩)))⟩; have _ : Aside0 (Kd.R Kd.string 9 w119 w.heap.size (fun k_ => (w.heap.size ≤ k_)) v292 y291) := ⟨(by rw [hw]; exact (ru (Kd.R_mono (rf gb279 8 (rf gb279 7 (rf gb279 6 (rf gb279 5 (rf gb279 4 (rf gb279 3 (rf gb279 2 (rf gb279 1 (rf gb279 0 (Kd.R_types HO293.out BK279.out (by decide)) (.int .i64 t319)) (.int .i64 t320)) (.int .i64 t321)) (.int .i64 t322)) (.int .i64 t323)) (.string t324)) (.string t325)) (.string t326)) (.slice Ao118 t327.length co118)) (fun _ hk => hk.1))))⟩; have _ : Aside0 (Kd.V Kd.string 9 w119 w.heap.size (fun k_ => (P0_8_ k_ ∨ w.heap.size ≤ k_) ∧ some k_ ≠ (v292 : Value).ownBlock ∧ k_ ≠ gb279 ∧ k_ ≠ gb280 ∧ k_ ≠ gb284 ∧ k_ ≠ gb286 ∧ k_ ≠ gb294) (.slice Ao118 t327.length co118) t327) := ⟨(by rw [hw]; exact (by (with_reducible repeat (first | apply Kd.V_alloc | apply Kd.V_drewN | apply Kd.V_drew)); exact Kd.V_mono (vf gb279 8 (vf gb279 7 (vf gb279 6 (vf gb279 5 (vf gb279 4 (vf gb279 3 (vf gb279 2 (vf gb279 1 (vf gb279 0 (Kd.V_mono HO329.out (fun k_ hk => (⟨hk, hk.2.2.1⟩ : _ ∧ k_ ≠ gb279))) (.int .i64 t319)) (.int .i64 t320)) (.int .i64 t321)) (.int .i64 t322)) (.int .i64 t323)) (.string t324)) (.string t325)) (.string t326)) (.slice Ao118 t327.length co118)) (fun _ hk => ⟨hk.1.1, ⟨hk.1.2.1, ⟨hk.1.2.2.1, ⟨hk.1.2.2.2.1, ⟨hk.1.2.2.2.2.1, ⟨hk.1.2.2.2.2.2.1, hk.1.2.2.2.2.2.2⟩⟩⟩⟩⟩⟩)))⟩; have _ : Aside0 (w119.heap[gb279]? = some (.cells #[.int .i64 t319, .int .i64 t320, .int .i64 t321, .int .i64 t322, .int .i64 t323, .string t324, .string t325, .string t326, .slice Ao118 t327.length co118] 31 (0, 0))) := ⟨(by rw [hw]; exact (by refine bu ?_; refine blk_put (cs := #[.int .i64 t319, .int .i64 t320, .int .i64 t321, .int .i64 t322, .int .i64 t323, .string t324, .string t325, .string t326, .slice Ao65 X8_2.length co65]) ?_ 8 _ rfl; refine bu ?_; refine blk_put (cs := #[.int .i64 t319, .int .i64 t320, .int .i64 t321, .int .i64 t322, .int .i64 t323, .string t324, .string t325, .string X7_2, .slice Ao65 X8_2.length co65]) ?_ 7 _ rfl; refine bu ?_; refine blk_put (cs := #[.int .i64 t319, .int .i64 t320, .int .i64 t321, .int .i64 t322, .int .i64 t323, .string t324, .string X6_2, .string X7_2, .slice Ao65 X8_2.length co65]) ?_ 6 _ rfl; refine bu ?_; refine blk_put (cs := #[.int .i64 t319, .int .i64 t320, .int .i64 t321, .int .i64 t322, .int .i64 t323, .string X5_2, .string X6_2, .string X7_2, .slice Ao65 X8_2.length co65]) ?_ 5 _ rfl; refine bu ?_; refine blk_put (cs := #[.int .i64 t319, .int .i64 t320, .int .i64 t321, .int .i64 t322, .int .i64 X4_2, .string X5_2, .string X6_2, .string X7_2, .slice Ao65 X8_2.length co65]) ?_ 4 _ rfl; refine bu ?_; refine blk_put (cs := #[.int .i64 t319, .int .i64 t320, .int .i64 t321, .int .i64 X3_2, .int .i64 X4_2, .string X5_2, .string X6_2, .string X7_2, .slice Ao65 X8_2.length co65]) ?_ 3 _ rfl; refine bu ?_; refine blk_put (cs := #[.int .i64 t319, .int .i64 t320, .int .i64 X2_2, .int .i64 X3_2, .int .i64 X4_2, .string X5_2, .string X6_2, .string X7_2, .slice Ao65 X8_2.length co65]) ?_ 2 _ rfl; refine bu ?_; refine blk_put (cs := #[.int .i64 t319, .int .i64 X1_2, .int .i64 X2_2, .int .i64 X3_2, .int .i64 X4_2, .string X5_2, .string X6_2, .string X7_2, .slice Ao65 X8_2.length co65]) ?_ 1 _ rfl; refine bu ?_; refine blk_put (cs := #[.int .i64 X0_2, .int .i64 X1_2, .int .i64 X2_2, .int .i64 X3_2, .int .i64 X4_2, .string X5_2, .string X6_2, .string X7_2, .slice Ao65 X8_2.length co65]) ?_ 0 _ rfl; refine bu ?_; exact BK279.out))⟩; have _ : Aside0 (w119.heap[gb280]? = some (.cells #[.int .i64 a1_0, .int .i64 a1_1] 23 (0, 0))) := ⟨(by rw [hw]; exact (bf BK280.out))⟩; have _ : Aside0 (w119.heap[gb284]? = some (.cells #[.int .i64 X11_2, .int .i64 X12_2, .int .i64 X13_2, .int .i64 X14_2, .int .i64 X15_2, .string X16_2, .string X17_2, .string X18_2, u285008] 31 (0, 0))) := ⟨(by rw [hw]; exact (bf BK284.out))⟩; have _ : Aside0 (w119.heap[gb286]? = some (.cells #[.int .i64 ((rd_T34 l2 x33_2).f0), .string ((rd_T34 l2 x33_2).f1), .int .i64 ((rd_T34 l2 x33_2).f2)] 34 (0, 0))) := ⟨(by rw [hw]; exact (bf BK286.out))⟩; have _ : Aside0 (w119.heap[gb294]? = some (.cells #[.int .i64 X0_2, .int .i64 X1_2, .int .i64 X2_2, .int .i64 X3_2, .int .i64 X4_2, .string X5_2, .string X6_2, .string X7_2, .slice Ao65 X8_2.length co65] 31 (0, 0))) := ⟨(by rw [hw]; exact (bf BK294.out))⟩; have _ : Aside0 (Below w.heap.size w w119) := ⟨(by rw [hw]; exact (beu HB.out))⟩; clear hw HO_280008 HO_285008 HO293 HO329 BK279 BK280 BK284 BK286 BK294 HB; rename_i HO_280008 HO_285008 HO293 HO329 BK279 BK280 BK284 BK286 BK294 HB; have := NB284_280.out; have := NB280_284.out; have := NB284_294.out; have := NB294_284.out; obtain ⟨hcz122_0, hcz122_1, hcz122_2, hcz122_3, hcz122_4, hcz122_5, hcz122_6, hcz122_7, hcz122_8⟩ := cells9 BK284.out; obtain ⟨hfz122_0, hfz122_1, hfz122_2, hfz122_3, hfz122_4, hfz122_5, hfz122_6, hfz122_7, hfz122_8⟩ := frozens9 BK284.out; obtain ⟨hcz123_0, hcz123_1, hcz123_2⟩ := cells3 BK286.out; obtain ⟨hfz123_0, hfz123_1, hfz123_2⟩ := frozens3 BK286.out; obtain ⟨Ao124, co124, eo124⟩ := Kd.V_slice HO_285008.out; subst eo124) | ((with_reducible refine gate_callee (f := 23) rfl ?_); refine goesL_ (some 90) rfl rfl Tryd.func23 (by kernel_rfl) rfl #[.agg #[.int .i64 X11_2, .int .i64 X12_2, .int .i64 X13_2, .int .i64 X14_2, .int .i64 X15_2, .string X16_2, .string X17_2, .string X18_2, .slice Ao124 X19_2.length co124], .string ((rd_T34 l2 x33_2).f1), .int .i64 ((rd_T34 l2 x33_2).f2)] rfl ap1 ?_; (with_reducible refine (packhorseref11_Evict.calls kj37 X11_2 X12_2 X13_2 X14_2 X15_2 X16_2 X17_2 X18_2 (fun k_ => ((P0_8_ k_ ∨ w.heap.size ≤ k_) ∧ (some k_ ≠ (v292 : Value).ownBlock ∧ (k_ ≠ gb279 ∧ (k_ ≠ gb280 ∧ (k_ ≠ gb284 ∧ (k_ ≠ gb286 ∧ k_ ≠ gb294))))))) _ _ X19_2 ((rd_T34 l2 x33_2).f1) ((rd_T34 l2 x33_2).f2) t331 t332 t333 t334 t335 t336 t337 t338 t339 t342 _ ?side1 A106.out).mono ?_); (case side1 => exact HO_285008.out); rintro e w125 ⟨v340, rfl, ho0, hb⟩; refine ⟨_, rfl, ?_⟩; have _ := am (Kd.V_below (by (with_reducible repeat (first | apply Kd.V_alloc | apply Kd.V_drewN | apply Kd.V_drew)); exact HO_280008.out) hb); have _ := am (Kd.V_below (by (with_reducible repeat (first | apply Kd.V_alloc | apply Kd.V_drewN | apply Kd.V_drew)); exact HO_285008.out) hb); have _ := am (Kd.R_below (ru HO293.out) hb); have _ := am (Kd.V_below (by (with_reducible repeat (first | apply Kd.V_alloc | apply Kd.V_drewN | apply Kd.V_drew)); exact HO329.out) hb); have _ := am (Kd.V_lower (Kd.V_mono (ok' := fun k_ => (P0_8_ k_ ∨ w.heap.size ≤ k_) ∧ some k_ ≠ (v292 : Value).ownBlock ∧ k_ ≠ gb279 ∧ k_ ≠ gb280 ∧ k_ ≠ gb284 ∧ k_ ≠ gb286 ∧ k_ ≠ gb294) ho0 (fun k_ hk_ => ⟨Or.elim hk_ (fun hs_ => hs_.1) (fun hn_ => (.inr (Nat.le_trans (below_size (beu HB.out)) hn_))), Or.elim hk_ (fun hs_ => hs_.2.1) (fun hn_ => (Kd.fresh' (Kd.R_lt (ru HO293.out)) k_ hn_)), Or.elim hk_ (fun hs_ => hs_.2.2.1) (fun hn_ => (Kd.freshB (bu BK279.out) k_ hn_)), Or.elim hk_ (fun hs_ => hs_.2.2.2.1) (fun hn_ => (Kd.freshB (bu BK280.out) k_ hn_)), Or.elim hk_ (fun hs_ => hs_.2.2.2.2.1) (fun hn_ => (Kd.freshB (bu BK284.out) k_ hn_)), Or.elim hk_ (fun hs_ => hs_.2.2.2.2.2.1) (fun hn_ => (Kd.freshB (bu BK286.out) k_ hn_)), Or.elim hk_ (fun hs_ => hs_.2.2.2.2.2.2) (fun hn_ => (Kd.freshB (bu BK294.out) k_ hn_))⟩)) (below_size (beu HB.out))); have _ := am (blk_below (bu BK279.out) hb); have _ := am (blk_below (bu BK280.out) hb); have _ := am (blk_below (bu BK284.out) hb); have _ := am (blk_below (bu BK286.out) hb); have _ := am (blk_below (bu BK294.out) hb); have _ := am (below_step (beu HB.out) hb); clear HO_280008 HO_285008 HO293 HO329 BK279 BK280 BK284 BK286 BK294 HB; rename_i HO_280008 HO_285008 HO293 HO329 HO341 BK279 BK280 BK284 BK286 BK294 HB; (try clear hb); (try clear ho0); obtain ⟨hcz126_0, hcz126_1, hcz126_2, hcz126_3, hcz126_4, hcz126_5, hcz126_6, hcz126_7, hcz126_8⟩ := cells9 BK284.out; obtain ⟨hfz126_0, hfz126_1, hfz126_2, hfz126_3, hfz126_4, hfz126_5, hfz126_6, hfz126_7, hfz126_8⟩ := frozens9 BK284.out; obtain ⟨Ao127, co127, eo127⟩ := Kd.V_slice HO341.out; subst eo127) | ((with_reducible refine gate_store (t := 31) (p := 7) rfl ?_); refine store_event (t := 31) (p := 7) (v := ?vo_w128) (w1 := (((((((((w125.setCell ⟨gb284, 0, none⟩ (.int .i64 t331)).setCell ⟨gb284, 1, none⟩ (.int .i64 t332)).setCell ⟨gb284, 2, none⟩ (.int .i64 t333)).setCell ⟨gb284, 3, none⟩ (.int .i64 t334)).setCell ⟨gb284, 4, none⟩ (.int .i64 t335)).setCell ⟨gb284, 5, none⟩ (.string t336)).setCell ⟨gb284, 6, none⟩ (.string t337)).setCell ⟨gb284, 7, none⟩ (.string t338)).setCell ⟨gb284, 8, none⟩ (.slice Ao127 t339.length co127))) ?hg ?ho ?hn ?hr ?_; (case ho => rfl); (case hg => rfl); (case hn => rfl); (case hr => first | (go_simp; done) | (go_simp; rfl)); intro w128 hw; have _ : Aside0 (Kd.V Kd.string 9 w128 w.heap.size (fun k_ => (P0_8_ k_ ∨ w.heap.size ≤ k_) ∧ some k_ ≠ (v292 : Value).ownBlock ∧ k_ ≠ gb279 ∧ k_ ≠ gb280 ∧ k_ ≠ gb284 ∧ k_ ≠ gb286 ∧ k_ ≠ gb294) (.slice Ao65 X8_2.length co65) X8_2) := ⟨(by rw [hw]; exact (by (with_reducible repeat (first | apply Kd.V_alloc | apply Kd.V_drewN | apply Kd.V_drew)); exact Kd.V_mono (vf gb284 8 (vf gb284 7 (vf gb284 6 (vf gb284 5 (vf gb284 4 (vf gb284 3 (vf gb284 2 (vf gb284 1 (vf gb284 0 (Kd.V_mono HO_280008.out (fun k_ hk => (⟨hk, hk.2.2.2.2.1⟩ : _ ∧ k_ ≠ gb284))) (.int .i64 t331)) (.int .i64 t332)) (.int .i64 t333)) (.int .i64 t334)) (.int .i64 t335)) (.string t336)) (.string t337)) (.string t338)) (.slice Ao127 t339.length co127)) (fun _ hk => ⟨hk.1.1, ⟨hk.1.2.1, ⟨hk.1.2.2.1, ⟨hk.1.2.2.2.1, ⟨hk.1.2.2.2.2.1, ⟨hk.1.2.2.2.2.2.1, hk.1.2.2.2.2.2.2⟩⟩⟩⟩⟩⟩)))⟩; have _ : Aside0 (Kd.V Kd.string 9 w128 w.heap.size (fun k_ => (P0_8_ k_ ∨ w.heap.size ≤ k_) ∧ some k_ ≠ (v292 : Value).ownBlock ∧ k_ ≠ gb279 ∧ k_ ≠ gb280 ∧ k_ ≠ gb284 ∧ k_ ≠ gb286 ∧ k_ ≠ gb294) (.slice Ao124 X19_2.length co124) X19_2) := ⟨(by rw [hw]; exact (by (with_reducible repeat (first | apply Kd.V_alloc | apply Kd.V_drewN | apply Kd.V_drew)); exact Kd.V_mono (vf gb284 8 (vf gb284 7 (vf gb284 6 (vf gb284 5 (vf gb284 4 (vf gb284 3 (vf gb284 2 (vf gb284 1 (vf gb284 0 (Kd.V_mono HO_285008.out (fun k_ hk => (⟨hk, hk.2.2.2.2.1⟩ : _ ∧ k_ ≠ gb284))) (.int .i64 t331)) (.int .i64 t332)) (.int .i64 t333)) (.int .i64 t334)) (.int .i64 t335)) (.string t336)) (.string t337)) (.string t338)) (.slice Ao127 t339.length co127)) (fun _ hk => ⟨hk.1.1, ⟨hk.1.2.1, ⟨hk.1.2.2.1, ⟨hk.1.2.2.2.1, ⟨hk.1.2.2.2.2.1, ⟨hk.1.2.2.2.2.2.1, hk.1.2.2.2.2.2.2⟩⟩⟩⟩⟩⟩)))⟩; have _ : Aside0 (Kd.R Kd.string 9 w128 w.heap.size (fun k_ => (w.heap.size ≤ k_)) v292 y291) := ⟨(by rw [hw]; exact (ru (Kd.R_mono (rf gb284 8 (rf gb284 7 (rf gb284 6 (rf gb284 5 (rf gb284 4 (rf gb284 3 (rf gb284 2 (rf gb284 1 (rf gb284 0 (Kd.R_types HO293.out BK284.out (by decide)) (.int .i64 t331)) (.int .i64 t332)) (.int .i64 t333)) (.int .i64 t334)) (.int .i64 t335)) (.string t336)) (.string t337)) (.string t338)) (.slice Ao127 t339.length co127)) (fun _ hk => hk.1))))⟩; have _ : Aside0 (Kd.V Kd.string 9 w128 w.heap.size (fun k_ => (P0_8_ k_ ∨ w.heap.size ≤ k_) ∧ some k_ ≠ (v292 : Value).ownBlock ∧ k_ ≠ gb279 ∧ k_ ≠ gb280 ∧ k_ ≠ gb284 ∧ k_ ≠ gb286 ∧ k_ ≠ gb294) (.slice Ao118 t327.length co118) t327) := ⟨(by rw [hw]; exact (by (with_reducible repeat (first | apply Kd.V_alloc | apply Kd.V_drewN | apply Kd.V_drew)); exact Kd.V_mono (vf gb284 8 (vf gb284 7 (vf gb284 6 (vf gb284 5 (vf gb284 4 (vf gb284 3 (vf gb284 2 (vf gb284 1 (vf gb284 0 (Kd.V_mono HO329.out (fun k_ hk => (⟨hk, hk.2.2.2.2.1⟩ : _ ∧ k_ ≠ gb284))) (.int .i64 t331)) (.int .i64 t332)) (.int .i64 t333)) (.int .i64 t334)) (.int .i64 t335)) (.string t336)) (.string t337)) (.string t338)) (.slice Ao127 t339.length co127)) (fun _ hk => ⟨hk.1.1, ⟨hk.1.2.1, ⟨hk.1.2.2.1, ⟨hk.1.2.2.2.1, ⟨hk.1.2.2.2.2.1, ⟨hk.1.2.2.2.2.2.1, hk.1.2.2.2.2.2.2⟩⟩⟩⟩⟩⟩)))⟩; have _ : Aside0 (Kd.V Kd.string 9 w128 w.heap.size (fun k_ => (P0_8_ k_ ∨ w.heap.size ≤ k_) ∧ some k_ ≠ (v292 : Value).ownBlock ∧ k_ ≠ gb279 ∧ k_ ≠ gb280 ∧ k_ ≠ gb284 ∧ k_ ≠ gb286 ∧ k_ ≠ gb294) (.slice Ao127 t339.length co127) t339) := ⟨(by rw [hw]; exact (by (with_reducible repeat (first | apply Kd.V_alloc | apply Kd.V_drewN | apply Kd.V_drew)); exact Kd.V_mono (vf gb284 8 (vf gb284 7 (vf gb284 6 (vf gb284 5 (vf gb284 4 (vf gb284 3 (vf gb284 2 (vf gb284 1 (vf gb284 0 (Kd.V_mono HO341.out (fun k_ hk => (⟨hk, hk.2.2.2.2.1⟩ : _ ∧ k_ ≠ gb284))) (.int .i64 t331)) (.int .i64 t332)) (.int .i64 t333)) (.int .i64 t334)) (.int .i64 t335)) (.string t336)) (.string t337)) (.string t338)) (.slice Ao127 t339.length co127)) (fun _ hk => ⟨hk.1.1, ⟨hk.1.2.1, ⟨hk.1.2.2.1, ⟨hk.1.2.2.2.1, ⟨hk.1.2.2.2.2.1, ⟨hk.1.2.2.2.2.2.1, hk.1.2.2.2.2.2.2⟩⟩⟩⟩⟩⟩)))⟩; have _ : Aside0 (w128.heap[gb279]? = some (.cells #[.int .i64 t319, .int .i64 t320, .int .i64 t321, .int .i64 t322, .int .i64 t323, .string t324, .string t325, .string t326, .slice Ao118 t327.length co118] 31 (0, 0))) := ⟨(by rw [hw]; exact (bf BK279.out))⟩; have _ : Aside0 (w128.heap[gb280]? = some (.cells #[.int .i64 a1_0, .int .i64 a1_1] 23 (0, 0))) := ⟨(by rw [hw]; exact (bf BK280.out))⟩; have _ : Aside0 (w128.heap[gb284]? = some (.cells #[.int .i64 t331, .int .i64 t332, .int .i64 t333, .int .i64 t334, .int .i64 t335, .string t336, .string t337, .string t338, .slice Ao127 t339.length co127] 31 (0, 0))) := ⟨(by rw [hw]; exact (by refine bu ?_; refine blk_put (cs := #[.int .i64 t331, .int .i64 t332, .int .i64 t333, .int .i64 t334, .int .i64 t335, .string t336, .string t337, .string t338, .slice Ao124 X19_2.length co124]) ?_ 8 _ rfl; refine bu ?_; refine blk_put (cs := #[.int .i64 t331, .int .i64 t332, .int .i64 t333, .int .i64 t334, .int .i64 t335, .string t336, .string t337, .string X18_2, .slice Ao124 X19_2.length co124]) ?_ 7 _ rfl; refine bu ?_; refine blk_put (cs := #[.int .i64 t331, .int .i64 t332, .int .i64 t333, .int .i64 t334, .int .i64 t335, .string t336, .string X17_2, .string X18_2, .slice Ao124 X19_2.length co124]) ?_ 6 _ rfl; refine bu ?_; refine blk_put (cs := #[.int .i64 t331, .int .i64 t332, .int .i64 t333, .int .i64 t334, .int .i64 t335, .string X16_2, .string X17_2, .string X18_2, .slice Ao124 X19_2.length co124]) ?_ 5 _ rfl; refine bu ?_; refine blk_put (cs := #[.int .i64 t331, .int .i64 t332, .int .i64 t333, .int .i64 t334, .int .i64 X15_2, .string X16_2, .string X17_2, .string X18_2, .slice Ao124 X19_2.length co124]) ?_ 4 _ rfl; refine bu ?_; refine blk_put (cs := #[.int .i64 t331, .int .i64 t332, .int .i64 t333, .int .i64 X14_2, .int .i64 X15_2, .string X16_2, .string X17_2, .string X18_2, .slice Ao124 X19_2.length co124]) ?_ 3 _ rfl; refine bu ?_; refine blk_put (cs := #[.int .i64 t331, .int .i64 t332, .int .i64 X13_2, .int .i64 X14_2, .int .i64 X15_2, .string X16_2, .string X17_2, .string X18_2, .slice Ao124 X19_2.length co124]) ?_ 2 _ rfl; refine bu ?_; refine blk_put (cs := #[.int .i64 t331, .int .i64 X12_2, .int .i64 X13_2, .int .i64 X14_2, .int .i64 X15_2, .string X16_2, .string X17_2, .string X18_2, .slice Ao124 X19_2.length co124]) ?_ 1 _ rfl; refine bu ?_; refine blk_put (cs := #[.int .i64 X11_2, .int .i64 X12_2, .int .i64 X13_2, .int .i64 X14_2, .int .i64 X15_2, .string X16_2, .string X17_2, .string X18_2, .slice Ao124 X19_2.length co124]) ?_ 0 _ rfl; refine bu ?_; exact BK284.out))⟩; have _ : Aside0 (w128.heap[gb286]? = some (.cells #[.int .i64 ((rd_T34 l2 x33_2).f0), .string ((rd_T34 l2 x33_2).f1), .int .i64 ((rd_T34 l2 x33_2).f2)] 34 (0, 0))) := ⟨(by rw [hw]; exact (bf BK286.out))⟩; have _ : Aside0 (w128.heap[gb294]? = some (.cells #[.int .i64 X0_2, .int .i64 X1_2, .int .i64 X2_2, .int .i64 X3_2, .int .i64 X4_2, .string X5_2, .string X6_2, .string X7_2, .slice Ao65 X8_2.length co65] 31 (0, 0))) := ⟨(by rw [hw]; exact (bf BK294.out))⟩; have _ : Aside0 (Below w.heap.size w w128) := ⟨(by rw [hw]; exact (beu HB.out))⟩; clear hw HO_280008 HO_285008 HO293 HO329 HO341 BK279 BK280 BK284 BK286 BK294 HB; rename_i HO_280008 HO_285008 HO293 HO329 HO341 BK279 BK280 BK284 BK286 BK294 HB))
                go_meet
                case rel => exact ⟨_, (t330), (t342), (t319), (t320), (t321), (t322), (t323), (t324), (t325), (t326), (t327), (t331), (t332), (t333), (t334), (t335), (t336), (t337), (t338), (t339), (.slice Ao118 t327.length co118), (.slice Ao127 t339.length co127), ap3, ap3, H', ⟨by have := HJ5.out; have := HK2.out; have := HJ37.out; first | omega | exact Nat.le_refl _⟩, ⟨ru HO293.out⟩, ⟨by (with_reducible repeat (first | apply Kd.V_alloc | apply Kd.V_drewN | apply Kd.V_drew)); exact HO329.out⟩, ⟨by (with_reducible repeat (first | apply Kd.V_alloc | apply Kd.V_drewN | apply Kd.V_drew)); exact HO341.out⟩, ⟨by (with_reducible repeat (first | apply Kd.V_alloc | apply Kd.V_drewN | apply Kd.V_drew)); exact HO_280008.out⟩, ⟨by refine bu ?_; exact BK279.out⟩, ⟨by refine bu ?_; exact BK280.out⟩, ⟨by refine bu ?_; exact BK284.out⟩, ⟨by refine bu ?_; exact BK286.out⟩, ⟨by refine bu ?_; exact BK294.out⟩, ⟨beu HB.out⟩⟩
              case rest =>
               clear HC57; (try clear c1); (try clear c2); (try clear p2); (try clear q2); (try clear hx2); (try clear c3); (try clear c4); (try clear c5); (try clear c6); (try clear c7); (try clear c8); (try clear c9); (try clear c10); (try clear c11); (try clear c12); (try clear c13); (try clear c14); (try clear c16); (try clear c19); (try clear c20); (try clear c21); (try clear c22); (try clear c23); (try clear c24); (try clear c27); (try clear c28); (try clear p28); (try clear q28); (try clear hx28); (try clear c31); (try clear c32); (try clear c35); (try clear c35b0); (try clear c36); (try clear c36b0); (try clear c37); (try clear c37b0); (try clear c40); (try clear c41); (try clear c42); (try clear c46); (try clear c47); (try clear c48); (try clear c49); (try clear c51); (try clear c52); (try clear c53); (try clear c55); (try clear c56); (try clear c60); (try clear c61); (try clear c62); (try clear c68); (try clear c69); (try clear c70); (try clear c71); (try clear c74); (try clear c75); (try clear c77); (try clear c77b0); (try clear c77b1); (try clear c80); (try clear c81); (try clear c82); (try clear c83); (try clear c85); (try clear c86); (try clear c87); (try clear c89); (try clear c90); (try clear c96); (try clear c107); (try clear c108); (try clear c109); (try clear c110); (try clear c112); (try clear c113); (try clear c114); (try clear c120); (try clear c121); (try clear hcz102_0); (try clear hcz102_1); (try clear hcz102_2); (try clear hcz102_3); (try clear hcz102_4); (try clear hcz102_5); (try clear hcz102_6); (try clear hcz102_7); (try clear hcz102_8); (try clear hcz111_0); (try clear hcz111_1); (try clear hcz111_2); (try clear hcz111_3); (try clear hcz111_4); (try clear hcz111_5); (try clear hcz111_6); (try clear hcz111_7); (try clear hcz111_8); (try clear hcz115_0); (try clear hcz115_1); (try clear hcz115_2); (try clear hcz117_0); (try clear hcz117_1); (try clear hcz117_2); (try clear hcz117_3); (try clear hcz117_4); (try clear hcz117_5); (try clear hcz117_6); (try clear hcz117_7); (try clear hcz117_8); (try clear hcz122_0); (try clear hcz122_1); (try clear hcz122_2); (try clear hcz122_3); (try clear hcz122_4); (try clear hcz122_5); (try clear hcz122_6); (try clear hcz122_7); (try clear hcz122_8); (try clear hcz123_0); (try clear hcz123_1); (try clear hcz123_2); (try clear hcz126_0); (try clear hcz126_1); (try clear hcz126_2); (try clear hcz126_3); (try clear hcz126_4); (try clear hcz126_5); (try clear hcz126_6); (try clear hcz126_7); (try clear hcz126_8); (try clear hcz15_0); (try clear hcz15_1); (try clear hcz15_2); (try clear hcz15_3); (try clear hcz15_4); (try clear hcz15_5); (try clear hcz15_6); (try clear hcz15_7); (try clear hcz15_8); (try clear hcz17_0); (try clear hcz17_1); (try clear hcz20_0); (try clear hcz20_1); (try clear hcz20_2); (try clear hcz20_3); (try clear hcz20_4); (try clear hcz20_5); (try clear hcz20_6); (try clear hcz20_7); (try clear hcz20_8); (try clear hcz22_0); (try clear hcz22_1); (try clear hcz25_0); (try clear hcz25_1); (try clear hcz25_2); (try clear hcz25_3); (try clear hcz25_4); (try clear hcz25_5); (try clear hcz25_6); (try clear hcz25_7); (try clear hcz25_8); (try clear hcz29_0); (try clear hcz29_1); (try clear hcz29_2); (try clear hcz29_3); (try clear hcz29_4); (try clear hcz29_5); (try clear hcz29_6); (try clear hcz29_7); (try clear hcz29_8); (try clear hcz33_0); (try clear hcz33_1); (try clear hcz33_2); (try clear hcz33_3); (try clear hcz33_4); (try clear hcz33_5); (try clear hcz33_6); (try clear hcz33_7); (try clear hcz33_8); (try clear hcz43_0); (try clear hcz43_1); (try clear hcz43_2); (try clear hcz50_0); (try clear hcz50_1); (try clear hcz50_2); (try clear hcz54_0); (try clear hcz54_1); (try clear hcz54_2); (try clear hcz63_0); (try clear hcz63_1); (try clear hcz63_2); (try clear hcz63_3); (try clear hcz63_4); (try clear hcz63_5); (try clear hcz63_6); (try clear hcz63_7); (try clear hcz63_8); (try clear hcz66_0); (try clear hcz66_1); (try clear hcz66_2); (try clear hcz66_3)
               (try clear hcz66_4); (try clear hcz66_5); (try clear hcz66_6); (try clear hcz66_7); (try clear hcz66_8); (try clear hcz72_0); (try clear hcz72_1); (try clear hcz72_2); (try clear hcz72_3); (try clear hcz72_4); (try clear hcz72_5); (try clear hcz72_6); (try clear hcz72_7); (try clear hcz72_8); (try clear hcz76_0); (try clear hcz76_1); (try clear hcz76_2); (try clear hcz84_0); (try clear hcz84_1); (try clear hcz84_2); (try clear hcz84_3); (try clear hcz84_4); (try clear hcz84_5); (try clear hcz84_6); (try clear hcz84_7); (try clear hcz84_8); (try clear hcz88_0); (try clear hcz88_1); (try clear hcz91_0); (try clear hcz91_1); (try clear hcz91_2); (try clear hcz93_0); (try clear hcz93_1); (try clear hcz93_2); (try clear hcz93_3); (try clear hcz93_4); (try clear hcz93_5); (try clear hcz93_6); (try clear hcz93_7); (try clear hcz93_8); (try clear hcz97_0); (try clear hcz97_1); (try clear hcz97_2); (try clear hcz97_3); (try clear hcz97_4); (try clear hcz97_5); (try clear hcz97_6); (try clear hcz97_7); (try clear hcz97_8); (try clear hcz98_0); (try clear hcz98_1); (try clear hcz99_0); (try clear hcz99_1); (try clear hcz99_2); (try clear hfz102_0); (try clear hfz102_1); (try clear hfz102_2); (try clear hfz102_3); (try clear hfz102_4); (try clear hfz102_5); (try clear hfz102_6); (try clear hfz102_7); (try clear hfz102_8); (try clear hfz111_0); (try clear hfz111_1); (try clear hfz111_2); (try clear hfz111_3); (try clear hfz111_4); (try clear hfz111_5); (try clear hfz111_6); (try clear hfz111_7); (try clear hfz111_8); (try clear hfz115_0); (try clear hfz115_1); (try clear hfz115_2); (try clear hfz117_0); (try clear hfz117_1); (try clear hfz117_2); (try clear hfz117_3); (try clear hfz117_4); (try clear hfz117_5); (try clear hfz117_6); (try clear hfz117_7); (try clear hfz117_8); (try clear hfz122_0); (try clear hfz122_1); (try clear hfz122_2); (try clear hfz122_3); (try clear hfz122_4); (try clear hfz122_5); (try clear hfz122_6); (try clear hfz122_7); (try clear hfz122_8); (try clear hfz123_0); (try clear hfz123_1); (try clear hfz123_2); (try clear hfz126_0); (try clear hfz126_1); (try clear hfz126_2); (try clear hfz126_3); (try clear hfz126_4); (try clear hfz126_5); (try clear hfz126_6); (try clear hfz126_7); (try clear hfz126_8); (try clear hfz15_0); (try clear hfz15_1); (try clear hfz15_2); (try clear hfz15_3); (try clear hfz15_4); (try clear hfz15_5); (try clear hfz15_6); (try clear hfz15_7); (try clear hfz15_8); (try clear hfz17_0); (try clear hfz17_1); (try clear hfz20_0); (try clear hfz20_1); (try clear hfz20_2); (try clear hfz20_3); (try clear hfz20_4); (try clear hfz20_5); (try clear hfz20_6); (try clear hfz20_7); (try clear hfz20_8); (try clear hfz22_0); (try clear hfz22_1); (try clear hfz25_0); (try clear hfz25_1); (try clear hfz25_2); (try clear hfz25_3); (try clear hfz25_4); (try clear hfz25_5); (try clear hfz25_6); (try clear hfz25_7); (try clear hfz25_8); (try clear hfz29_0); (try clear hfz29_1); (try clear hfz29_2); (try clear hfz29_3); (try clear hfz29_4); (try clear hfz29_5); (try clear hfz29_6); (try clear hfz29_7); (try clear hfz29_8); (try clear hfz33_0); (try clear hfz33_1); (try clear hfz33_2); (try clear hfz33_3); (try clear hfz33_4); (try clear hfz33_5); (try clear hfz33_6); (try clear hfz33_7); (try clear hfz33_8); (try clear hfz43_0); (try clear hfz43_1); (try clear hfz43_2); (try clear hfz50_0); (try clear hfz50_1); (try clear hfz50_2); (try clear hfz54_0); (try clear hfz54_1); (try clear hfz54_2); (try clear hfz63_0); (try clear hfz63_1); (try clear hfz63_2); (try clear hfz63_3); (try clear hfz63_4); (try clear hfz63_5); (try clear hfz63_6); (try clear hfz63_7); (try clear hfz63_8); (try clear hfz66_0); (try clear hfz66_1); (try clear hfz66_2); (try clear hfz66_3); (try clear hfz66_4); (try clear hfz66_5); (try clear hfz66_6); (try clear hfz66_7); (try clear hfz66_8); (try clear hfz72_0); (try clear hfz72_1); (try clear hfz72_2); (try clear hfz72_3); (try clear hfz72_4); (try clear hfz72_5); (try clear hfz72_6)
               (try clear hfz72_7); (try clear hfz72_8); (try clear hfz76_0); (try clear hfz76_1); (try clear hfz76_2); (try clear hfz84_0); (try clear hfz84_1); (try clear hfz84_2); (try clear hfz84_3); (try clear hfz84_4); (try clear hfz84_5); (try clear hfz84_6); (try clear hfz84_7); (try clear hfz84_8); (try clear hfz88_0); (try clear hfz88_1); (try clear hfz91_0); (try clear hfz91_1); (try clear hfz91_2); (try clear hfz93_0); (try clear hfz93_1); (try clear hfz93_2); (try clear hfz93_3); (try clear hfz93_4); (try clear hfz93_5); (try clear hfz93_6); (try clear hfz93_7); (try clear hfz93_8); (try clear hfz97_0); (try clear hfz97_1); (try clear hfz97_2); (try clear hfz97_3); (try clear hfz97_4); (try clear hfz97_5); (try clear hfz97_6); (try clear hfz97_7); (try clear hfz97_8); (try clear hfz98_0); (try clear hfz98_1); (try clear hfz99_0); (try clear hfz99_1); (try clear hfz99_2); (try clear hx285_0); (try clear hx285_1); (try clear hx285_2); (try clear p2); (try clear p28); (try clear p285); (try clear q2); (try clear q28); (try clear q285); (try clear HO_10); (try clear HO_280008); (try clear HO_285008); (try clear HO_295008); (try clear BK279); (try clear BK280); (try clear BK284); (try clear BK286); (try clear BK294); obtain ⟨kq, x12_56, x13_56, X0_56, X1_56, X2_56, X3_56, X4_56, X5_56, X6_56, X7_56, X8_56, X11_56, X12_56, X13_56, X14_56, X15_56, X16_56, X17_56, X18_56, X19_56, u280008, u285008, rfl, rfl, HA, HJ56, HO_10, HO_280008, HO_285008, HO_295008, BK279, BK280, BK284, BK286, BK294, HB⟩ := hcut
               cases kq with
               | zero => exact absurd HA.out (by simp [packhorselaw11_BatchRuns.j3])
               | succ kj56 =>
                have H := HA.out; clear HA; simp only [packhorselaw11_BatchRuns.j3] at H; have HC129 := am H; clear H
                go_upto_region 19 with (fail)
                go_cut [128] (fun v128 wc => ∃ (kq : Nat) (x128_128 : Bool), v128 = .bool x128_128 ∧ Aside0 (packhorselaw11_BatchRuns.j4 kq y291 l2 (l2.length : Int) x33_2 x128_128 X0_56 X1_56 X2_56 X3_56 X4_56 X5_56 X6_56 X7_56 X8_56 a1_0 a1_1 X11_56 X12_56 X13_56 X14_56 X15_56 X16_56 X17_56 X18_56 X19_56 X0_2 X1_2 X2_2 X3_2 X4_2 X5_2 X6_2 X7_2 X8_2 = some r) ∧ Aside0 (kq ≤ kj56) ∧ Aside0 (Kd.R Kd.string 9 wc w.heap.size (fun k_ => (w.heap.size ≤ k_)) v292 y291) ∧ Aside0 (Kd.V Kd.string 9 wc w.heap.size (fun k_ => (P0_8_ k_ ∨ w.heap.size ≤ k_) ∧ some k_ ≠ (v292 : Value).ownBlock ∧ k_ ≠ gb279 ∧ k_ ≠ gb280 ∧ k_ ≠ gb284 ∧ k_ ≠ gb286 ∧ k_ ≠ gb294) u280008 X8_56) ∧ Aside0 (Kd.V Kd.string 9 wc w.heap.size (fun k_ => (P0_8_ k_ ∨ w.heap.size ≤ k_) ∧ some k_ ≠ (v292 : Value).ownBlock ∧ k_ ≠ gb279 ∧ k_ ≠ gb280 ∧ k_ ≠ gb284 ∧ k_ ≠ gb286 ∧ k_ ≠ gb294) u285008 X19_56) ∧ Aside0 (Kd.V Kd.string 9 wc w.heap.size (fun k_ => (P0_8_ k_ ∨ w.heap.size ≤ k_) ∧ some k_ ≠ (v292 : Value).ownBlock ∧ k_ ≠ gb279 ∧ k_ ≠ gb280 ∧ k_ ≠ gb284 ∧ k_ ≠ gb286 ∧ k_ ≠ gb294) (.slice Ao65 X8_2.length co65) X8_2) ∧ Aside0 (wc.heap[gb279]? = some (.cells #[.int .i64 X0_56, .int .i64 X1_56, .int .i64 X2_56, .int .i64 X3_56, .int .i64 X4_56, .string X5_56, .string X6_56, .string X7_56, u280008] 31 (0, 0))) ∧ Aside0 (wc.heap[gb280]? = some (.cells #[.int .i64 a1_0, .int .i64 a1_1] 23 (0, 0))) ∧ Aside0 (wc.heap[gb284]? = some (.cells #[.int .i64 X11_56, .int .i64 X12_56, .int .i64 X13_56, .int .i64 X14_56, .int .i64 X15_56, .string X16_56, .string X17_56, .string X18_56, u285008] 31 (0, 0))) ∧ Aside0 (wc.heap[gb286]? = some (.cells #[.int .i64 ((rd_T34 l2 x33_2).f0), .string ((rd_T34 l2 x33_2).f1), .int .i64 ((rd_T34 l2 x33_2).f2)] 34 (0, 0))) ∧ Aside0 (wc.heap[gb294]? = some (.cells #[.int .i64 X0_2, .int .i64 X1_2, .int .i64 X2_2, .int .i64 X3_2, .int .i64 X4_2, .string X5_2, .string X6_2, .string X7_2, (.slice Ao65 X8_2.length co65)] 31 (0, 0))) ∧ Aside0 (Below w.heap.size w wc))
                case first =>
                 have H := HC129.out; clear HC129
                 by_cases c130 : x12_56 = x13_56
                 ·rw [if_pos c130] at H
                  have c130b0 : (x12_56 == x13_56) = true := beq_iff_eq.mpr c130; have c130b1 : (x12_56 != x13_56) = false := bne_eq_false_iff_eq.mpr c130; clear c130
                  (first | rw [c130b0] | (simp only [i64_w, i32_w]; rw [c130b0]) | skip)
                  replace H := obm H; obtain ⟨t343, A1310, H⟩ := H; replace H : (if t343 = true then (if (X8_2.length : Int) = (y291.length : Int) then ((batch_Full.f X0_56 X1_56 X2_56 X3_56 X4_56 X5_56 X6_56 X7_56 X8_56 a1_0 a1_1).bind fun t344 => (if (X19_56.length : Int) ≥ a1_0 then (packhorselaw11_BatchRuns.j4 kj56 y291 l2 (l2.length : Int) x33_2 (t344 != true) X0_56 X1_56 X2_56 X3_56 X4_56 X5_56 X6_56 X7_56 X8_56 a1_0 a1_1 X11_56 X12_56 X13_56 X14_56 X15_56 X16_56 X17_56 X18_56 X19_56 X0_2 X1_2 X2_2 X3_2 X4_2 X5_2 X6_2 X7_2 X8_2) else (packhorselaw11_BatchRuns.j4 kj56 y291 l2 (l2.length : Int) x33_2 (t344 != (decide (X12_56 ≥ a1_1))) X0_56 X1_56 X2_56 X3_56 X4_56 X5_56 X6_56 X7_56 X8_56 a1_0 a1_1 X11_56 X12_56 X13_56 X14_56 X15_56 X16_56 X17_56 X18_56 X19_56 X0_2 X1_2 X2_2 X3_2 X4_2 X5_2 X6_2 X7_2 X8_2))) else (packhorselaw11_BatchRuns.j4 kj56 y291 l2 (l2.length : Int) x33_2 true X0_56 X1_56 X2_56 X3_56 X4_56 X5_56 X6_56 X7_56 X8_56 a1_0 a1_1 X11_56 X12_56 X13_56 X14_56 X15_56 X16_56 X17_56 X18_56 X19_56 X0_2 X1_2 X2_2 X3_2 X4_2 X5_2 X6_2 X7_2 X8_2)) else (packhorselaw11_BatchRuns.j4 kj56 y291 l2 (l2.length : Int) x33_2 true X0_56 X1_56 X2_56 X3_56 X4_56 X5_56 X6_56 X7_56 X8_56 a1_0 a1_1 X11_56 X12_56 X13_56 X14_56 X15_56 X16_56 X17_56 X18_56 X19_56 X0_2 X1_2 X2_2 X3_2 X4_2 X5_2 X6_2 X7_2 X8_2)) = some r := H; have A131 := am A1310; clear A1310
                  by_cases c132 : t343 = true
                  ·subst c132
                   have H1 : (if (X8_2.length : Int) = (y291.length : Int) then ((batch_Full.f X0_56 X1_56 X2_56 X3_56 X4_56 X5_56 X6_56 X7_56 X8_56 a1_0 a1_1).bind fun t344 => (if (X19_56.length : Int) ≥ a1_0 then (packhorselaw11_BatchRuns.j4 kj56 y291 l2 (l2.length : Int) x33_2 (t344 != true) X0_56 X1_56 X2_56 X3_56 X4_56 X5_56 X6_56 X7_56 X8_56 a1_0 a1_1 X11_56 X12_56 X13_56 X14_56 X15_56 X16_56 X17_56 X18_56 X19_56 X0_2 X1_2 X2_2 X3_2 X4_2 X5_2 X6_2 X7_2 X8_2) else (packhorselaw11_BatchRuns.j4 kj56 y291 l2 (l2.length : Int) x33_2 (t344 != (decide (X12_56 ≥ a1_1))) X0_56 X1_56 X2_56 X3_56 X4_56 X5_56 X6_56 X7_56 X8_56 a1_0 a1_1 X11_56 X12_56 X13_56 X14_56 X15_56 X16_56 X17_56 X18_56 X19_56 X0_2 X1_2 X2_2 X3_2 X4_2 X5_2 X6_2 X7_2 X8_2))) else (packhorselaw11_BatchRuns.j4 kj56 y291 l2 (l2.length : Int) x33_2 true X0_56 X1_56 X2_56 X3_56 X4_56 X5_56 X6_56 X7_56 X8_56 a1_0 a1_1 X11_56 X12_56 X13_56 X14_56 X15_56 X16_56 X17_56 X18_56 X19_56 X0_2 X1_2 X2_2 X3_2 X4_2 X5_2 X6_2 X7_2 X8_2)) = some r := by rw [if_pos rfl] at H; exact H
                   clear H; have H := H1; clear H1
                   by_cases c133 : (X8_2.length : Int) = (y291.length : Int)
                   ·rw [if_pos c133] at H
                    have c133b0 : ((X8_2.length : Int) == (y291.length : Int)) = true := beq_iff_eq.mpr c133; have c133b1 : ((X8_2.length : Int) != (y291.length : Int)) = false := bne_eq_false_iff_eq.mpr c133
                    have c133b2 : (X8_2.length == y291.length) = true := by first | simpa using c133 | (simp at c133 ⊢; omega)
                    clear c133; replace H := obm H; obtain ⟨t344, A1340, H⟩ := H; replace H : (if (X19_56.length : Int) ≥ a1_0 then (packhorselaw11_BatchRuns.j4 kj56 y291 l2 (l2.length : Int) x33_2 (t344 != true) X0_56 X1_56 X2_56 X3_56 X4_56 X5_56 X6_56 X7_56 X8_56 a1_0 a1_1 X11_56 X12_56 X13_56 X14_56 X15_56 X16_56 X17_56 X18_56 X19_56 X0_2 X1_2 X2_2 X3_2 X4_2 X5_2 X6_2 X7_2 X8_2) else (packhorselaw11_BatchRuns.j4 kj56 y291 l2 (l2.length : Int) x33_2 (t344 != (decide (X12_56 ≥ a1_1))) X0_56 X1_56 X2_56 X3_56 X4_56 X5_56 X6_56 X7_56 X8_56 a1_0 a1_1 X11_56 X12_56 X13_56 X14_56 X15_56 X16_56 X17_56 X18_56 X19_56 X0_2 X1_2 X2_2 X3_2 X4_2 X5_2 X6_2 X7_2 X8_2)) = some r := H; have A134 := am A1340; clear A1340
                    by_cases c135 : (X19_56.length : Int) ≥ a1_0
                    ·rw [if_pos c135] at H
                     have c135b0 : decide (a1_0 ≤ (X19_56.length : Int)) = true := decide_eq_true c135; clear c135; have H' := am H; clear H
                     try go_wp2
                     (try (rw [drewN_self wc]; generalize hq_ : World.drewN wc _ = wc; have _ := am (show Kd.R _ _ wc _ _ _ _ from by rw [← hq_]; exact Kd.R_drewN HO_10.out _); have _ := am (show Kd.V _ _ wc _ _ _ _ from by rw [← hq_]; exact Kd.V_drewN HO_280008.out _); have _ := am (show Kd.V _ _ wc _ _ _ _ from by rw [← hq_]; exact Kd.V_drewN HO_285008.out _); have _ := am (show Kd.V _ _ wc _ _ _ _ from by rw [← hq_]; exact Kd.V_drewN HO_295008.out _); have _ := am (blk_at hq_ BK279.out); have _ := am (blk_at hq_ BK280.out); have _ := am (blk_at hq_ BK284.out); have _ := am (blk_at hq_ BK286.out); have _ := am (blk_at hq_ BK294.out); have _ := am (below_at hq_ HB.out); clear hq_ HO_10 HO_280008 HO_285008 HO_295008 BK279 BK280 BK284 BK286 BK294 HB; rename_i HO_10 HO_280008 HO_285008 HO_295008 BK279 BK280 BK284 BK286 BK294 HB))
                     have n0_ := am (Kd.R_drew HO_10.out); have n1_ := am (Kd.V_drew HO_280008.out); have n2_ := am (Kd.V_drew HO_285008.out); have n3_ := am (Kd.V_drew HO_295008.out); have n4_ := am (blk_drew BK279.out); have n5_ := am (blk_drew BK280.out); have n6_ := am (blk_drew BK284.out); have n7_ := am (blk_drew BK286.out); have n8_ := am (blk_drew BK294.out); have n9_ := am (below_drew1 HB.out); clear HO_10 HO_280008 HO_285008 HO_295008 BK279 BK280 BK284 BK286 BK294 HB; have HO_10 := n0_; have HO_280008 := n1_; have HO_285008 := n2_; have HO_295008 := n3_; have BK279 := n4_; have BK280 := n5_; have BK284 := n6_; have BK286 := n7_; have BK294 := n8_; have HB := n9_; clear n0_ n1_ n2_ n3_ n4_ n5_ n6_ n7_ n8_ n9_; obtain ⟨Ao137, co137, eo137⟩ := Kd.V_slice HO_280008.out
                     (first | subst eo137 | (injection eo137 with f1_ f2_ f3_; have f4_ := f1_.symm; have f5_ := f3_.symm; clear f1_ f2_ f3_; subst f4_; subst f5_))
                     obtain ⟨Ao138, co138, eo138⟩ := Kd.V_slice HO_285008.out
                     (first | subst eo138 | (injection eo138 with f1_ f2_ f3_; have f4_ := f1_.symm; have f5_ := f3_.symm; clear f1_ f2_ f3_; subst f4_; subst f5_))
                     refine start_ (n := 36) (S := fun w' => w'.cell? ⟨gb279, 0, none⟩ = some (.int .i64 X0_56) ∧ w'.cell? ⟨gb279, 1, none⟩ = some (.int .i64 X1_56) ∧ w'.cell? ⟨gb279, 2, none⟩ = some (.int .i64 X2_56) ∧ w'.cell? ⟨gb279, 3, none⟩ = some (.int .i64 X3_56) ∧ w'.cell? ⟨gb279, 4, none⟩ = some (.int .i64 X4_56) ∧ w'.cell? ⟨gb279, 5, none⟩ = some (.string X5_56) ∧ w'.cell? ⟨gb279, 6, none⟩ = some (.string X6_56) ∧ w'.cell? ⟨gb279, 7, none⟩ = some (.string X7_56) ∧ w'.cell? ⟨gb279, 8, none⟩ = some (.slice Ao137 X8_56.length co137) ∧ w'.cell? ⟨gb284, 0, none⟩ = some (.int .i64 X11_56) ∧ w'.cell? ⟨gb284, 1, none⟩ = some (.int .i64 X12_56) ∧ w'.cell? ⟨gb284, 2, none⟩ = some (.int .i64 X13_56) ∧ w'.cell? ⟨gb284, 3, none⟩ = some (.int .i64 X14_56) ∧ w'.cell? ⟨gb284, 4, none⟩ = some (.int .i64 X15_56) ∧ w'.cell? ⟨gb284, 5, none⟩ = some (.string X16_56) ∧ w'.cell? ⟨gb284, 6, none⟩ = some (.string X17_56) ∧ w'.cell? ⟨gb284, 7, none⟩ = some (.string X18_56) ∧ w'.cell? ⟨gb284, 8, none⟩ = some (.slice Ao138 X19_56.length co138) ∧ w'.cell? ⟨gb294, 0, none⟩ = some (.int .i64 X0_2) ∧ w'.cell? ⟨gb294, 1, none⟩ = some (.int .i64 X1_2) ∧ w'.cell? ⟨gb294, 2, none⟩ = some (.int .i64 X2_2) ∧ w'.cell? ⟨gb294, 3, none⟩ = some (.int .i64 X3_2) ∧ w'.cell? ⟨gb294, 4, none⟩ = some (.int .i64 X4_2) ∧ w'.cell? ⟨gb294, 5, none⟩ = some (.string X5_2) ∧ w'.cell? ⟨gb294, 6, none⟩ = some (.string X6_2) ∧ w'.cell? ⟨gb294, 7, none⟩ = some (.string X7_2) ∧ w'.cell? ⟨gb294, 8, none⟩ = some (.slice Ao65 X8_2.length co65) ∧ w'.cell? ⟨gb280, 0, none⟩ = some (.int .i64 a1_0) ∧ w'.cell? ⟨gb280, 1, none⟩ = some (.int .i64 a1_1)) (ds := []) #[false, false, false, false, false, false, false, false, false, false, false, false, false, false, false, false, false, false, false, false, false, false, false, false, false, false, false, false, false, false, false, false, false, false, false, false] (by kernel_rfl) rfl rfl ⟨(blk_cell BK279.out 0).trans rfl, (blk_cell BK279.out 1).trans rfl, (blk_cell BK279.out 2).trans rfl, (blk_cell BK279.out 3).trans rfl, (blk_cell BK279.out 4).trans rfl, (blk_cell BK279.out 5).trans rfl, (blk_cell BK279.out 6).trans rfl, (blk_cell BK279.out 7).trans rfl, (blk_cell BK279.out 8).trans rfl, (blk_cell BK284.out 0).trans rfl, (blk_cell BK284.out 1).trans rfl, (blk_cell BK284.out 2).trans rfl, (blk_cell BK284.out 3).trans rfl, (blk_cell BK284.out 4).trans rfl, (blk_cell BK284.out 5).trans rfl, (blk_cell BK284.out 6).trans rfl, (blk_cell BK284.out 7).trans rfl, (blk_cell BK284.out 8).trans rfl, (blk_cell BK294.out 0).trans rfl, (blk_cell BK294.out 1).trans rfl, (blk_cell BK294.out 2).trans rfl, (blk_cell BK294.out 3).trans rfl, (blk_cell BK294.out 4).trans rfl, (blk_cell BK294.out 5).trans rfl, (blk_cell BK294.out 6).trans rfl, (blk_cell BK294.out 7).trans rfl, (blk_cell BK294.out 8).trans rfl, (blk_cell BK280.out 0).trans rfl, (blk_cell BK280.out 1).trans rfl⟩ (fun hHeld => ?_); refine with_tabW packhorselaw11_BatchRuns.tab19 packhorselaw11_BatchRuns.bits19 (fun HT_ HW_ => ?_)
                     generalize wc.drew = w136 at HO_10 HO_280008 HO_285008 HO_295008 BK279 BK280 BK284 BK286 BK294 HB hHeld ⊢; refine pure_ (i := 0) (N := some 93) (v := ?_) (a' := ?_) (bs 36 1) rfl rfl (ak HT_.out) (fun _ _ _ h => h) (Or.inl ⟨by rfl, ?_⟩) ?_ ?_; rotate_left
                     ·intro w'
                      go_simp
                      with_reducible rfl
                     rotate_left
                     ·simp only [Act.put, sA, sB, sC, i64_w, i32_w]
                      rfl
                     refine pure_ (i := 1) (N := some 94) (v := ?_) (a' := ?_) (bs 36 3) rfl rfl (ak HT_.out) (fun _ _ _ h => h) (Or.inl ⟨by rfl, ?_⟩) ?_ ?_; rotate_left
                     ·intro w'
                      go_simp
                      with_reducible rfl
                     rotate_left
                     ·simp only [Act.put, sA, sB, sC, i64_w, i32_w]
                      rfl
                     refine pure_ (i := 2) (N := some 95) (v := ?_) (a' := ?_) (bs 36 7) rfl rfl (ak HT_.out) (fun _ _ _ h => h) (Or.inl ⟨by rfl, ?_⟩) ?_ ?_; rotate_left
                     ·intro w'
                      go_simp
                      with_reducible rfl
                     rotate_left
                     ·simp only [Act.put, sA, sB, sC, i64_w, i32_w]
                      rfl
                     refine pure_ (i := 3) (N := some 96) (v := ?_) (a' := ?_) (bs 36 15) rfl rfl (ak HT_.out) (fun _ _ _ h => h) (Or.inl ⟨by rfl, ?_⟩) ?_ ?_; rotate_left
                     ·intro w'
                      go_simp
                      with_reducible rfl
                     rotate_left
                     ·simp only [Act.put, sA, sB, sC, i64_w, i32_w]
                      rfl
                     refine take_ (i := 4) (N := some 97) (v := ?_) (a' := ?_) (bs 36 31) rfl rfl (take_ofW HT_.out HW_.out (by kernel_rfl)) (fun _ _ _ h => h) (Or.inl ⟨by rfl, ?_⟩) hHeld ?_ ?_; rotate_left
                     ·rintro w' ⟨s0, s1, s2, s3, s4, s5, s6, s7, s8, s9, s10, s11, s12, s13, s14, s15, s16, s17, s18, s19, s20, s21, s22, s23, s24, s25, s26, s27, s28⟩
                      go_simp
                      with_reducible rfl
                     rotate_left
                     ·simp only [Act.put, sA, sB, sC, i64_w, i32_w]
                      rfl
                     refine take_ (i := 5) (N := some 98) (v := ?_) (a' := ?_) (bs 36 63) rfl rfl (take_ofW HT_.out HW_.out (by kernel_rfl)) (fun _ _ _ h => h) (Or.inl ⟨by rfl, ?_⟩) hHeld ?_ ?_; rotate_left
                     ·rintro w' ⟨s0, s1, s2, s3, s4, s5, s6, s7, s8, s9, s10, s11, s12, s13, s14, s15, s16, s17, s18, s19, s20, s21, s22, s23, s24, s25, s26, s27, s28⟩
                      go_simp
                      with_reducible rfl
                     rotate_left
                     ·simp only [Act.put, sA, sB, sC, i64_w, i32_w]
                      rfl
                     refine one_ (i := 6) (N := some 99) (bs 36 127) rfl rfl (one_of HT_.out (by kernel_rfl)) (by decide) (fun K hK => ?_); refine goes_ Tryd.func19 (by kernel_rfl) rfl #[.agg #[.int .i64 X0_56, .int .i64 X1_56, .int .i64 X2_56, .int .i64 X3_56, .int .i64 X4_56, .string X5_56, .string X6_56, .string X7_56, .slice Ao137 X8_56.length co137], .agg #[.int .i64 X11_56, .int .i64 X12_56, .int .i64 X13_56, .int .i64 X14_56, .int .i64 X15_56, .string X16_56, .string X17_56, .string X18_56, .slice Ao138 X19_56.length co138]] (by rfl) rfl rfl ap1 ?_; with_reducible refine (packhorseref11_Same.calls kj56 X0_56 X1_56 X2_56 X3_56 X4_56 X5_56 X6_56 X7_56 _ _ X8_56 X11_56 X12_56 X13_56 X14_56 X15_56 X16_56 X17_56 X18_56 _ _ X19_56 true _ ?side1 ?side2 ?side3 ?side4 A131.out).mono ?_
                     (case side1 => repeat (first | exact (Kd.V_reads' HO_280008.out).2.2 | (with_reducible refine Kd.C_alloc ?_ _) | (with_reducible refine Kd.C_drewN ?_ _) | (with_reducible refine Kd.C_drew ?_)))
                     (case side2 => exact (Kd.V_reads' HO_280008.out).2.1)
                     (case side3 => repeat (first | exact (Kd.V_reads' HO_285008.out).2.2 | (with_reducible refine Kd.C_alloc ?_ _) | (with_reducible refine Kd.C_drewN ?_ _) | (with_reducible refine Kd.C_drew ?_)))
                     (case side4 => exact (Kd.V_reads' HO_285008.out).2.1)
                     rintro e w139 ⟨rfl, hb⟩; refine ⟨_, rfl, ?_⟩; have n0_ := am (Kd.R_below (ru HO_10.out) hb); have n1_ := am (Kd.V_below (by (with_reducible repeat (first | apply Kd.V_alloc | apply Kd.V_drewN | apply Kd.V_drew)); exact HO_280008.out) hb); have n2_ := am (Kd.V_below (by (with_reducible repeat (first | apply Kd.V_alloc | apply Kd.V_drewN | apply Kd.V_drew)); exact HO_285008.out) hb); have n3_ := am (Kd.V_below (by (with_reducible repeat (first | apply Kd.V_alloc | apply Kd.V_drewN | apply Kd.V_drew)); exact HO_295008.out) hb); have n4_ := am (blk_below (bu BK279.out) hb); have n5_ := am (blk_below (bu BK280.out) hb); have n6_ := am (blk_below (bu BK284.out) hb); have n7_ := am (blk_below (bu BK286.out) hb); have n8_ := am (blk_below (bu BK294.out) hb); have n9_ := am (below_step (beu HB.out) hb); clear HO_10 HO_280008 HO_285008 HO_295008 BK279 BK280 BK284 BK286 BK294 HB; have HO_10 := n0_; have HO_280008 := n1_; have HO_285008 := n2_; have HO_295008 := n3_; have BK279 := n4_; have BK280 := n5_; have BK284 := n6_; have BK286 := n7_; have BK294 := n8_; have HB := n9_; clear n0_ n1_ n2_ n3_ n4_ n5_ n6_ n7_ n8_ n9_
                     (try clear hb)
                     (try clear hb2)
                     (try clear hk)
                     (try clear hi)
                     obtain ⟨Ao140, co140, eo140⟩ := Kd.R_slice HO_10.out
                     (first | subst eo140 | (injection eo140 with f1_ f2_ f3_; have f4_ := f1_.symm; have f5_ := f3_.symm; clear f1_ f2_ f3_; subst f4_; subst f5_))
                     refine hK.out _ _ ⟨(blk_cell BK279.out 0).trans rfl, (blk_cell BK279.out 1).trans rfl, (blk_cell BK279.out 2).trans rfl, (blk_cell BK279.out 3).trans rfl, (blk_cell BK279.out 4).trans rfl, (blk_cell BK279.out 5).trans rfl, (blk_cell BK279.out 6).trans rfl, (blk_cell BK279.out 7).trans rfl, (blk_cell BK279.out 8).trans rfl, (blk_cell BK284.out 0).trans rfl, (blk_cell BK284.out 1).trans rfl, (blk_cell BK284.out 2).trans rfl, (blk_cell BK284.out 3).trans rfl, (blk_cell BK284.out 4).trans rfl, (blk_cell BK284.out 5).trans rfl, (blk_cell BK284.out 6).trans rfl, (blk_cell BK284.out 7).trans rfl, (blk_cell BK284.out 8).trans rfl, (blk_cell BK294.out 0).trans rfl, (blk_cell BK294.out 1).trans rfl, (blk_cell BK294.out 2).trans rfl, (blk_cell BK294.out 3).trans rfl, (blk_cell BK294.out 4).trans rfl, (blk_cell BK294.out 5).trans rfl, (blk_cell BK294.out 6).trans rfl, (blk_cell BK294.out 7).trans rfl, (blk_cell BK294.out 8).trans rfl, (blk_cell BK280.out 0).trans rfl, (blk_cell BK280.out 1).trans rfl⟩ (fun hHeld => ?_); clear hK K; refine norm_ (a' := ?_) ?_ ?_; rotate_left
                     ·show Act.put _ (some 99) _ = _
                      simp only [Act.put, sA, sB, sC, i64_w, i32_w]
                      rfl
                     refine pure_ (i := 7) (N := some 100) (v := ?_) (a' := ?_) (bs 36 255) rfl rfl (ak HT_.out) (fun _ _ _ h => h) (Or.inl ⟨by rfl, ?_⟩) ?_ ?_; rotate_left
                     ·intro w'
                      go_simp
                      with_reducible rfl
                     rotate_left
                     ·simp only [Act.put, sA, sB, sC, i64_w, i32_w]
                      rfl
                     refine pure_ (i := 8) (N := some 101) (v := ?_) (a' := ?_) (bs 36 511) rfl rfl (ak HT_.out) (fun _ _ _ h => h) (Or.inl ⟨by rfl, ?_⟩) ?_ ?_; rotate_left
                     ·intro w'
                      go_simp
                      with_reducible rfl
                     rotate_left
                     ·simp only [Act.put, sA, sB, sC, i64_w, i32_w]
                      rfl
                     refine pure_ (i := 9) (N := some 102) (v := ?_) (a' := ?_) (bs 36 1023) rfl rfl (ak HT_.out) (fun _ _ _ h => h) (Or.inl ⟨by rfl, ?_⟩) ?_ ?_; rotate_left
                     ·intro w'
                      go_simp
                      with_reducible rfl
                     rotate_left
                     ·simp only [Act.put, sA, sB, sC, i64_w, i32_w]
                      rfl
                     refine pure_ (i := 10) (N := some 103) (v := ?_) (a' := ?_) (bs 36 2047) rfl rfl (ak HT_.out) (fun _ _ _ h => h) (Or.inl ⟨by rfl, ?_⟩) ?_ ?_; rotate_left
                     ·intro w'
                      go_simp
                      with_reducible rfl
                     rotate_left
                     ·simp only [Act.put, sA, sB, sC, i64_w, i32_w]
                      rfl
                     refine pure_ (i := 13) (N := some 106) (v := ?_) (a' := ?_) (bs 36 10239) rfl rfl (ak HT_.out) (fun _ _ _ h => h) (Or.inl ⟨by rfl, ?_⟩) ?_ ?_; rotate_left
                     ·intro w'
                      go_simp
                      with_reducible rfl
                     rotate_left
                     ·simp only [Act.put, sA, sB, sC, i64_w, i32_w]
                      rfl
                     refine pure_ (i := 14) (N := some 107) (v := ?_) (a' := ?_) (bs 36 26623) rfl rfl (ak HT_.out) (fun _ _ _ h => h) (Or.inl ⟨by rfl, ?_⟩) ?_ ?_; rotate_left
                     ·intro w'
                      go_simp
                      with_reducible rfl
                     rotate_left
                     ·simp only [Act.put, sA, sB, sC, i64_w, i32_w]
                      rfl
                     refine take_ (i := 11) (N := some 104) (v := ?_) (a' := ?_) (bs 36 28671) rfl rfl (take_ofW HT_.out HW_.out (by kernel_rfl)) (fun _ _ _ h => h) (Or.inl ⟨by rfl, ?_⟩) hHeld ?_ ?_; rotate_left
                     ·rintro w' ⟨s0, s1, s2, s3, s4, s5, s6, s7, s8, s9, s10, s11, s12, s13, s14, s15, s16, s17, s18, s19, s20, s21, s22, s23, s24, s25, s26, s27, s28⟩
                      go_simp
                      with_reducible rfl
                     rotate_left
                     ·simp only [Act.put, sA, sB, sC, i64_w, i32_w]
                      rfl
                     refine pure_ (i := 12) (N := some 105) (v := ?_) (a' := ?_) (bs 36 32767) rfl rfl (ak HT_.out) (fun _ _ _ h => h) (Or.inl ⟨by rfl, ?_⟩) ?_ ?_; rotate_left
                     ·intro w'
                      go_simp
                      with_reducible rfl
                     rotate_left
                     ·simp only [Act.put, sA, sB, sC, i64_w, i32_w]
                      rfl
                     refine pure_ (i := 15) (N := some 108) (v := ?_) (a' := ?_) (bs 36 65535) rfl rfl (ak HT_.out) (fun _ _ _ h => h) (Or.inl ⟨by rfl, ?_⟩) ?_ ?_; rotate_left
                     ·intro w'
                      go_simp
                      with_reducible rfl
                     rotate_left
                     ·simp only [Act.put, sA, sB, sC, i64_w, i32_w]
                      rfl
                     refine pure_ (i := 16) (N := some 109) (v := ?_) (a' := ?_) (bs 36 131071) rfl rfl (ak HT_.out) (fun _ _ _ h => h) (Or.inl ⟨by rfl, ?_⟩) ?_ ?_; rotate_left
                     ·intro w'
                      go_simp
                      with_reducible rfl
                     rotate_left
                     ·simp only [Act.put, sA, sB, sC, i64_w, i32_w]
                      rfl
                     refine pure_ (i := 17) (N := some 110) (v := ?_) (a' := ?_) (bs 36 262143) rfl rfl (ak HT_.out) (fun _ _ _ h => h) (Or.inl ⟨by rfl, ?_⟩) ?_ ?_; rotate_left
                     ·intro w'
                      go_simp
                      with_reducible rfl
                     rotate_left
                     ·simp only [Act.put, sA, sB, sC, i64_w, i32_w]
                      rfl
                     refine pure_ (i := 21) (N := some 114) (v := ?_) (a' := ?_) (bs 36 2359295) rfl rfl (ak HT_.out) (fun _ _ _ h => h) (Or.inl ⟨by rfl, ?_⟩) ?_ ?_; rotate_left
                     ·intro w'
                      go_simp
                      with_reducible rfl
                     rotate_left
                     ·simp only [Act.put, sA, sB, sC, i64_w, i32_w]
                      rfl
                     refine pure_ (i := 24) (N := some 117) (v := ?_) (a' := ?_) (bs 36 19136511) rfl rfl (ak HT_.out) (fun _ _ _ h => h) (Or.inl ⟨by rfl, ?_⟩) ?_ ?_; rotate_left
                     ·intro w'
                      go_simp
                      with_reducible rfl
                     rotate_left
                     ·simp only [Act.put, sA, sB, sC, i64_w, i32_w]
                      rfl
                     refine take_ (i := 18) (N := some 111) (v := ?_) (a' := ?_) (bs 36 19398655) rfl rfl (take_ofW HT_.out HW_.out (by kernel_rfl)) (fun _ _ _ h => h) (Or.inl ⟨by rfl, ?_⟩) hHeld ?_ ?_; rotate_left
                     ·rintro w' ⟨s0, s1, s2, s3, s4, s5, s6, s7, s8, s9, s10, s11, s12, s13, s14, s15, s16, s17, s18, s19, s20, s21, s22, s23, s24, s25, s26, s27, s28⟩
                      go_simp
                      with_reducible rfl
                     rotate_left
                     ·simp only [Act.put, sA, sB, sC, i64_w, i32_w]
                      rfl
                     refine take_ (i := 19) (N := some 112) (v := ?_) (a' := ?_) (bs 36 19922943) rfl rfl (take_ofW HT_.out HW_.out (by kernel_rfl)) (fun _ _ _ h => h) (Or.inl ⟨by rfl, ?_⟩) hHeld ?_ ?_; rotate_left
                     ·rintro w' ⟨s0, s1, s2, s3, s4, s5, s6, s7, s8, s9, s10, s11, s12, s13, s14, s15, s16, s17, s18, s19, s20, s21, s22, s23, s24, s25, s26, s27, s28⟩
                      go_simp
                      with_reducible rfl
                     rotate_left
                     ·simp only [Act.put, sA, sB, sC, i64_w, i32_w]
                      rfl
                     refine take_ (i := 22) (N := some 115) (v := ?_) (a' := ?_) (bs 36 24117247) rfl rfl (take_ofW HT_.out HW_.out (by kernel_rfl)) (fun _ _ _ h => h) (Or.inl ⟨by rfl, ?_⟩) hHeld ?_ ?_; rotate_left
                     ·rintro w' ⟨s0, s1, s2, s3, s4, s5, s6, s7, s8, s9, s10, s11, s12, s13, s14, s15, s16, s17, s18, s19, s20, s21, s22, s23, s24, s25, s26, s27, s28⟩
                      go_simp
                      with_reducible rfl
                     rotate_left
                     ·simp only [Act.put, sA, sB, sC, i64_w, i32_w]
                      rfl
                     refine pure_ (i := 23) (N := some 116) (v := ?_) (a' := ?_) (bs 36 32505855) rfl rfl (ak HT_.out) (fun _ _ _ h => h) (Or.inl ⟨by rfl, ?_⟩) ?_ ?_; rotate_left
                     ·intro w'
                      go_simp
                      with_reducible rfl
                     rotate_left
                     ·simp only [Act.put, sA, sB, sC, i64_w, i32_w]
                      rfl
                     refine take_ (i := 25) (N := some 118) (v := ?_) (a' := ?_) (bs 36 66060287) rfl rfl (take_ofW HT_.out HW_.out (by kernel_rfl)) (fun _ _ _ h => h) (Or.inl ⟨by rfl, ?_⟩) hHeld ?_ ?_; rotate_left
                     ·rintro w' ⟨s0, s1, s2, s3, s4, s5, s6, s7, s8, s9, s10, s11, s12, s13, s14, s15, s16, s17, s18, s19, s20, s21, s22, s23, s24, s25, s26, s27, s28⟩
                      go_simp
                      with_reducible rfl
                     rotate_left
                     ·simp only [Act.put, sA, sB, sC, i64_w, i32_w]
                      rfl
                     refine pure_ (i := 26) (N := some 119) (v := ?_) (a' := ?_) (bs 36 133169151) rfl rfl (ak HT_.out) (fun _ _ _ h => h) (Or.inl ⟨by rfl, ?_⟩) ?_ ?_; rotate_left
                     ·intro w'
                      go_simp
                      with_reducible rfl
                     rotate_left
                     ·simp only [Act.put, sA, sB, sC, i64_w, i32_w]
                      rfl
                     refine one_ (i := 20) (N := some 113) (bs 36 134217727) rfl rfl (one_of HT_.out (by kernel_rfl)) (by decide) (fun K hK => ?_); refine goes_ Tryd.func24 (by kernel_rfl) rfl #[.agg #[.int .i64 X0_56, .int .i64 X1_56, .int .i64 X2_56, .int .i64 X3_56, .int .i64 X4_56, .string X5_56, .string X6_56, .string X7_56, .slice Ao137 X8_56.length co137], .agg #[.int .i64 a1_0, .int .i64 a1_1]] (by rfl) rfl rfl ap1 ?_; with_reducible refine (batch_Full.calls X0_56 X1_56 X2_56 X3_56 X4_56 X5_56 X6_56 X7_56 _ _ X8_56 a1_0 a1_1 t344 _ ?side1 ?side2 A134.out).mono ?_
                     (case side1 => repeat (first | exact (Kd.V_reads' HO_280008.out).2.2 | (with_reducible refine Kd.C_alloc ?_ _) | (with_reducible refine Kd.C_drewN ?_ _) | (with_reducible refine Kd.C_drew ?_)))
                     (case side2 => exact (Kd.V_reads' HO_280008.out).2.1)
                     rintro e w141 ⟨rfl, hb⟩; refine ⟨_, rfl, ?_⟩; have n0_ := am (Kd.R_below (ru HO_10.out) hb); have n1_ := am (Kd.V_below (by (with_reducible repeat (first | apply Kd.V_alloc | apply Kd.V_drewN | apply Kd.V_drew)); exact HO_280008.out) hb); have n2_ := am (Kd.V_below (by (with_reducible repeat (first | apply Kd.V_alloc | apply Kd.V_drewN | apply Kd.V_drew)); exact HO_285008.out) hb); have n3_ := am (Kd.V_below (by (with_reducible repeat (first | apply Kd.V_alloc | apply Kd.V_drewN | apply Kd.V_drew)); exact HO_295008.out) hb); have n4_ := am (blk_below (bu BK279.out) hb); have n5_ := am (blk_below (bu BK280.out) hb); have n6_ := am (blk_below (bu BK284.out) hb); have n7_ := am (blk_below (bu BK286.out) hb); have n8_ := am (blk_below (bu BK294.out) hb); have n9_ := am (below_step (beu HB.out) hb); clear HO_10 HO_280008 HO_285008 HO_295008 BK279 BK280 BK284 BK286 BK294 HB; have HO_10 := n0_; have HO_280008 := n1_; have HO_285008 := n2_; have HO_295008 := n3_; have BK279 := n4_; have BK280 := n5_; have BK284 := n6_; have BK286 := n7_; have BK294 := n8_; have HB := n9_; clear n0_ n1_ n2_ n3_ n4_ n5_ n6_ n7_ n8_ n9_
                     (try clear hb)
                     (try clear hb2)
                     (try clear hk)
                     (try clear hi)
                     refine hK.out _ _ ⟨(blk_cell BK279.out 0).trans rfl, (blk_cell BK279.out 1).trans rfl, (blk_cell BK279.out 2).trans rfl, (blk_cell BK279.out 3).trans rfl, (blk_cell BK279.out 4).trans rfl, (blk_cell BK279.out 5).trans rfl, (blk_cell BK279.out 6).trans rfl, (blk_cell BK279.out 7).trans rfl, (blk_cell BK279.out 8).trans rfl, (blk_cell BK284.out 0).trans rfl, (blk_cell BK284.out 1).trans rfl, (blk_cell BK284.out 2).trans rfl, (blk_cell BK284.out 3).trans rfl, (blk_cell BK284.out 4).trans rfl, (blk_cell BK284.out 5).trans rfl, (blk_cell BK284.out 6).trans rfl, (blk_cell BK284.out 7).trans rfl, (blk_cell BK284.out 8).trans rfl, (blk_cell BK294.out 0).trans rfl, (blk_cell BK294.out 1).trans rfl, (blk_cell BK294.out 2).trans rfl, (blk_cell BK294.out 3).trans rfl, (blk_cell BK294.out 4).trans rfl, (blk_cell BK294.out 5).trans rfl, (blk_cell BK294.out 6).trans rfl, (blk_cell BK294.out 7).trans rfl, (blk_cell BK294.out 8).trans rfl, (blk_cell BK280.out 0).trans rfl, (blk_cell BK280.out 1).trans rfl⟩ (fun hHeld => ?_); clear hK K; refine norm_ (a' := ?_) ?_ ?_; rotate_left
                     ·show Act.put _ (some 113) _ = _
                      simp only [Act.put, sA, sB, sC, i64_w, i32_w]
                      rfl
                     refine pure_ (i := 27) (N := some 120) (v := ?_) (a' := ?_) (bs 36 268435455) rfl rfl (ak HT_.out) (fun _ _ _ h => h) (Or.inl ⟨by rfl, ?_⟩) ?_ ?_; rotate_left
                     ·intro w'
                      go_simp
                      with_reducible rfl
                     rotate_left
                     ·simp only [Act.put, sA, sB, sC, i64_w, i32_w]
                      rfl
                     refine pure_ (i := 28) (N := some 121) (v := undef) (a' := ?_) (bs 36 536870911) rfl rfl (ak HT_.out) (fun _ _ _ h => h) (Or.inr ⟨by rfl, rfl⟩) ?_ ?_; rotate_left
                     ·simp only [Act.put, sA, sB, sC, i64_w, i32_w]
                      rfl
                     refine pure_ (i := 29) (N := some 122) (v := undef) (a' := ?_) (bs 36 1073741823) rfl rfl (ak HT_.out) (fun _ _ _ h => h) (Or.inr ⟨by rfl, rfl⟩) ?_ ?_; rotate_left
                     ·simp only [Act.put, sA, sB, sC, i64_w, i32_w]
                      rfl
                     refine pure_ (i := 30) (N := some 123) (v := undef) (a' := ?_) (bs 36 2147483647) rfl rfl (ak HT_.out) (fun _ _ _ h => h) (Or.inr ⟨by rfl, rfl⟩) ?_ ?_; rotate_left
                     ·simp only [Act.put, sA, sB, sC, i64_w, i32_w]
                      rfl
                     refine pure_ (i := 31) (N := some 124) (v := undef) (a' := ?_) (bs 36 4294967295) rfl rfl (ak HT_.out) (fun _ _ _ h => h) (Or.inr ⟨by rfl, rfl⟩) ?_ ?_; rotate_left
                     ·simp only [Act.put, sA, sB, sC, i64_w, i32_w]
                      rfl
                     refine pure_ (i := 32) (N := some 125) (v := undef) (a' := ?_) (bs 36 8589934591) rfl rfl (ak HT_.out) (fun _ _ _ h => h) (Or.inr ⟨by rfl, rfl⟩) ?_ ?_; rotate_left
                     ·simp only [Act.put, sA, sB, sC, i64_w, i32_w]
                      rfl
                     refine pure_ (i := 33) (N := some 126) (v := ?_) (a' := ?_) (bs 36 17179869183) rfl rfl (ak HT_.out) (fun _ _ _ h => h) (Or.inl ⟨by rfl, ?_⟩) ?_ ?_; rotate_left
                     ·intro w'
                      go_simp
                      with_reducible rfl
                     rotate_left
                     ·simp only [Act.put, sA, sB, sC, i64_w, i32_w]
                      rfl
                     refine pure_ (i := 34) (N := some 127) (v := ?_) (a' := ?_) (bs 36 34359738367) rfl rfl (ak HT_.out) (fun _ _ _ h => h) (Or.inl ⟨by rfl, ?_⟩) ?_ ?_; rotate_left
                     ·intro w'
                      go_simp
                      with_reducible rfl
                     rotate_left
                     ·simp only [Act.put, sA, sB, sC, i64_w, i32_w]
                      rfl
                     refine pure_ (i := 35) (N := some 128) (v := ?_) (a' := ?_) (bs 36 68719476735) rfl rfl (ak HT_.out) (fun _ _ _ h => h) (Or.inl ⟨by rfl, ?_⟩) ?_ ?_; rotate_left
                     ·intro w'
                      go_simp
                      with_reducible rfl
                     rotate_left
                     ·simp only [Act.put, sA, sB, sC, i64_w, i32_w]
                      rfl
                     refine done_ (done_of HT_.out (by kernel_rfl)) ?_
                     try go_wp2
                     go_meet
                     case rel => exact ⟨_, ((t344 != true)), ap3, H', ⟨by have := HJ5.out; have := HK2.out; have := HJ37.out; have := HJ56.out; first | omega | exact Nat.le_refl _⟩, ⟨ru HO_10.out⟩, ⟨by (with_reducible repeat (first | apply Kd.V_alloc | apply Kd.V_drewN | apply Kd.V_drew)); exact HO_280008.out⟩, ⟨by (with_reducible repeat (first | apply Kd.V_alloc | apply Kd.V_drewN | apply Kd.V_drew)); exact HO_285008.out⟩, ⟨by (with_reducible repeat (first | apply Kd.V_alloc | apply Kd.V_drewN | apply Kd.V_drew)); exact HO_295008.out⟩, ⟨by refine bu ?_; exact BK279.out⟩, ⟨by refine bu ?_; exact BK280.out⟩, ⟨by refine bu ?_; exact BK284.out⟩, ⟨by refine bu ?_; exact BK286.out⟩, ⟨by refine bu ?_; exact BK294.out⟩, ⟨beu HB.out⟩⟩
                    ·rw [if_neg c135] at H
                     have c135b0 : decide (a1_0 ≤ (X19_56.length : Int)) = false := decide_eq_false c135; clear c135; have H' := am H; clear H
                     try go_wp2
                     (try (rw [drewN_self wc]; generalize hq_ : World.drewN wc _ = wc; have _ := am (show Kd.R _ _ wc _ _ _ _ from by rw [← hq_]; exact Kd.R_drewN HO_10.out _); have _ := am (show Kd.V _ _ wc _ _ _ _ from by rw [← hq_]; exact Kd.V_drewN HO_280008.out _); have _ := am (show Kd.V _ _ wc _ _ _ _ from by rw [← hq_]; exact Kd.V_drewN HO_285008.out _); have _ := am (show Kd.V _ _ wc _ _ _ _ from by rw [← hq_]; exact Kd.V_drewN HO_295008.out _); have _ := am (blk_at hq_ BK279.out); have _ := am (blk_at hq_ BK280.out); have _ := am (blk_at hq_ BK284.out); have _ := am (blk_at hq_ BK286.out); have _ := am (blk_at hq_ BK294.out); have _ := am (below_at hq_ HB.out); clear hq_ HO_10 HO_280008 HO_285008 HO_295008 BK279 BK280 BK284 BK286 BK294 HB; rename_i HO_10 HO_280008 HO_285008 HO_295008 BK279 BK280 BK284 BK286 BK294 HB))
                     have n0_ := am (Kd.R_drew HO_10.out); have n1_ := am (Kd.V_drew HO_280008.out); have n2_ := am (Kd.V_drew HO_285008.out); have n3_ := am (Kd.V_drew HO_295008.out); have n4_ := am (blk_drew BK279.out); have n5_ := am (blk_drew BK280.out); have n6_ := am (blk_drew BK284.out); have n7_ := am (blk_drew BK286.out); have n8_ := am (blk_drew BK294.out); have n9_ := am (below_drew1 HB.out); clear HO_10 HO_280008 HO_285008 HO_295008 BK279 BK280 BK284 BK286 BK294 HB; have HO_10 := n0_; have HO_280008 := n1_; have HO_285008 := n2_; have HO_295008 := n3_; have BK279 := n4_; have BK280 := n5_; have BK284 := n6_; have BK286 := n7_; have BK294 := n8_; have HB := n9_; clear n0_ n1_ n2_ n3_ n4_ n5_ n6_ n7_ n8_ n9_; obtain ⟨Ao143, co143, eo143⟩ := Kd.V_slice HO_280008.out
                     (first | subst eo143 | (injection eo143 with f1_ f2_ f3_; have f4_ := f1_.symm; have f5_ := f3_.symm; clear f1_ f2_ f3_; subst f4_; subst f5_))
                     obtain ⟨Ao144, co144, eo144⟩ := Kd.V_slice HO_285008.out
                     (first | subst eo144 | (injection eo144 with f1_ f2_ f3_; have f4_ := f1_.symm; have f5_ := f3_.symm; clear f1_ f2_ f3_; subst f4_; subst f5_))
                     refine start_ (n := 36) (S := fun w' => w'.cell? ⟨gb279, 0, none⟩ = some (.int .i64 X0_56) ∧ w'.cell? ⟨gb279, 1, none⟩ = some (.int .i64 X1_56) ∧ w'.cell? ⟨gb279, 2, none⟩ = some (.int .i64 X2_56) ∧ w'.cell? ⟨gb279, 3, none⟩ = some (.int .i64 X3_56) ∧ w'.cell? ⟨gb279, 4, none⟩ = some (.int .i64 X4_56) ∧ w'.cell? ⟨gb279, 5, none⟩ = some (.string X5_56) ∧ w'.cell? ⟨gb279, 6, none⟩ = some (.string X6_56) ∧ w'.cell? ⟨gb279, 7, none⟩ = some (.string X7_56) ∧ w'.cell? ⟨gb279, 8, none⟩ = some (.slice Ao143 X8_56.length co143) ∧ w'.cell? ⟨gb284, 0, none⟩ = some (.int .i64 X11_56) ∧ w'.cell? ⟨gb284, 1, none⟩ = some (.int .i64 X12_56) ∧ w'.cell? ⟨gb284, 2, none⟩ = some (.int .i64 X13_56) ∧ w'.cell? ⟨gb284, 3, none⟩ = some (.int .i64 X14_56) ∧ w'.cell? ⟨gb284, 4, none⟩ = some (.int .i64 X15_56) ∧ w'.cell? ⟨gb284, 5, none⟩ = some (.string X16_56) ∧ w'.cell? ⟨gb284, 6, none⟩ = some (.string X17_56) ∧ w'.cell? ⟨gb284, 7, none⟩ = some (.string X18_56) ∧ w'.cell? ⟨gb284, 8, none⟩ = some (.slice Ao144 X19_56.length co144) ∧ w'.cell? ⟨gb294, 0, none⟩ = some (.int .i64 X0_2) ∧ w'.cell? ⟨gb294, 1, none⟩ = some (.int .i64 X1_2) ∧ w'.cell? ⟨gb294, 2, none⟩ = some (.int .i64 X2_2) ∧ w'.cell? ⟨gb294, 3, none⟩ = some (.int .i64 X3_2) ∧ w'.cell? ⟨gb294, 4, none⟩ = some (.int .i64 X4_2) ∧ w'.cell? ⟨gb294, 5, none⟩ = some (.string X5_2) ∧ w'.cell? ⟨gb294, 6, none⟩ = some (.string X6_2) ∧ w'.cell? ⟨gb294, 7, none⟩ = some (.string X7_2) ∧ w'.cell? ⟨gb294, 8, none⟩ = some (.slice Ao65 X8_2.length co65) ∧ w'.cell? ⟨gb280, 0, none⟩ = some (.int .i64 a1_0) ∧ w'.cell? ⟨gb280, 1, none⟩ = some (.int .i64 a1_1)) (ds := []) #[false, false, false, false, false, false, false, false, false, false, false, false, false, false, false, false, false, false, false, false, false, false, false, false, false, false, false, false, false, false, false, false, false, false, false, false] (by kernel_rfl) rfl rfl ⟨(blk_cell BK279.out 0).trans rfl, (blk_cell BK279.out 1).trans rfl, (blk_cell BK279.out 2).trans rfl, (blk_cell BK279.out 3).trans rfl, (blk_cell BK279.out 4).trans rfl, (blk_cell BK279.out 5).trans rfl, (blk_cell BK279.out 6).trans rfl, (blk_cell BK279.out 7).trans rfl, (blk_cell BK279.out 8).trans rfl, (blk_cell BK284.out 0).trans rfl, (blk_cell BK284.out 1).trans rfl, (blk_cell BK284.out 2).trans rfl, (blk_cell BK284.out 3).trans rfl, (blk_cell BK284.out 4).trans rfl, (blk_cell BK284.out 5).trans rfl, (blk_cell BK284.out 6).trans rfl, (blk_cell BK284.out 7).trans rfl, (blk_cell BK284.out 8).trans rfl, (blk_cell BK294.out 0).trans rfl, (blk_cell BK294.out 1).trans rfl, (blk_cell BK294.out 2).trans rfl, (blk_cell BK294.out 3).trans rfl, (blk_cell BK294.out 4).trans rfl, (blk_cell BK294.out 5).trans rfl, (blk_cell BK294.out 6).trans rfl, (blk_cell BK294.out 7).trans rfl, (blk_cell BK294.out 8).trans rfl, (blk_cell BK280.out 0).trans rfl, (blk_cell BK280.out 1).trans rfl⟩ (fun hHeld => ?_); refine with_tabW packhorselaw11_BatchRuns.tab19 packhorselaw11_BatchRuns.bits19 (fun HT_ HW_ => ?_)
                     generalize wc.drew = w142 at HO_10 HO_280008 HO_285008 HO_295008 BK279 BK280 BK284 BK286 BK294 HB hHeld ⊢; refine pure_ (i := 0) (N := some 93) (v := ?_) (a' := ?_) (bs 36 1) rfl rfl (ak HT_.out) (fun _ _ _ h => h) (Or.inl ⟨by rfl, ?_⟩) ?_ ?_; rotate_left
                     ·intro w'
                      go_simp
                      with_reducible rfl
                     rotate_left
                     ·simp only [Act.put, sA, sB, sC, i64_w, i32_w]
                      rfl
                     refine pure_ (i := 1) (N := some 94) (v := ?_) (a' := ?_) (bs 36 3) rfl rfl (ak HT_.out) (fun _ _ _ h => h) (Or.inl ⟨by rfl, ?_⟩) ?_ ?_; rotate_left
                     ·intro w'
                      go_simp
                      with_reducible rfl
                     rotate_left
                     ·simp only [Act.put, sA, sB, sC, i64_w, i32_w]
                      rfl
                     refine pure_ (i := 2) (N := some 95) (v := ?_) (a' := ?_) (bs 36 7) rfl rfl (ak HT_.out) (fun _ _ _ h => h) (Or.inl ⟨by rfl, ?_⟩) ?_ ?_; rotate_left
                     ·intro w'
                      go_simp
                      with_reducible rfl
                     rotate_left
                     ·simp only [Act.put, sA, sB, sC, i64_w, i32_w]
                      rfl
                     refine pure_ (i := 3) (N := some 96) (v := ?_) (a' := ?_) (bs 36 15) rfl rfl (ak HT_.out) (fun _ _ _ h => h) (Or.inl ⟨by rfl, ?_⟩) ?_ ?_; rotate_left
                     ·intro w'
                      go_simp
                      with_reducible rfl
                     rotate_left
                     ·simp only [Act.put, sA, sB, sC, i64_w, i32_w]
                      rfl
                     refine take_ (i := 4) (N := some 97) (v := ?_) (a' := ?_) (bs 36 31) rfl rfl (take_ofW HT_.out HW_.out (by kernel_rfl)) (fun _ _ _ h => h) (Or.inl ⟨by rfl, ?_⟩) hHeld ?_ ?_; rotate_left
                     ·rintro w' ⟨s0, s1, s2, s3, s4, s5, s6, s7, s8, s9, s10, s11, s12, s13, s14, s15, s16, s17, s18, s19, s20, s21, s22, s23, s24, s25, s26, s27, s28⟩
                      go_simp
                      with_reducible rfl
                     rotate_left
                     ·simp only [Act.put, sA, sB, sC, i64_w, i32_w]
                      rfl
                     refine take_ (i := 5) (N := some 98) (v := ?_) (a' := ?_) (bs 36 63) rfl rfl (take_ofW HT_.out HW_.out (by kernel_rfl)) (fun _ _ _ h => h) (Or.inl ⟨by rfl, ?_⟩) hHeld ?_ ?_; rotate_left
                     ·rintro w' ⟨s0, s1, s2, s3, s4, s5, s6, s7, s8, s9, s10, s11, s12, s13, s14, s15, s16, s17, s18, s19, s20, s21, s22, s23, s24, s25, s26, s27, s28⟩
                      go_simp
                      with_reducible rfl
                     rotate_left
                     ·simp only [Act.put, sA, sB, sC, i64_w, i32_w]
                      rfl
                     refine one_ (i := 6) (N := some 99) (bs 36 127) rfl rfl (one_of HT_.out (by kernel_rfl)) (by decide) (fun K hK => ?_); refine goes_ Tryd.func19 (by kernel_rfl) rfl #[.agg #[.int .i64 X0_56, .int .i64 X1_56, .int .i64 X2_56, .int .i64 X3_56, .int .i64 X4_56, .string X5_56, .string X6_56, .string X7_56, .slice Ao143 X8_56.length co143], .agg #[.int .i64 X11_56, .int .i64 X12_56, .int .i64 X13_56, .int .i64 X14_56, .int .i64 X15_56, .string X16_56, .string X17_56, .string X18_56, .slice Ao144 X19_56.length co144]] (by rfl) rfl rfl ap1 ?_; with_reducible refine (packhorseref11_Same.calls kj56 X0_56 X1_56 X2_56 X3_56 X4_56 X5_56 X6_56 X7_56 _ _ X8_56 X11_56 X12_56 X13_56 X14_56 X15_56 X16_56 X17_56 X18_56 _ _ X19_56 true _ ?side1 ?side2 ?side3 ?side4 A131.out).mono ?_
                     (case side1 => repeat (first | exact (Kd.V_reads' HO_280008.out).2.2 | (with_reducible refine Kd.C_alloc ?_ _) | (with_reducible refine Kd.C_drewN ?_ _) | (with_reducible refine Kd.C_drew ?_)))
                     (case side2 => exact (Kd.V_reads' HO_280008.out).2.1)
                     (case side3 => repeat (first | exact (Kd.V_reads' HO_285008.out).2.2 | (with_reducible refine Kd.C_alloc ?_ _) | (with_reducible refine Kd.C_drewN ?_ _) | (with_reducible refine Kd.C_drew ?_)))
                     (case side4 => exact (Kd.V_reads' HO_285008.out).2.1)
                     rintro e w145 ⟨rfl, hb⟩; refine ⟨_, rfl, ?_⟩; have n0_ := am (Kd.R_below (ru HO_10.out) hb); have n1_ := am (Kd.V_below (by (with_reducible repeat (first | apply Kd.V_alloc | apply Kd.V_drewN | apply Kd.V_drew)); exact HO_280008.out) hb); have n2_ := am (Kd.V_below (by (with_reducible repeat (first | apply Kd.V_alloc | apply Kd.V_drewN | apply Kd.V_drew)); exact HO_285008.out) hb); have n3_ := am (Kd.V_below (by (with_reducible repeat (first | apply Kd.V_alloc | apply Kd.V_drewN | apply Kd.V_drew)); exact HO_295008.out) hb); have n4_ := am (blk_below (bu BK279.out) hb); have n5_ := am (blk_below (bu BK280.out) hb); have n6_ := am (blk_below (bu BK284.out) hb); have n7_ := am (blk_below (bu BK286.out) hb); have n8_ := am (blk_below (bu BK294.out) hb); have n9_ := am (below_step (beu HB.out) hb); clear HO_10 HO_280008 HO_285008 HO_295008 BK279 BK280 BK284 BK286 BK294 HB; have HO_10 := n0_; have HO_280008 := n1_; have HO_285008 := n2_; have HO_295008 := n3_; have BK279 := n4_; have BK280 := n5_; have BK284 := n6_; have BK286 := n7_; have BK294 := n8_; have HB := n9_; clear n0_ n1_ n2_ n3_ n4_ n5_ n6_ n7_ n8_ n9_
                     (try clear hb)
                     (try clear hb2)
                     (try clear hk)
                     (try clear hi)
                     obtain ⟨Ao146, co146, eo146⟩ := Kd.R_slice HO_10.out
                     (first | subst eo146 | (injection eo146 with f1_ f2_ f3_; have f4_ := f1_.symm; have f5_ := f3_.symm; clear f1_ f2_ f3_; subst f4_; subst f5_))
                     refine hK.out _ _ ⟨(blk_cell BK279.out 0).trans rfl, (blk_cell BK279.out 1).trans rfl, (blk_cell BK279.out 2).trans rfl, (blk_cell BK279.out 3).trans rfl, (blk_cell BK279.out 4).trans rfl, (blk_cell BK279.out 5).trans rfl, (blk_cell BK279.out 6).trans rfl, (blk_cell BK279.out 7).trans rfl, (blk_cell BK279.out 8).trans rfl, (blk_cell BK284.out 0).trans rfl, (blk_cell BK284.out 1).trans rfl, (blk_cell BK284.out 2).trans rfl, (blk_cell BK284.out 3).trans rfl, (blk_cell BK284.out 4).trans rfl, (blk_cell BK284.out 5).trans rfl, (blk_cell BK284.out 6).trans rfl, (blk_cell BK284.out 7).trans rfl, (blk_cell BK284.out 8).trans rfl, (blk_cell BK294.out 0).trans rfl, (blk_cell BK294.out 1).trans rfl, (blk_cell BK294.out 2).trans rfl, (blk_cell BK294.out 3).trans rfl, (blk_cell BK294.out 4).trans rfl, (blk_cell BK294.out 5).trans rfl, (blk_cell BK294.out 6).trans rfl, (blk_cell BK294.out 7).trans rfl, (blk_cell BK294.out 8).trans rfl, (blk_cell BK280.out 0).trans rfl, (blk_cell BK280.out 1).trans rfl⟩ (fun hHeld => ?_); clear hK K; refine norm_ (a' := ?_) ?_ ?_; rotate_left
                     ·show Act.put _ (some 99) _ = _
                      simp only [Act.put, sA, sB, sC, i64_w, i32_w]
                      rfl
                     refine pure_ (i := 7) (N := some 100) (v := ?_) (a' := ?_) (bs 36 255) rfl rfl (ak HT_.out) (fun _ _ _ h => h) (Or.inl ⟨by rfl, ?_⟩) ?_ ?_; rotate_left
                     ·intro w'
                      go_simp
                      with_reducible rfl
                     rotate_left
                     ·simp only [Act.put, sA, sB, sC, i64_w, i32_w]
                      rfl
                     refine pure_ (i := 8) (N := some 101) (v := ?_) (a' := ?_) (bs 36 511) rfl rfl (ak HT_.out) (fun _ _ _ h => h) (Or.inl ⟨by rfl, ?_⟩) ?_ ?_; rotate_left
                     ·intro w'
                      go_simp
                      with_reducible rfl
                     rotate_left
                     ·simp only [Act.put, sA, sB, sC, i64_w, i32_w]
                      rfl
                     refine pure_ (i := 9) (N := some 102) (v := ?_) (a' := ?_) (bs 36 1023) rfl rfl (ak HT_.out) (fun _ _ _ h => h) (Or.inl ⟨by rfl, ?_⟩) ?_ ?_; rotate_left
                     ·intro w'
                      go_simp
                      with_reducible rfl
                     rotate_left
                     ·simp only [Act.put, sA, sB, sC, i64_w, i32_w]
                      rfl
                     refine pure_ (i := 10) (N := some 103) (v := ?_) (a' := ?_) (bs 36 2047) rfl rfl (ak HT_.out) (fun _ _ _ h => h) (Or.inl ⟨by rfl, ?_⟩) ?_ ?_; rotate_left
                     ·intro w'
                      go_simp
                      with_reducible rfl
                     rotate_left
                     ·simp only [Act.put, sA, sB, sC, i64_w, i32_w]
                      rfl
                     refine pure_ (i := 13) (N := some 106) (v := ?_) (a' := ?_) (bs 36 10239) rfl rfl (ak HT_.out) (fun _ _ _ h => h) (Or.inl ⟨by rfl, ?_⟩) ?_ ?_; rotate_left
                     ·intro w'
                      go_simp
                      with_reducible rfl
                     rotate_left
                     ·simp only [Act.put, sA, sB, sC, i64_w, i32_w]
                      rfl
                     refine pure_ (i := 14) (N := some 107) (v := ?_) (a' := ?_) (bs 36 26623) rfl rfl (ak HT_.out) (fun _ _ _ h => h) (Or.inl ⟨by rfl, ?_⟩) ?_ ?_; rotate_left
                     ·intro w'
                      go_simp
                      with_reducible rfl
                     rotate_left
                     ·simp only [Act.put, sA, sB, sC, i64_w, i32_w]
                      rfl
                     refine take_ (i := 11) (N := some 104) (v := ?_) (a' := ?_) (bs 36 28671) rfl rfl (take_ofW HT_.out HW_.out (by kernel_rfl)) (fun _ _ _ h => h) (Or.inl ⟨by rfl, ?_⟩) hHeld ?_ ?_; rotate_left
                     ·rintro w' ⟨s0, s1, s2, s3, s4, s5, s6, s7, s8, s9, s10, s11, s12, s13, s14, s15, s16, s17, s18, s19, s20, s21, s22, s23, s24, s25, s26, s27, s28⟩
                      go_simp
                      with_reducible rfl
                     rotate_left
                     ·simp only [Act.put, sA, sB, sC, i64_w, i32_w]
                      rfl
                     refine pure_ (i := 12) (N := some 105) (v := ?_) (a' := ?_) (bs 36 32767) rfl rfl (ak HT_.out) (fun _ _ _ h => h) (Or.inl ⟨by rfl, ?_⟩) ?_ ?_; rotate_left
                     ·intro w'
                      go_simp
                      with_reducible rfl
                     rotate_left
                     ·simp only [Act.put, sA, sB, sC, i64_w, i32_w]
                      rfl
                     refine pure_ (i := 15) (N := some 108) (v := ?_) (a' := ?_) (bs 36 65535) rfl rfl (ak HT_.out) (fun _ _ _ h => h) (Or.inl ⟨by rfl, ?_⟩) ?_ ?_; rotate_left
                     ·intro w'
                      go_simp
                      with_reducible rfl
                     rotate_left
                     ·simp only [Act.put, sA, sB, sC, i64_w, i32_w]
                      rfl
                     refine pure_ (i := 16) (N := some 109) (v := ?_) (a' := ?_) (bs 36 131071) rfl rfl (ak HT_.out) (fun _ _ _ h => h) (Or.inl ⟨by rfl, ?_⟩) ?_ ?_; rotate_left
                     ·intro w'
                      go_simp
                      with_reducible rfl
                     rotate_left
                     ·simp only [Act.put, sA, sB, sC, i64_w, i32_w]
                      rfl
                     refine pure_ (i := 17) (N := some 110) (v := ?_) (a' := ?_) (bs 36 262143) rfl rfl (ak HT_.out) (fun _ _ _ h => h) (Or.inl ⟨by rfl, ?_⟩) ?_ ?_; rotate_left
                     ·intro w'
                      go_simp
                      with_reducible rfl
                     rotate_left
                     ·simp only [Act.put, sA, sB, sC, i64_w, i32_w]
                      rfl
                     refine pure_ (i := 21) (N := some 114) (v := ?_) (a' := ?_) (bs 36 2359295) rfl rfl (ak HT_.out) (fun _ _ _ h => h) (Or.inl ⟨by rfl, ?_⟩) ?_ ?_; rotate_left
                     ·intro w'
                      go_simp
                      with_reducible rfl
                     rotate_left
                     ·simp only [Act.put, sA, sB, sC, i64_w, i32_w]
                      rfl
                     refine pure_ (i := 24) (N := some 117) (v := ?_) (a' := ?_) (bs 36 19136511) rfl rfl (ak HT_.out) (fun _ _ _ h => h) (Or.inl ⟨by rfl, ?_⟩) ?_ ?_; rotate_left
                     ·intro w'
                      go_simp
                      with_reducible rfl
                     rotate_left
                     ·simp only [Act.put, sA, sB, sC, i64_w, i32_w]
                      rfl
                     refine take_ (i := 18) (N := some 111) (v := ?_) (a' := ?_) (bs 36 19398655) rfl rfl (take_ofW HT_.out HW_.out (by kernel_rfl)) (fun _ _ _ h => h) (Or.inl ⟨by rfl, ?_⟩) hHeld ?_ ?_; rotate_left
                     ·rintro w' ⟨s0, s1, s2, s3, s4, s5, s6, s7, s8, s9, s10, s11, s12, s13, s14, s15, s16, s17, s18, s19, s20, s21, s22, s23, s24, s25, s26, s27, s28⟩
                      go_simp
                      with_reducible rfl
                     rotate_left
                     ·simp only [Act.put, sA, sB, sC, i64_w, i32_w]
                      rfl
                     refine take_ (i := 19) (N := some 112) (v := ?_) (a' := ?_) (bs 36 19922943) rfl rfl (take_ofW HT_.out HW_.out (by kernel_rfl)) (fun _ _ _ h => h) (Or.inl ⟨by rfl, ?_⟩) hHeld ?_ ?_; rotate_left
                     ·rintro w' ⟨s0, s1, s2, s3, s4, s5, s6, s7, s8, s9, s10, s11, s12, s13, s14, s15, s16, s17, s18, s19, s20, s21, s22, s23, s24, s25, s26, s27, s28⟩
                      go_simp
                      with_reducible rfl
                     rotate_left
                     ·simp only [Act.put, sA, sB, sC, i64_w, i32_w]
                      rfl
                     refine take_ (i := 22) (N := some 115) (v := ?_) (a' := ?_) (bs 36 24117247) rfl rfl (take_ofW HT_.out HW_.out (by kernel_rfl)) (fun _ _ _ h => h) (Or.inl ⟨by rfl, ?_⟩) hHeld ?_ ?_; rotate_left
                     ·rintro w' ⟨s0, s1, s2, s3, s4, s5, s6, s7, s8, s9, s10, s11, s12, s13, s14, s15, s16, s17, s18, s19, s20, s21, s22, s23, s24, s25, s26, s27, s28⟩
                      go_simp
                      with_reducible rfl
                     rotate_left
                     ·simp only [Act.put, sA, sB, sC, i64_w, i32_w]
                      rfl
                     refine pure_ (i := 23) (N := some 116) (v := ?_) (a' := ?_) (bs 36 32505855) rfl rfl (ak HT_.out) (fun _ _ _ h => h) (Or.inl ⟨by rfl, ?_⟩) ?_ ?_; rotate_left
                     ·intro w'
                      go_simp
                      with_reducible rfl
                     rotate_left
                     ·simp only [Act.put, sA, sB, sC, i64_w, i32_w]
                      rfl
                     refine take_ (i := 25) (N := some 118) (v := ?_) (a' := ?_) (bs 36 66060287) rfl rfl (take_ofW HT_.out HW_.out (by kernel_rfl)) (fun _ _ _ h => h) (Or.inl ⟨by rfl, ?_⟩) hHeld ?_ ?_; rotate_left
                     ·rintro w' ⟨s0, s1, s2, s3, s4, s5, s6, s7, s8, s9, s10, s11, s12, s13, s14, s15, s16, s17, s18, s19, s20, s21, s22, s23, s24, s25, s26, s27, s28⟩
                      go_simp
                      with_reducible rfl
                     rotate_left
                     ·simp only [Act.put, sA, sB, sC, i64_w, i32_w]
                      rfl
                     refine pure_ (i := 26) (N := some 119) (v := ?_) (a' := ?_) (bs 36 133169151) rfl rfl (ak HT_.out) (fun _ _ _ h => h) (Or.inl ⟨by rfl, ?_⟩) ?_ ?_; rotate_left
                     ·intro w'
                      go_simp
                      with_reducible rfl
                     rotate_left
                     ·simp only [Act.put, sA, sB, sC, i64_w, i32_w]
                      rfl
                     refine one_ (i := 20) (N := some 113) (bs 36 134217727) rfl rfl (one_of HT_.out (by kernel_rfl)) (by decide) (fun K hK => ?_); refine goes_ Tryd.func24 (by kernel_rfl) rfl #[.agg #[.int .i64 X0_56, .int .i64 X1_56, .int .i64 X2_56, .int .i64 X3_56, .int .i64 X4_56, .string X5_56, .string X6_56, .string X7_56, .slice Ao143 X8_56.length co143], .agg #[.int .i64 a1_0, .int .i64 a1_1]] (by rfl) rfl rfl ap1 ?_; with_reducible refine (batch_Full.calls X0_56 X1_56 X2_56 X3_56 X4_56 X5_56 X6_56 X7_56 _ _ X8_56 a1_0 a1_1 t344 _ ?side1 ?side2 A134.out).mono ?_
                     (case side1 => repeat (first | exact (Kd.V_reads' HO_280008.out).2.2 | (with_reducible refine Kd.C_alloc ?_ _) | (with_reducible refine Kd.C_drewN ?_ _) | (with_reducible refine Kd.C_drew ?_)))
                     (case side2 => exact (Kd.V_reads' HO_280008.out).2.1)
                     rintro e w147 ⟨rfl, hb⟩; refine ⟨_, rfl, ?_⟩; have n0_ := am (Kd.R_below (ru HO_10.out) hb); have n1_ := am (Kd.V_below (by (with_reducible repeat (first | apply Kd.V_alloc | apply Kd.V_drewN | apply Kd.V_drew)); exact HO_280008.out) hb); have n2_ := am (Kd.V_below (by (with_reducible repeat (first | apply Kd.V_alloc | apply Kd.V_drewN | apply Kd.V_drew)); exact HO_285008.out) hb); have n3_ := am (Kd.V_below (by (with_reducible repeat (first | apply Kd.V_alloc | apply Kd.V_drewN | apply Kd.V_drew)); exact HO_295008.out) hb); have n4_ := am (blk_below (bu BK279.out) hb); have n5_ := am (blk_below (bu BK280.out) hb); have n6_ := am (blk_below (bu BK284.out) hb); have n7_ := am (blk_below (bu BK286.out) hb); have n8_ := am (blk_below (bu BK294.out) hb); have n9_ := am (below_step (beu HB.out) hb); clear HO_10 HO_280008 HO_285008 HO_295008 BK279 BK280 BK284 BK286 BK294 HB; have HO_10 := n0_; have HO_280008 := n1_; have HO_285008 := n2_; have HO_295008 := n3_; have BK279 := n4_; have BK280 := n5_; have BK284 := n6_; have BK286 := n7_; have BK294 := n8_; have HB := n9_; clear n0_ n1_ n2_ n3_ n4_ n5_ n6_ n7_ n8_ n9_
                     (try clear hb)
                     (try clear hb2)
                     (try clear hk)
                     (try clear hi)
                     refine hK.out _ _ ⟨(blk_cell BK279.out 0).trans rfl, (blk_cell BK279.out 1).trans rfl, (blk_cell BK279.out 2).trans rfl, (blk_cell BK279.out 3).trans rfl, (blk_cell BK279.out 4).trans rfl, (blk_cell BK279.out 5).trans rfl, (blk_cell BK279.out 6).trans rfl, (blk_cell BK279.out 7).trans rfl, (blk_cell BK279.out 8).trans rfl, (blk_cell BK284.out 0).trans rfl, (blk_cell BK284.out 1).trans rfl, (blk_cell BK284.out 2).trans rfl, (blk_cell BK284.out 3).trans rfl, (blk_cell BK284.out 4).trans rfl, (blk_cell BK284.out 5).trans rfl, (blk_cell BK284.out 6).trans rfl, (blk_cell BK284.out 7).trans rfl, (blk_cell BK284.out 8).trans rfl, (blk_cell BK294.out 0).trans rfl, (blk_cell BK294.out 1).trans rfl, (blk_cell BK294.out 2).trans rfl, (blk_cell BK294.out 3).trans rfl, (blk_cell BK294.out 4).trans rfl, (blk_cell BK294.out 5).trans rfl, (blk_cell BK294.out 6).trans rfl, (blk_cell BK294.out 7).trans rfl, (blk_cell BK294.out 8).trans rfl, (blk_cell BK280.out 0).trans rfl, (blk_cell BK280.out 1).trans rfl⟩ (fun hHeld => ?_); clear hK K; refine norm_ (a' := ?_) ?_ ?_; rotate_left
                     ·show Act.put _ (some 113) _ = _
                      simp only [Act.put, sA, sB, sC, i64_w, i32_w]
                      rfl
                     refine pure_ (i := 27) (N := some 120) (v := ?_) (a' := ?_) (bs 36 268435455) rfl rfl (ak HT_.out) (fun _ _ _ h => h) (Or.inl ⟨by rfl, ?_⟩) ?_ ?_; rotate_left
                     ·intro w'
                      go_simp
                      with_reducible rfl
                     rotate_left
                     ·simp only [Act.put, sA, sB, sC, i64_w, i32_w]
                      rfl
                     refine pure_ (i := 28) (N := some 121) (v := ?_) (a' := ?_) (bs 36 536870911) rfl rfl (ak HT_.out) (fun _ _ _ h => h) (Or.inl ⟨by rfl, ?_⟩) ?_ ?_; rotate_left
                     ·intro w'
                      go_simp
                      with_reducible rfl
                     rotate_left
                     ·simp only [Act.put, sA, sB, sC, i64_w, i32_w]
                      rfl
                     refine pure_ (i := 30) (N := some 123) (v := ?_) (a' := ?_) (bs 36 1610612735) rfl rfl (ak HT_.out) (fun _ _ _ h => h) (Or.inl ⟨by rfl, ?_⟩) ?_ ?_; rotate_left
                     ·intro w'
                      go_simp
                      with_reducible rfl
                     rotate_left
                     ·simp only [Act.put, sA, sB, sC, i64_w, i32_w]
                      rfl
                     refine take_ (i := 29) (N := some 122) (v := ?_) (a' := ?_) (bs 36 2147483647) rfl rfl (take_ofW HT_.out HW_.out (by kernel_rfl)) (fun _ _ _ h => h) (Or.inl ⟨by rfl, ?_⟩) hHeld ?_ ?_; rotate_left
                     ·rintro w' ⟨s0, s1, s2, s3, s4, s5, s6, s7, s8, s9, s10, s11, s12, s13, s14, s15, s16, s17, s18, s19, s20, s21, s22, s23, s24, s25, s26, s27, s28⟩
                      go_simp
                      with_reducible rfl
                     rotate_left
                     ·simp only [Act.put, sA, sB, sC, i64_w, i32_w]
                      rfl
                     refine take_ (i := 31) (N := some 124) (v := ?_) (a' := ?_) (bs 36 4294967295) rfl rfl (take_ofW HT_.out HW_.out (by kernel_rfl)) (fun _ _ _ h => h) (Or.inl ⟨by rfl, ?_⟩) hHeld ?_ ?_; rotate_left
                     ·rintro w' ⟨s0, s1, s2, s3, s4, s5, s6, s7, s8, s9, s10, s11, s12, s13, s14, s15, s16, s17, s18, s19, s20, s21, s22, s23, s24, s25, s26, s27, s28⟩
                      go_simp
                      with_reducible rfl
                     rotate_left
                     ·simp only [Act.put, sA, sB, sC, i64_w, i32_w]
                      rfl
                     refine pure_ (i := 32) (N := some 125) (v := ?_) (a' := ?_) (bs 36 8589934591) rfl rfl (ak HT_.out) (fun _ _ _ h => h) (Or.inl ⟨by rfl, ?_⟩) ?_ ?_; rotate_left
                     ·intro w'
                      go_simp
                      with_reducible rfl
                     rotate_left
                     ·simp only [Act.put, sA, sB, sC, i64_w, i32_w]
                      rfl
                     refine pure_ (i := 33) (N := some 126) (v := ?_) (a' := ?_) (bs 36 17179869183) rfl rfl (ak HT_.out) (fun _ _ _ h => h) (Or.inl ⟨by rfl, ?_⟩) ?_ ?_; rotate_left
                     ·intro w'
                      go_simp
                      with_reducible rfl
                     rotate_left
                     ·simp only [Act.put, sA, sB, sC, i64_w, i32_w]
                      rfl
                     refine pure_ (i := 34) (N := some 127) (v := ?_) (a' := ?_) (bs 36 34359738367) rfl rfl (ak HT_.out) (fun _ _ _ h => h) (Or.inl ⟨by rfl, ?_⟩) ?_ ?_; rotate_left
                     ·intro w'
                      go_simp
                      with_reducible rfl
                     rotate_left
                     ·simp only [Act.put, sA, sB, sC, i64_w, i32_w]
                      rfl
                     refine pure_ (i := 35) (N := some 128) (v := ?_) (a' := ?_) (bs 36 68719476735) rfl rfl (ak HT_.out) (fun _ _ _ h => h) (Or.inl ⟨by rfl, ?_⟩) ?_ ?_; rotate_left
                     ·intro w'
                      go_simp
                      with_reducible rfl
                     rotate_left
                     ·simp only [Act.put, sA, sB, sC, i64_w, i32_w]
                      rfl
                     refine done_ (done_of HT_.out (by kernel_rfl)) ?_
                     try go_wp2
                     go_meet
                     case rel => exact ⟨_, ((t344 != (decide (X12_56 ≥ a1_1)))), ap3, H', ⟨by have := HJ5.out; have := HK2.out; have := HJ37.out; have := HJ56.out; first | omega | exact Nat.le_refl _⟩, ⟨ru HO_10.out⟩, ⟨by (with_reducible repeat (first | apply Kd.V_alloc | apply Kd.V_drewN | apply Kd.V_drew)); exact HO_280008.out⟩, ⟨by (with_reducible repeat (first | apply Kd.V_alloc | apply Kd.V_drewN | apply Kd.V_drew)); exact HO_285008.out⟩, ⟨by (with_reducible repeat (first | apply Kd.V_alloc | apply Kd.V_drewN | apply Kd.V_drew)); exact HO_295008.out⟩, ⟨by refine bu ?_; exact BK279.out⟩, ⟨by refine bu ?_; exact BK280.out⟩, ⟨by refine bu ?_; exact BK284.out⟩, ⟨by refine bu ?_; exact BK286.out⟩, ⟨by refine bu ?_; exact BK294.out⟩, ⟨beu HB.out⟩⟩
                   ·rw [if_neg c133] at H
                    have c133b0 : ((X8_2.length : Int) == (y291.length : Int)) = false := beq_eq_false_iff_ne.mpr c133; have c133b1 : ((X8_2.length : Int) != (y291.length : Int)) = true := bne_iff_ne.mpr c133
                    have c133b2 : (X8_2.length == y291.length) = false := by first | simpa using c133 | (simp at c133 ⊢; omega)
                    have H' := am H; clear H
                    try go_wp2
                    (try (rw [drewN_self wc]; generalize hq_ : World.drewN wc _ = wc; have _ := am (show Kd.R _ _ wc _ _ _ _ from by rw [← hq_]; exact Kd.R_drewN HO_10.out _); have _ := am (show Kd.V _ _ wc _ _ _ _ from by rw [← hq_]; exact Kd.V_drewN HO_280008.out _); have _ := am (show Kd.V _ _ wc _ _ _ _ from by rw [← hq_]; exact Kd.V_drewN HO_285008.out _); have _ := am (show Kd.V _ _ wc _ _ _ _ from by rw [← hq_]; exact Kd.V_drewN HO_295008.out _); have _ := am (blk_at hq_ BK279.out); have _ := am (blk_at hq_ BK280.out); have _ := am (blk_at hq_ BK284.out); have _ := am (blk_at hq_ BK286.out); have _ := am (blk_at hq_ BK294.out); have _ := am (below_at hq_ HB.out); clear hq_ HO_10 HO_280008 HO_285008 HO_295008 BK279 BK280 BK284 BK286 BK294 HB; rename_i HO_10 HO_280008 HO_285008 HO_295008 BK279 BK280 BK284 BK286 BK294 HB))
                    have n0_ := am (Kd.R_drew HO_10.out); have n1_ := am (Kd.V_drew HO_280008.out); have n2_ := am (Kd.V_drew HO_285008.out); have n3_ := am (Kd.V_drew HO_295008.out); have n4_ := am (blk_drew BK279.out); have n5_ := am (blk_drew BK280.out); have n6_ := am (blk_drew BK284.out); have n7_ := am (blk_drew BK286.out); have n8_ := am (blk_drew BK294.out); have n9_ := am (below_drew1 HB.out); clear HO_10 HO_280008 HO_285008 HO_295008 BK279 BK280 BK284 BK286 BK294 HB; have HO_10 := n0_; have HO_280008 := n1_; have HO_285008 := n2_; have HO_295008 := n3_; have BK279 := n4_; have BK280 := n5_; have BK284 := n6_; have BK286 := n7_; have BK294 := n8_; have HB := n9_; clear n0_ n1_ n2_ n3_ n4_ n5_ n6_ n7_ n8_ n9_; obtain ⟨Ao149, co149, eo149⟩ := Kd.V_slice HO_280008.out
                    (first | subst eo149 | (injection eo149 with f1_ f2_ f3_; have f4_ := f1_.symm; have f5_ := f3_.symm; clear f1_ f2_ f3_; subst f4_; subst f5_))
                    obtain ⟨Ao150, co150, eo150⟩ := Kd.V_slice HO_285008.out
                    (first | subst eo150 | (injection eo150 with f1_ f2_ f3_; have f4_ := f1_.symm; have f5_ := f3_.symm; clear f1_ f2_ f3_; subst f4_; subst f5_))
                    refine start_ (n := 36) (S := fun w' => w'.cell? ⟨gb279, 0, none⟩ = some (.int .i64 X0_56) ∧ w'.cell? ⟨gb279, 1, none⟩ = some (.int .i64 X1_56) ∧ w'.cell? ⟨gb279, 2, none⟩ = some (.int .i64 X2_56) ∧ w'.cell? ⟨gb279, 3, none⟩ = some (.int .i64 X3_56) ∧ w'.cell? ⟨gb279, 4, none⟩ = some (.int .i64 X4_56) ∧ w'.cell? ⟨gb279, 5, none⟩ = some (.string X5_56) ∧ w'.cell? ⟨gb279, 6, none⟩ = some (.string X6_56) ∧ w'.cell? ⟨gb279, 7, none⟩ = some (.string X7_56) ∧ w'.cell? ⟨gb279, 8, none⟩ = some (.slice Ao149 X8_56.length co149) ∧ w'.cell? ⟨gb284, 0, none⟩ = some (.int .i64 X11_56) ∧ w'.cell? ⟨gb284, 1, none⟩ = some (.int .i64 X12_56) ∧ w'.cell? ⟨gb284, 2, none⟩ = some (.int .i64 X13_56) ∧ w'.cell? ⟨gb284, 3, none⟩ = some (.int .i64 X14_56) ∧ w'.cell? ⟨gb284, 4, none⟩ = some (.int .i64 X15_56) ∧ w'.cell? ⟨gb284, 5, none⟩ = some (.string X16_56) ∧ w'.cell? ⟨gb284, 6, none⟩ = some (.string X17_56) ∧ w'.cell? ⟨gb284, 7, none⟩ = some (.string X18_56) ∧ w'.cell? ⟨gb284, 8, none⟩ = some (.slice Ao150 X19_56.length co150) ∧ w'.cell? ⟨gb294, 0, none⟩ = some (.int .i64 X0_2) ∧ w'.cell? ⟨gb294, 1, none⟩ = some (.int .i64 X1_2) ∧ w'.cell? ⟨gb294, 2, none⟩ = some (.int .i64 X2_2) ∧ w'.cell? ⟨gb294, 3, none⟩ = some (.int .i64 X3_2) ∧ w'.cell? ⟨gb294, 4, none⟩ = some (.int .i64 X4_2) ∧ w'.cell? ⟨gb294, 5, none⟩ = some (.string X5_2) ∧ w'.cell? ⟨gb294, 6, none⟩ = some (.string X6_2) ∧ w'.cell? ⟨gb294, 7, none⟩ = some (.string X7_2) ∧ w'.cell? ⟨gb294, 8, none⟩ = some (.slice Ao65 X8_2.length co65)) (ds := []) #[false, false, false, false, false, false, false, false, false, false, false, false, false, false, false, false, false, false, false, false, false, false, false, false, false, false, false, false, false, false, false, false, false, false, false, false] (by kernel_rfl) rfl rfl ⟨(blk_cell BK279.out 0).trans rfl, (blk_cell BK279.out 1).trans rfl, (blk_cell BK279.out 2).trans rfl, (blk_cell BK279.out 3).trans rfl, (blk_cell BK279.out 4).trans rfl, (blk_cell BK279.out 5).trans rfl, (blk_cell BK279.out 6).trans rfl, (blk_cell BK279.out 7).trans rfl, (blk_cell BK279.out 8).trans rfl, (blk_cell BK284.out 0).trans rfl, (blk_cell BK284.out 1).trans rfl, (blk_cell BK284.out 2).trans rfl, (blk_cell BK284.out 3).trans rfl, (blk_cell BK284.out 4).trans rfl, (blk_cell BK284.out 5).trans rfl, (blk_cell BK284.out 6).trans rfl, (blk_cell BK284.out 7).trans rfl, (blk_cell BK284.out 8).trans rfl, (blk_cell BK294.out 0).trans rfl, (blk_cell BK294.out 1).trans rfl, (blk_cell BK294.out 2).trans rfl, (blk_cell BK294.out 3).trans rfl, (blk_cell BK294.out 4).trans rfl, (blk_cell BK294.out 5).trans rfl, (blk_cell BK294.out 6).trans rfl, (blk_cell BK294.out 7).trans rfl, (blk_cell BK294.out 8).trans rfl⟩ (fun hHeld => ?_); refine with_tabW packhorselaw11_BatchRuns.tab19 packhorselaw11_BatchRuns.bits19 (fun HT_ HW_ => ?_)
                    generalize wc.drew = w148 at HO_10 HO_280008 HO_285008 HO_295008 BK279 BK280 BK284 BK286 BK294 HB hHeld ⊢; refine pure_ (i := 0) (N := some 93) (v := ?_) (a' := ?_) (bs 36 1) rfl rfl (ak HT_.out) (fun _ _ _ h => h) (Or.inl ⟨by rfl, ?_⟩) ?_ ?_; rotate_left
                    ·intro w'
                     go_simp
                     with_reducible rfl
                    rotate_left
                    ·simp only [Act.put, sA, sB, sC, i64_w, i32_w]
                     rfl
                    refine pure_ (i := 1) (N := some 94) (v := ?_) (a' := ?_) (bs 36 3) rfl rfl (ak HT_.out) (fun _ _ _ h => h) (Or.inl ⟨by rfl, ?_⟩) ?_ ?_; rotate_left
                    ·intro w'
                     go_simp
                     with_reducible rfl
                    rotate_left
                    ·simp only [Act.put, sA, sB, sC, i64_w, i32_w]
                     rfl
                    refine pure_ (i := 2) (N := some 95) (v := ?_) (a' := ?_) (bs 36 7) rfl rfl (ak HT_.out) (fun _ _ _ h => h) (Or.inl ⟨by rfl, ?_⟩) ?_ ?_; rotate_left
                    ·intro w'
                     go_simp
                     with_reducible rfl
                    rotate_left
                    ·simp only [Act.put, sA, sB, sC, i64_w, i32_w]
                     rfl
                    refine pure_ (i := 3) (N := some 96) (v := ?_) (a' := ?_) (bs 36 15) rfl rfl (ak HT_.out) (fun _ _ _ h => h) (Or.inl ⟨by rfl, ?_⟩) ?_ ?_; rotate_left
                    ·intro w'
                     go_simp
                     with_reducible rfl
                    rotate_left
                    ·simp only [Act.put, sA, sB, sC, i64_w, i32_w]
                     rfl
                    refine take_ (i := 4) (N := some 97) (v := ?_) (a' := ?_) (bs 36 31) rfl rfl (take_ofW HT_.out HW_.out (by kernel_rfl)) (fun _ _ _ h => h) (Or.inl ⟨by rfl, ?_⟩) hHeld ?_ ?_; rotate_left
                    ·rintro w' ⟨s0, s1, s2, s3, s4, s5, s6, s7, s8, s9, s10, s11, s12, s13, s14, s15, s16, s17, s18, s19, s20, s21, s22, s23, s24, s25, s26⟩
                     go_simp
                     with_reducible rfl
                    rotate_left
                    ·simp only [Act.put, sA, sB, sC, i64_w, i32_w]
                     rfl
                    refine take_ (i := 5) (N := some 98) (v := ?_) (a' := ?_) (bs 36 63) rfl rfl (take_ofW HT_.out HW_.out (by kernel_rfl)) (fun _ _ _ h => h) (Or.inl ⟨by rfl, ?_⟩) hHeld ?_ ?_; rotate_left
                    ·rintro w' ⟨s0, s1, s2, s3, s4, s5, s6, s7, s8, s9, s10, s11, s12, s13, s14, s15, s16, s17, s18, s19, s20, s21, s22, s23, s24, s25, s26⟩
                     go_simp
                     with_reducible rfl
                    rotate_left
                    ·simp only [Act.put, sA, sB, sC, i64_w, i32_w]
                     rfl
                    refine one_ (i := 6) (N := some 99) (bs 36 127) rfl rfl (one_of HT_.out (by kernel_rfl)) (by decide) (fun K hK => ?_); refine goes_ Tryd.func19 (by kernel_rfl) rfl #[.agg #[.int .i64 X0_56, .int .i64 X1_56, .int .i64 X2_56, .int .i64 X3_56, .int .i64 X4_56, .string X5_56, .string X6_56, .string X7_56, .slice Ao149 X8_56.length co149], .agg #[.int .i64 X11_56, .int .i64 X12_56, .int .i64 X13_56, .int .i64 X14_56, .int .i64 X15_56, .string X16_56, .string X17_56, .string X18_56, .slice Ao150 X19_56.length co150]] (by rfl) rfl rfl ap1 ?_; with_reducible refine (packhorseref11_Same.calls kj56 X0_56 X1_56 X2_56 X3_56 X4_56 X5_56 X6_56 X7_56 _ _ X8_56 X11_56 X12_56 X13_56 X14_56 X15_56 X16_56 X17_56 X18_56 _ _ X19_56 true _ ?side1 ?side2 ?side3 ?side4 A131.out).mono ?_
                    (case side1 => repeat (first | exact (Kd.V_reads' HO_280008.out).2.2 | (with_reducible refine Kd.C_alloc ?_ _) | (with_reducible refine Kd.C_drewN ?_ _) | (with_reducible refine Kd.C_drew ?_)))
                    (case side2 => exact (Kd.V_reads' HO_280008.out).2.1)
                    (case side3 => repeat (first | exact (Kd.V_reads' HO_285008.out).2.2 | (with_reducible refine Kd.C_alloc ?_ _) | (with_reducible refine Kd.C_drewN ?_ _) | (with_reducible refine Kd.C_drew ?_)))
                    (case side4 => exact (Kd.V_reads' HO_285008.out).2.1)
                    rintro e w151 ⟨rfl, hb⟩; refine ⟨_, rfl, ?_⟩; have n0_ := am (Kd.R_below (ru HO_10.out) hb); have n1_ := am (Kd.V_below (by (with_reducible repeat (first | apply Kd.V_alloc | apply Kd.V_drewN | apply Kd.V_drew)); exact HO_280008.out) hb); have n2_ := am (Kd.V_below (by (with_reducible repeat (first | apply Kd.V_alloc | apply Kd.V_drewN | apply Kd.V_drew)); exact HO_285008.out) hb); have n3_ := am (Kd.V_below (by (with_reducible repeat (first | apply Kd.V_alloc | apply Kd.V_drewN | apply Kd.V_drew)); exact HO_295008.out) hb); have n4_ := am (blk_below (bu BK279.out) hb); have n5_ := am (blk_below (bu BK280.out) hb); have n6_ := am (blk_below (bu BK284.out) hb); have n7_ := am (blk_below (bu BK286.out) hb); have n8_ := am (blk_below (bu BK294.out) hb); have n9_ := am (below_step (beu HB.out) hb); clear HO_10 HO_280008 HO_285008 HO_295008 BK279 BK280 BK284 BK286 BK294 HB; have HO_10 := n0_; have HO_280008 := n1_; have HO_285008 := n2_; have HO_295008 := n3_; have BK279 := n4_; have BK280 := n5_; have BK284 := n6_; have BK286 := n7_; have BK294 := n8_; have HB := n9_; clear n0_ n1_ n2_ n3_ n4_ n5_ n6_ n7_ n8_ n9_
                    (try clear hb)
                    (try clear hb2)
                    (try clear hk)
                    (try clear hi)
                    obtain ⟨Ao152, co152, eo152⟩ := Kd.R_slice HO_10.out
                    (first | subst eo152 | (injection eo152 with f1_ f2_ f3_; have f4_ := f1_.symm; have f5_ := f3_.symm; clear f1_ f2_ f3_; subst f4_; subst f5_))
                    refine hK.out _ _ ⟨(blk_cell BK279.out 0).trans rfl, (blk_cell BK279.out 1).trans rfl, (blk_cell BK279.out 2).trans rfl, (blk_cell BK279.out 3).trans rfl, (blk_cell BK279.out 4).trans rfl, (blk_cell BK279.out 5).trans rfl, (blk_cell BK279.out 6).trans rfl, (blk_cell BK279.out 7).trans rfl, (blk_cell BK279.out 8).trans rfl, (blk_cell BK284.out 0).trans rfl, (blk_cell BK284.out 1).trans rfl, (blk_cell BK284.out 2).trans rfl, (blk_cell BK284.out 3).trans rfl, (blk_cell BK284.out 4).trans rfl, (blk_cell BK284.out 5).trans rfl, (blk_cell BK284.out 6).trans rfl, (blk_cell BK284.out 7).trans rfl, (blk_cell BK284.out 8).trans rfl, (blk_cell BK294.out 0).trans rfl, (blk_cell BK294.out 1).trans rfl, (blk_cell BK294.out 2).trans rfl, (blk_cell BK294.out 3).trans rfl, (blk_cell BK294.out 4).trans rfl, (blk_cell BK294.out 5).trans rfl, (blk_cell BK294.out 6).trans rfl, (blk_cell BK294.out 7).trans rfl, (blk_cell BK294.out 8).trans rfl⟩ (fun hHeld => ?_); clear hK K; refine norm_ (a' := ?_) ?_ ?_; rotate_left
                    ·show Act.put _ (some 99) _ = _
                     simp only [Act.put, sA, sB, sC, i64_w, i32_w]
                     rfl
                    refine pure_ (i := 7) (N := some 100) (v := ?_) (a' := ?_) (bs 36 255) rfl rfl (ak HT_.out) (fun _ _ _ h => h) (Or.inl ⟨by rfl, ?_⟩) ?_ ?_; rotate_left
                    ·intro w'
                     go_simp
                     with_reducible rfl
                    rotate_left
                    ·simp only [Act.put, sA, sB, sC, i64_w, i32_w]
                     rfl
                    refine pure_ (i := 8) (N := some 101) (v := ?_) (a' := ?_) (bs 36 511) rfl rfl (ak HT_.out) (fun _ _ _ h => h) (Or.inl ⟨by rfl, ?_⟩) ?_ ?_; rotate_left
                    ·intro w'
                     go_simp
                     with_reducible rfl
                    rotate_left
                    ·simp only [Act.put, sA, sB, sC, i64_w, i32_w]
                     rfl
                    refine pure_ (i := 9) (N := some 102) (v := ?_) (a' := ?_) (bs 36 1023) rfl rfl (ak HT_.out) (fun _ _ _ h => h) (Or.inl ⟨by rfl, ?_⟩) ?_ ?_; rotate_left
                    ·intro w'
                     go_simp
                     with_reducible rfl
                    rotate_left
                    ·simp only [Act.put, sA, sB, sC, i64_w, i32_w]
                     rfl
                    refine pure_ (i := 10) (N := some 103) (v := ?_) (a' := ?_) (bs 36 2047) rfl rfl (ak HT_.out) (fun _ _ _ h => h) (Or.inl ⟨by rfl, ?_⟩) ?_ ?_; rotate_left
                    ·intro w'
                     go_simp
                     with_reducible rfl
                    rotate_left
                    ·simp only [Act.put, sA, sB, sC, i64_w, i32_w]
                     rfl
                    refine pure_ (i := 13) (N := some 106) (v := ?_) (a' := ?_) (bs 36 10239) rfl rfl (ak HT_.out) (fun _ _ _ h => h) (Or.inl ⟨by rfl, ?_⟩) ?_ ?_; rotate_left
                    ·intro w'
                     go_simp
                     with_reducible rfl
                    rotate_left
                    ·simp only [Act.put, sA, sB, sC, i64_w, i32_w]
                     rfl
                    refine pure_ (i := 14) (N := some 107) (v := ?_) (a' := ?_) (bs 36 26623) rfl rfl (ak HT_.out) (fun _ _ _ h => h) (Or.inl ⟨by rfl, ?_⟩) ?_ ?_; rotate_left
                    ·intro w'
                     go_simp
                     with_reducible rfl
                    rotate_left
                    ·simp only [Act.put, sA, sB, sC, i64_w, i32_w]
                     rfl
                    refine take_ (i := 11) (N := some 104) (v := ?_) (a' := ?_) (bs 36 28671) rfl rfl (take_ofW HT_.out HW_.out (by kernel_rfl)) (fun _ _ _ h => h) (Or.inl ⟨by rfl, ?_⟩) hHeld ?_ ?_; rotate_left
                    ·rintro w' ⟨s0, s1, s2, s3, s4, s5, s6, s7, s8, s9, s10, s11, s12, s13, s14, s15, s16, s17, s18, s19, s20, s21, s22, s23, s24, s25, s26⟩
                     go_simp
                     with_reducible rfl
                    rotate_left
                    ·simp only [Act.put, sA, sB, sC, i64_w, i32_w]
                     rfl
                    refine pure_ (i := 12) (N := some 105) (v := ?_) (a' := ?_) (bs 36 32767) rfl rfl (ak HT_.out) (fun _ _ _ h => h) (Or.inl ⟨by rfl, ?_⟩) ?_ ?_; rotate_left
                    ·intro w'
                     go_simp
                     with_reducible rfl
                    rotate_left
                    ·simp only [Act.put, sA, sB, sC, i64_w, i32_w]
                     rfl
                    refine pure_ (i := 15) (N := some 108) (v := ?_) (a' := ?_) (bs 36 65535) rfl rfl (ak HT_.out) (fun _ _ _ h => h) (Or.inl ⟨by rfl, ?_⟩) ?_ ?_; rotate_left
                    ·intro w'
                     go_simp
                     with_reducible rfl
                    rotate_left
                    ·simp only [Act.put, sA, sB, sC, i64_w, i32_w]
                     rfl
                    refine pure_ (i := 16) (N := some 109) (v := ?_) (a' := ?_) (bs 36 131071) rfl rfl (ak HT_.out) (fun _ _ _ h => h) (Or.inl ⟨by rfl, ?_⟩) ?_ ?_; rotate_left
                    ·intro w'
                     go_simp
                     with_reducible rfl
                    rotate_left
                    ·simp only [Act.put, sA, sB, sC, i64_w, i32_w]
                     rfl
                    refine pure_ (i := 17) (N := some 110) (v := ?_) (a' := ?_) (bs 36 262143) rfl rfl (ak HT_.out) (fun _ _ _ h => h) (Or.inl ⟨by rfl, ?_⟩) ?_ ?_; rotate_left
                    ·intro w'
                     go_simp
                     with_reducible rfl
                    rotate_left
                    ·simp only [Act.put, sA, sB, sC, i64_w, i32_w]
                     rfl
                    refine pure_ (i := 18) (N := some 111) (v := undef) (a' := ?_) (bs 36 524287) rfl rfl (ak HT_.out) (fun _ _ _ h => h) (Or.inr ⟨by rfl, rfl⟩) ?_ ?_; rotate_left
                    ·simp only [Act.put, sA, sB, sC, i64_w, i32_w]
                     rfl
                    refine pure_ (i := 19) (N := some 112) (v := undef) (a' := ?_) (bs 36 1048575) rfl rfl (ak HT_.out) (fun _ _ _ h => h) (Or.inr ⟨by rfl, rfl⟩) ?_ ?_; rotate_left
                    ·simp only [Act.put, sA, sB, sC, i64_w, i32_w]
                     rfl
                    refine pure_ (i := 20) (N := some 113) (v := undef) (a' := ?_) (bs 36 2097151) rfl rfl (ak HT_.out) (fun _ _ _ h => h) (Or.inr ⟨by rfl, rfl⟩) ?_ ?_; rotate_left
                    ·simp only [Act.put, sA, sB, sC, i64_w, i32_w]
                     rfl
                    refine pure_ (i := 21) (N := some 114) (v := undef) (a' := ?_) (bs 36 4194303) rfl rfl (ak HT_.out) (fun _ _ _ h => h) (Or.inr ⟨by rfl, rfl⟩) ?_ ?_; rotate_left
                    ·simp only [Act.put, sA, sB, sC, i64_w, i32_w]
                     rfl
                    refine pure_ (i := 22) (N := some 115) (v := undef) (a' := ?_) (bs 36 8388607) rfl rfl (ak HT_.out) (fun _ _ _ h => h) (Or.inr ⟨by rfl, rfl⟩) ?_ ?_; rotate_left
                    ·simp only [Act.put, sA, sB, sC, i64_w, i32_w]
                     rfl
                    refine pure_ (i := 23) (N := some 116) (v := undef) (a' := ?_) (bs 36 16777215) rfl rfl (ak HT_.out) (fun _ _ _ h => h) (Or.inr ⟨by rfl, rfl⟩) ?_ ?_; rotate_left
                    ·simp only [Act.put, sA, sB, sC, i64_w, i32_w]
                     rfl
                    refine pure_ (i := 24) (N := some 117) (v := undef) (a' := ?_) (bs 36 33554431) rfl rfl (ak HT_.out) (fun _ _ _ h => h) (Or.inr ⟨by rfl, rfl⟩) ?_ ?_; rotate_left
                    ·simp only [Act.put, sA, sB, sC, i64_w, i32_w]
                     rfl
                    refine pure_ (i := 25) (N := some 118) (v := undef) (a' := ?_) (bs 36 67108863) rfl rfl (ak HT_.out) (fun _ _ _ h => h) (Or.inr ⟨by rfl, rfl⟩) ?_ ?_; rotate_left
                    ·simp only [Act.put, sA, sB, sC, i64_w, i32_w]
                     rfl
                    refine pure_ (i := 26) (N := some 119) (v := undef) (a' := ?_) (bs 36 134217727) rfl rfl (ak HT_.out) (fun _ _ _ h => h) (Or.inr ⟨by rfl, rfl⟩) ?_ ?_; rotate_left
                    ·simp only [Act.put, sA, sB, sC, i64_w, i32_w]
                     rfl
                    refine pure_ (i := 27) (N := some 120) (v := undef) (a' := ?_) (bs 36 268435455) rfl rfl (ak HT_.out) (fun _ _ _ h => h) (Or.inr ⟨by rfl, rfl⟩) ?_ ?_; rotate_left
                    ·simp only [Act.put, sA, sB, sC, i64_w, i32_w]
                     rfl
                    refine pure_ (i := 28) (N := some 121) (v := undef) (a' := ?_) (bs 36 536870911) rfl rfl (ak HT_.out) (fun _ _ _ h => h) (Or.inr ⟨by rfl, rfl⟩) ?_ ?_; rotate_left
                    ·simp only [Act.put, sA, sB, sC, i64_w, i32_w]
                     rfl
                    refine pure_ (i := 29) (N := some 122) (v := undef) (a' := ?_) (bs 36 1073741823) rfl rfl (ak HT_.out) (fun _ _ _ h => h) (Or.inr ⟨by rfl, rfl⟩) ?_ ?_; rotate_left
                    ·simp only [Act.put, sA, sB, sC, i64_w, i32_w]
                     rfl
                    refine pure_ (i := 30) (N := some 123) (v := undef) (a' := ?_) (bs 36 2147483647) rfl rfl (ak HT_.out) (fun _ _ _ h => h) (Or.inr ⟨by rfl, rfl⟩) ?_ ?_; rotate_left
                    ·simp only [Act.put, sA, sB, sC, i64_w, i32_w]
                     rfl
                    refine pure_ (i := 31) (N := some 124) (v := undef) (a' := ?_) (bs 36 4294967295) rfl rfl (ak HT_.out) (fun _ _ _ h => h) (Or.inr ⟨by rfl, rfl⟩) ?_ ?_; rotate_left
                    ·simp only [Act.put, sA, sB, sC, i64_w, i32_w]
                     rfl
                    refine pure_ (i := 32) (N := some 125) (v := undef) (a' := ?_) (bs 36 8589934591) rfl rfl (ak HT_.out) (fun _ _ _ h => h) (Or.inr ⟨by rfl, rfl⟩) ?_ ?_; rotate_left
                    ·simp only [Act.put, sA, sB, sC, i64_w, i32_w]
                     rfl
                    refine pure_ (i := 33) (N := some 126) (v := undef) (a' := ?_) (bs 36 17179869183) rfl rfl (ak HT_.out) (fun _ _ _ h => h) (Or.inr ⟨by rfl, rfl⟩) ?_ ?_; rotate_left
                    ·simp only [Act.put, sA, sB, sC, i64_w, i32_w]
                     rfl
                    refine pure_ (i := 34) (N := some 127) (v := undef) (a' := ?_) (bs 36 34359738367) rfl rfl (ak HT_.out) (fun _ _ _ h => h) (Or.inr ⟨by rfl, rfl⟩) ?_ ?_; rotate_left
                    ·simp only [Act.put, sA, sB, sC, i64_w, i32_w]
                     rfl
                    refine pure_ (i := 35) (N := some 128) (v := ?_) (a' := ?_) (bs 36 68719476735) rfl rfl (ak HT_.out) (fun _ _ _ h => h) (Or.inl ⟨by rfl, ?_⟩) ?_ ?_; rotate_left
                    ·intro w'
                     go_simp
                     with_reducible rfl
                    rotate_left
                    ·simp only [Act.put, sA, sB, sC, i64_w, i32_w]
                     rfl
                    refine done_ (done_of HT_.out (by kernel_rfl)) ?_
                    try go_wp2
                    go_meet
                    case rel => exact ⟨_, (true), ap3, H', ⟨by have := HJ5.out; have := HK2.out; have := HJ37.out; have := HJ56.out; first | omega | exact Nat.le_refl _⟩, ⟨ru HO_10.out⟩, ⟨by (with_reducible repeat (first | apply Kd.V_alloc | apply Kd.V_drewN | apply Kd.V_drew)); exact HO_280008.out⟩, ⟨by (with_reducible repeat (first | apply Kd.V_alloc | apply Kd.V_drewN | apply Kd.V_drew)); exact HO_285008.out⟩, ⟨by (with_reducible repeat (first | apply Kd.V_alloc | apply Kd.V_drewN | apply Kd.V_drew)); exact HO_295008.out⟩, ⟨by refine bu ?_; exact BK279.out⟩, ⟨by refine bu ?_; exact BK280.out⟩, ⟨by refine bu ?_; exact BK284.out⟩, ⟨by refine bu ?_; exact BK286.out⟩, ⟨by refine bu ?_; exact BK294.out⟩, ⟨beu HB.out⟩⟩
                  ·replace c132 := Bool.eq_false_iff.mpr c132
                   subst c132
                   have H1 : (packhorselaw11_BatchRuns.j4 kj56 y291 l2 (l2.length : Int) x33_2 true X0_56 X1_56 X2_56 X3_56 X4_56 X5_56 X6_56 X7_56 X8_56 a1_0 a1_1 X11_56 X12_56 X13_56 X14_56 X15_56 X16_56 X17_56 X18_56 X19_56 X0_2 X1_2 X2_2 X3_2 X4_2 X5_2 X6_2 X7_2 X8_2) = some r := by rw [if_neg (show ¬ (false = true) by decide)] at H; exact H
                   clear H; have H := H1; clear H1; have H' := am H; clear H
                   try go_wp2
                   (try (rw [drewN_self wc]; generalize hq_ : World.drewN wc _ = wc; have _ := am (show Kd.R _ _ wc _ _ _ _ from by rw [← hq_]; exact Kd.R_drewN HO_10.out _); have _ := am (show Kd.V _ _ wc _ _ _ _ from by rw [← hq_]; exact Kd.V_drewN HO_280008.out _); have _ := am (show Kd.V _ _ wc _ _ _ _ from by rw [← hq_]; exact Kd.V_drewN HO_285008.out _); have _ := am (show Kd.V _ _ wc _ _ _ _ from by rw [← hq_]; exact Kd.V_drewN HO_295008.out _); have _ := am (blk_at hq_ BK279.out); have _ := am (blk_at hq_ BK280.out); have _ := am (blk_at hq_ BK284.out); have _ := am (blk_at hq_ BK286.out); have _ := am (blk_at hq_ BK294.out); have _ := am (below_at hq_ HB.out); clear hq_ HO_10 HO_280008 HO_285008 HO_295008 BK279 BK280 BK284 BK286 BK294 HB; rename_i HO_10 HO_280008 HO_285008 HO_295008 BK279 BK280 BK284 BK286 BK294 HB))
                   have n0_ := am (Kd.R_drew HO_10.out); have n1_ := am (Kd.V_drew HO_280008.out); have n2_ := am (Kd.V_drew HO_285008.out); have n3_ := am (Kd.V_drew HO_295008.out); have n4_ := am (blk_drew BK279.out); have n5_ := am (blk_drew BK280.out); have n6_ := am (blk_drew BK284.out); have n7_ := am (blk_drew BK286.out); have n8_ := am (blk_drew BK294.out); have n9_ := am (below_drew1 HB.out); clear HO_10 HO_280008 HO_285008 HO_295008 BK279 BK280 BK284 BK286 BK294 HB; have HO_10 := n0_; have HO_280008 := n1_; have HO_285008 := n2_; have HO_295008 := n3_; have BK279 := n4_; have BK280 := n5_; have BK284 := n6_; have BK286 := n7_; have BK294 := n8_; have HB := n9_; clear n0_ n1_ n2_ n3_ n4_ n5_ n6_ n7_ n8_ n9_; obtain ⟨Ao154, co154, eo154⟩ := Kd.V_slice HO_280008.out
                   (first | subst eo154 | (injection eo154 with f1_ f2_ f3_; have f4_ := f1_.symm; have f5_ := f3_.symm; clear f1_ f2_ f3_; subst f4_; subst f5_))
                   obtain ⟨Ao155, co155, eo155⟩ := Kd.V_slice HO_285008.out
                   (first | subst eo155 | (injection eo155 with f1_ f2_ f3_; have f4_ := f1_.symm; have f5_ := f3_.symm; clear f1_ f2_ f3_; subst f4_; subst f5_))
                   refine start_ (n := 36) (S := fun w' => w'.cell? ⟨gb279, 0, none⟩ = some (.int .i64 X0_56) ∧ w'.cell? ⟨gb279, 1, none⟩ = some (.int .i64 X1_56) ∧ w'.cell? ⟨gb279, 2, none⟩ = some (.int .i64 X2_56) ∧ w'.cell? ⟨gb279, 3, none⟩ = some (.int .i64 X3_56) ∧ w'.cell? ⟨gb279, 4, none⟩ = some (.int .i64 X4_56) ∧ w'.cell? ⟨gb279, 5, none⟩ = some (.string X5_56) ∧ w'.cell? ⟨gb279, 6, none⟩ = some (.string X6_56) ∧ w'.cell? ⟨gb279, 7, none⟩ = some (.string X7_56) ∧ w'.cell? ⟨gb279, 8, none⟩ = some (.slice Ao154 X8_56.length co154) ∧ w'.cell? ⟨gb284, 0, none⟩ = some (.int .i64 X11_56) ∧ w'.cell? ⟨gb284, 1, none⟩ = some (.int .i64 X12_56) ∧ w'.cell? ⟨gb284, 2, none⟩ = some (.int .i64 X13_56) ∧ w'.cell? ⟨gb284, 3, none⟩ = some (.int .i64 X14_56) ∧ w'.cell? ⟨gb284, 4, none⟩ = some (.int .i64 X15_56) ∧ w'.cell? ⟨gb284, 5, none⟩ = some (.string X16_56) ∧ w'.cell? ⟨gb284, 6, none⟩ = some (.string X17_56) ∧ w'.cell? ⟨gb284, 7, none⟩ = some (.string X18_56) ∧ w'.cell? ⟨gb284, 8, none⟩ = some (.slice Ao155 X19_56.length co155)) (ds := []) #[false, false, false, false, false, false, false, false, false, false, false, false, false, false, false, false, false, false, false, false, false, false, false, false, false, false, false, false, false, false, false, false, false, false, false, false] (by kernel_rfl) rfl rfl ⟨(blk_cell BK279.out 0).trans rfl, (blk_cell BK279.out 1).trans rfl, (blk_cell BK279.out 2).trans rfl, (blk_cell BK279.out 3).trans rfl, (blk_cell BK279.out 4).trans rfl, (blk_cell BK279.out 5).trans rfl, (blk_cell BK279.out 6).trans rfl, (blk_cell BK279.out 7).trans rfl, (blk_cell BK279.out 8).trans rfl, (blk_cell BK284.out 0).trans rfl, (blk_cell BK284.out 1).trans rfl, (blk_cell BK284.out 2).trans rfl, (blk_cell BK284.out 3).trans rfl, (blk_cell BK284.out 4).trans rfl, (blk_cell BK284.out 5).trans rfl, (blk_cell BK284.out 6).trans rfl, (blk_cell BK284.out 7).trans rfl, (blk_cell BK284.out 8).trans rfl⟩ (fun hHeld => ?_); refine with_tabW packhorselaw11_BatchRuns.tab19 packhorselaw11_BatchRuns.bits19 (fun HT_ HW_ => ?_)
                   generalize wc.drew = w153 at HO_10 HO_280008 HO_285008 HO_295008 BK279 BK280 BK284 BK286 BK294 HB hHeld ⊢; refine pure_ (i := 0) (N := some 93) (v := ?_) (a' := ?_) (bs 36 1) rfl rfl (ak HT_.out) (fun _ _ _ h => h) (Or.inl ⟨by rfl, ?_⟩) ?_ ?_; rotate_left
                   ·intro w'
                    go_simp
                    with_reducible rfl
                   rotate_left
                   ·simp only [Act.put, sA, sB, sC, i64_w, i32_w]
                    rfl
                   refine pure_ (i := 1) (N := some 94) (v := ?_) (a' := ?_) (bs 36 3) rfl rfl (ak HT_.out) (fun _ _ _ h => h) (Or.inl ⟨by rfl, ?_⟩) ?_ ?_; rotate_left
                   ·intro w'
                    go_simp
                    with_reducible rfl
                   rotate_left
                   ·simp only [Act.put, sA, sB, sC, i64_w, i32_w]
                    rfl
                   refine pure_ (i := 2) (N := some 95) (v := ?_) (a' := ?_) (bs 36 7) rfl rfl (ak HT_.out) (fun _ _ _ h => h) (Or.inl ⟨by rfl, ?_⟩) ?_ ?_; rotate_left
                   ·intro w'
                    go_simp
                    with_reducible rfl
                   rotate_left
                   ·simp only [Act.put, sA, sB, sC, i64_w, i32_w]
                    rfl
                   refine pure_ (i := 3) (N := some 96) (v := ?_) (a' := ?_) (bs 36 15) rfl rfl (ak HT_.out) (fun _ _ _ h => h) (Or.inl ⟨by rfl, ?_⟩) ?_ ?_; rotate_left
                   ·intro w'
                    go_simp
                    with_reducible rfl
                   rotate_left
                   ·simp only [Act.put, sA, sB, sC, i64_w, i32_w]
                    rfl
                   refine take_ (i := 4) (N := some 97) (v := ?_) (a' := ?_) (bs 36 31) rfl rfl (take_ofW HT_.out HW_.out (by kernel_rfl)) (fun _ _ _ h => h) (Or.inl ⟨by rfl, ?_⟩) hHeld ?_ ?_; rotate_left
                   ·rintro w' ⟨s0, s1, s2, s3, s4, s5, s6, s7, s8, s9, s10, s11, s12, s13, s14, s15, s16, s17⟩
                    go_simp
                    with_reducible rfl
                   rotate_left
                   ·simp only [Act.put, sA, sB, sC, i64_w, i32_w]
                    rfl
                   refine take_ (i := 5) (N := some 98) (v := ?_) (a' := ?_) (bs 36 63) rfl rfl (take_ofW HT_.out HW_.out (by kernel_rfl)) (fun _ _ _ h => h) (Or.inl ⟨by rfl, ?_⟩) hHeld ?_ ?_; rotate_left
                   ·rintro w' ⟨s0, s1, s2, s3, s4, s5, s6, s7, s8, s9, s10, s11, s12, s13, s14, s15, s16, s17⟩
                    go_simp
                    with_reducible rfl
                   rotate_left
                   ·simp only [Act.put, sA, sB, sC, i64_w, i32_w]
                    rfl
                   refine one_ (i := 6) (N := some 99) (bs 36 127) rfl rfl (one_of HT_.out (by kernel_rfl)) (by decide) (fun K hK => ?_); refine goes_ Tryd.func19 (by kernel_rfl) rfl #[.agg #[.int .i64 X0_56, .int .i64 X1_56, .int .i64 X2_56, .int .i64 X3_56, .int .i64 X4_56, .string X5_56, .string X6_56, .string X7_56, .slice Ao154 X8_56.length co154], .agg #[.int .i64 X11_56, .int .i64 X12_56, .int .i64 X13_56, .int .i64 X14_56, .int .i64 X15_56, .string X16_56, .string X17_56, .string X18_56, .slice Ao155 X19_56.length co155]] (by rfl) rfl rfl ap1 ?_; with_reducible refine (packhorseref11_Same.calls kj56 X0_56 X1_56 X2_56 X3_56 X4_56 X5_56 X6_56 X7_56 _ _ X8_56 X11_56 X12_56 X13_56 X14_56 X15_56 X16_56 X17_56 X18_56 _ _ X19_56 false _ ?side1 ?side2 ?side3 ?side4 A131.out).mono ?_
                   (case side1 => repeat (first | exact (Kd.V_reads' HO_280008.out).2.2 | (with_reducible refine Kd.C_alloc ?_ _) | (with_reducible refine Kd.C_drewN ?_ _) | (with_reducible refine Kd.C_drew ?_)))
                   (case side2 => exact (Kd.V_reads' HO_280008.out).2.1)
                   (case side3 => repeat (first | exact (Kd.V_reads' HO_285008.out).2.2 | (with_reducible refine Kd.C_alloc ?_ _) | (with_reducible refine Kd.C_drewN ?_ _) | (with_reducible refine Kd.C_drew ?_)))
                   (case side4 => exact (Kd.V_reads' HO_285008.out).2.1)
                   rintro e w156 ⟨rfl, hb⟩; refine ⟨_, rfl, ?_⟩; have n0_ := am (Kd.R_below (ru HO_10.out) hb); have n1_ := am (Kd.V_below (by (with_reducible repeat (first | apply Kd.V_alloc | apply Kd.V_drewN | apply Kd.V_drew)); exact HO_280008.out) hb); have n2_ := am (Kd.V_below (by (with_reducible repeat (first | apply Kd.V_alloc | apply Kd.V_drewN | apply Kd.V_drew)); exact HO_285008.out) hb); have n3_ := am (Kd.V_below (by (with_reducible repeat (first | apply Kd.V_alloc | apply Kd.V_drewN | apply Kd.V_drew)); exact HO_295008.out) hb); have n4_ := am (blk_below (bu BK279.out) hb); have n5_ := am (blk_below (bu BK280.out) hb); have n6_ := am (blk_below (bu BK284.out) hb); have n7_ := am (blk_below (bu BK286.out) hb); have n8_ := am (blk_below (bu BK294.out) hb); have n9_ := am (below_step (beu HB.out) hb); clear HO_10 HO_280008 HO_285008 HO_295008 BK279 BK280 BK284 BK286 BK294 HB; have HO_10 := n0_; have HO_280008 := n1_; have HO_285008 := n2_; have HO_295008 := n3_; have BK279 := n4_; have BK280 := n5_; have BK284 := n6_; have BK286 := n7_; have BK294 := n8_; have HB := n9_; clear n0_ n1_ n2_ n3_ n4_ n5_ n6_ n7_ n8_ n9_
                   (try clear hb)
                   (try clear hb2)
                   (try clear hk)
                   (try clear hi)
                   refine hK.out _ _ ⟨(blk_cell BK279.out 0).trans rfl, (blk_cell BK279.out 1).trans rfl, (blk_cell BK279.out 2).trans rfl, (blk_cell BK279.out 3).trans rfl, (blk_cell BK279.out 4).trans rfl, (blk_cell BK279.out 5).trans rfl, (blk_cell BK279.out 6).trans rfl, (blk_cell BK279.out 7).trans rfl, (blk_cell BK279.out 8).trans rfl, (blk_cell BK284.out 0).trans rfl, (blk_cell BK284.out 1).trans rfl, (blk_cell BK284.out 2).trans rfl, (blk_cell BK284.out 3).trans rfl, (blk_cell BK284.out 4).trans rfl, (blk_cell BK284.out 5).trans rfl, (blk_cell BK284.out 6).trans rfl, (blk_cell BK284.out 7).trans rfl, (blk_cell BK284.out 8).trans rfl⟩ (fun hHeld => ?_); clear hK K; refine norm_ (a' := ?_) ?_ ?_; rotate_left
                   ·show Act.put _ (some 99) _ = _
                    simp only [Act.put, sA, sB, sC, i64_w, i32_w]
                    rfl
                   refine pure_ (i := 7) (N := some 100) (v := ?_) (a' := ?_) (bs 36 255) rfl rfl (ak HT_.out) (fun _ _ _ h => h) (Or.inl ⟨by rfl, ?_⟩) ?_ ?_; rotate_left
                   ·intro w'
                    go_simp
                    with_reducible rfl
                   rotate_left
                   ·simp only [Act.put, sA, sB, sC, i64_w, i32_w]
                    rfl
                   refine pure_ (i := 8) (N := some 101) (v := ?_) (a' := ?_) (bs 36 511) rfl rfl (ak HT_.out) (fun _ _ _ h => h) (Or.inl ⟨by rfl, ?_⟩) ?_ ?_; rotate_left
                   ·intro w'
                    go_simp
                    with_reducible rfl
                   rotate_left
                   ·simp only [Act.put, sA, sB, sC, i64_w, i32_w]
                    rfl
                   refine pure_ (i := 9) (N := some 102) (v := ?_) (a' := ?_) (bs 36 1023) rfl rfl (ak HT_.out) (fun _ _ _ h => h) (Or.inl ⟨by rfl, ?_⟩) ?_ ?_; rotate_left
                   ·intro w'
                    go_simp
                    with_reducible rfl
                   rotate_left
                   ·simp only [Act.put, sA, sB, sC, i64_w, i32_w]
                    rfl
                   refine pure_ (i := 10) (N := some 103) (v := undef) (a' := ?_) (bs 36 2047) rfl rfl (ak HT_.out) (fun _ _ _ h => h) (Or.inr ⟨by rfl, rfl⟩) ?_ ?_; rotate_left
                   ·simp only [Act.put, sA, sB, sC, i64_w, i32_w]
                    rfl
                   refine pure_ (i := 11) (N := some 104) (v := undef) (a' := ?_) (bs 36 4095) rfl rfl (ak HT_.out) (fun _ _ _ h => h) (Or.inr ⟨by rfl, rfl⟩) ?_ ?_; rotate_left
                   ·simp only [Act.put, sA, sB, sC, i64_w, i32_w]
                    rfl
                   refine pure_ (i := 12) (N := some 105) (v := undef) (a' := ?_) (bs 36 8191) rfl rfl (ak HT_.out) (fun _ _ _ h => h) (Or.inr ⟨by rfl, rfl⟩) ?_ ?_; rotate_left
                   ·simp only [Act.put, sA, sB, sC, i64_w, i32_w]
                    rfl
                   refine pure_ (i := 13) (N := some 106) (v := undef) (a' := ?_) (bs 36 16383) rfl rfl (ak HT_.out) (fun _ _ _ h => h) (Or.inr ⟨by rfl, rfl⟩) ?_ ?_; rotate_left
                   ·simp only [Act.put, sA, sB, sC, i64_w, i32_w]
                    rfl
                   refine pure_ (i := 14) (N := some 107) (v := undef) (a' := ?_) (bs 36 32767) rfl rfl (ak HT_.out) (fun _ _ _ h => h) (Or.inr ⟨by rfl, rfl⟩) ?_ ?_; rotate_left
                   ·simp only [Act.put, sA, sB, sC, i64_w, i32_w]
                    rfl
                   refine pure_ (i := 15) (N := some 108) (v := undef) (a' := ?_) (bs 36 65535) rfl rfl (ak HT_.out) (fun _ _ _ h => h) (Or.inr ⟨by rfl, rfl⟩) ?_ ?_; rotate_left
                   ·simp only [Act.put, sA, sB, sC, i64_w, i32_w]
                    rfl
                   refine pure_ (i := 16) (N := some 109) (v := ?_) (a' := ?_) (bs 36 131071) rfl rfl (ak HT_.out) (fun _ _ _ h => h) (Or.inl ⟨by rfl, ?_⟩) ?_ ?_; rotate_left
                   ·intro w'
                    go_simp
                    with_reducible rfl
                   rotate_left
                   ·simp only [Act.put, sA, sB, sC, i64_w, i32_w]
                    rfl
                   refine pure_ (i := 17) (N := some 110) (v := ?_) (a' := ?_) (bs 36 262143) rfl rfl (ak HT_.out) (fun _ _ _ h => h) (Or.inl ⟨by rfl, ?_⟩) ?_ ?_; rotate_left
                   ·intro w'
                    go_simp
                    with_reducible rfl
                   rotate_left
                   ·simp only [Act.put, sA, sB, sC, i64_w, i32_w]
                    rfl
                   refine pure_ (i := 18) (N := some 111) (v := undef) (a' := ?_) (bs 36 524287) rfl rfl (ak HT_.out) (fun _ _ _ h => h) (Or.inr ⟨by rfl, rfl⟩) ?_ ?_; rotate_left
                   ·simp only [Act.put, sA, sB, sC, i64_w, i32_w]
                    rfl
                   refine pure_ (i := 19) (N := some 112) (v := undef) (a' := ?_) (bs 36 1048575) rfl rfl (ak HT_.out) (fun _ _ _ h => h) (Or.inr ⟨by rfl, rfl⟩) ?_ ?_; rotate_left
                   ·simp only [Act.put, sA, sB, sC, i64_w, i32_w]
                    rfl
                   refine pure_ (i := 20) (N := some 113) (v := undef) (a' := ?_) (bs 36 2097151) rfl rfl (ak HT_.out) (fun _ _ _ h => h) (Or.inr ⟨by rfl, rfl⟩) ?_ ?_; rotate_left
                   ·simp only [Act.put, sA, sB, sC, i64_w, i32_w]
                    rfl
                   refine pure_ (i := 21) (N := some 114) (v := undef) (a' := ?_) (bs 36 4194303) rfl rfl (ak HT_.out) (fun _ _ _ h => h) (Or.inr ⟨by rfl, rfl⟩) ?_ ?_; rotate_left
                   ·simp only [Act.put, sA, sB, sC, i64_w, i32_w]
                    rfl
                   refine pure_ (i := 22) (N := some 115) (v := undef) (a' := ?_) (bs 36 8388607) rfl rfl (ak HT_.out) (fun _ _ _ h => h) (Or.inr ⟨by rfl, rfl⟩) ?_ ?_; rotate_left
                   ·simp only [Act.put, sA, sB, sC, i64_w, i32_w]
                    rfl
                   refine pure_ (i := 23) (N := some 116) (v := undef) (a' := ?_) (bs 36 16777215) rfl rfl (ak HT_.out) (fun _ _ _ h => h) (Or.inr ⟨by rfl, rfl⟩) ?_ ?_; rotate_left
                   ·simp only [Act.put, sA, sB, sC, i64_w, i32_w]
                    rfl
                   refine pure_ (i := 24) (N := some 117) (v := undef) (a' := ?_) (bs 36 33554431) rfl rfl (ak HT_.out) (fun _ _ _ h => h) (Or.inr ⟨by rfl, rfl⟩) ?_ ?_; rotate_left
                   ·simp only [Act.put, sA, sB, sC, i64_w, i32_w]
                    rfl
                   refine pure_ (i := 25) (N := some 118) (v := undef) (a' := ?_) (bs 36 67108863) rfl rfl (ak HT_.out) (fun _ _ _ h => h) (Or.inr ⟨by rfl, rfl⟩) ?_ ?_; rotate_left
                   ·simp only [Act.put, sA, sB, sC, i64_w, i32_w]
                    rfl
                   refine pure_ (i := 26) (N := some 119) (v := undef) (a' := ?_) (bs 36 134217727) rfl rfl (ak HT_.out) (fun _ _ _ h => h) (Or.inr ⟨by rfl, rfl⟩) ?_ ?_; rotate_left
                   ·simp only [Act.put, sA, sB, sC, i64_w, i32_w]
                    rfl
                   refine pure_ (i := 27) (N := some 120) (v := undef) (a' := ?_) (bs 36 268435455) rfl rfl (ak HT_.out) (fun _ _ _ h => h) (Or.inr ⟨by rfl, rfl⟩) ?_ ?_; rotate_left
                   ·simp only [Act.put, sA, sB, sC, i64_w, i32_w]
                    rfl
                   refine pure_ (i := 28) (N := some 121) (v := undef) (a' := ?_) (bs 36 536870911) rfl rfl (ak HT_.out) (fun _ _ _ h => h) (Or.inr ⟨by rfl, rfl⟩) ?_ ?_; rotate_left
                   ·simp only [Act.put, sA, sB, sC, i64_w, i32_w]
                    rfl
                   refine pure_ (i := 29) (N := some 122) (v := undef) (a' := ?_) (bs 36 1073741823) rfl rfl (ak HT_.out) (fun _ _ _ h => h) (Or.inr ⟨by rfl, rfl⟩) ?_ ?_; rotate_left
                   ·simp only [Act.put, sA, sB, sC, i64_w, i32_w]
                    rfl
                   refine pure_ (i := 30) (N := some 123) (v := undef) (a' := ?_) (bs 36 2147483647) rfl rfl (ak HT_.out) (fun _ _ _ h => h) (Or.inr ⟨by rfl, rfl⟩) ?_ ?_; rotate_left
                   ·simp only [Act.put, sA, sB, sC, i64_w, i32_w]
                    rfl
                   refine pure_ (i := 31) (N := some 124) (v := undef) (a' := ?_) (bs 36 4294967295) rfl rfl (ak HT_.out) (fun _ _ _ h => h) (Or.inr ⟨by rfl, rfl⟩) ?_ ?_; rotate_left
                   ·simp only [Act.put, sA, sB, sC, i64_w, i32_w]
                    rfl
                   refine pure_ (i := 32) (N := some 125) (v := undef) (a' := ?_) (bs 36 8589934591) rfl rfl (ak HT_.out) (fun _ _ _ h => h) (Or.inr ⟨by rfl, rfl⟩) ?_ ?_; rotate_left
                   ·simp only [Act.put, sA, sB, sC, i64_w, i32_w]
                    rfl
                   refine pure_ (i := 33) (N := some 126) (v := undef) (a' := ?_) (bs 36 17179869183) rfl rfl (ak HT_.out) (fun _ _ _ h => h) (Or.inr ⟨by rfl, rfl⟩) ?_ ?_; rotate_left
                   ·simp only [Act.put, sA, sB, sC, i64_w, i32_w]
                    rfl
                   refine pure_ (i := 34) (N := some 127) (v := undef) (a' := ?_) (bs 36 34359738367) rfl rfl (ak HT_.out) (fun _ _ _ h => h) (Or.inr ⟨by rfl, rfl⟩) ?_ ?_; rotate_left
                   ·simp only [Act.put, sA, sB, sC, i64_w, i32_w]
                    rfl
                   refine pure_ (i := 35) (N := some 128) (v := ?_) (a' := ?_) (bs 36 68719476735) rfl rfl (ak HT_.out) (fun _ _ _ h => h) (Or.inl ⟨by rfl, ?_⟩) ?_ ?_; rotate_left
                   ·intro w'
                    go_simp
                    with_reducible rfl
                   rotate_left
                   ·simp only [Act.put, sA, sB, sC, i64_w, i32_w]
                    rfl
                   refine done_ (done_of HT_.out (by kernel_rfl)) ?_
                   try go_wp2
                   go_meet
                   case rel => exact ⟨_, (true), ap3, H', ⟨by have := HJ5.out; have := HK2.out; have := HJ37.out; have := HJ56.out; first | omega | exact Nat.le_refl _⟩, ⟨ru HO_10.out⟩, ⟨by (with_reducible repeat (first | apply Kd.V_alloc | apply Kd.V_drewN | apply Kd.V_drew)); exact HO_280008.out⟩, ⟨by (with_reducible repeat (first | apply Kd.V_alloc | apply Kd.V_drewN | apply Kd.V_drew)); exact HO_285008.out⟩, ⟨by (with_reducible repeat (first | apply Kd.V_alloc | apply Kd.V_drewN | apply Kd.V_drew)); exact HO_295008.out⟩, ⟨by refine bu ?_; exact BK279.out⟩, ⟨by refine bu ?_; exact BK280.out⟩, ⟨by refine bu ?_; exact BK284.out⟩, ⟨by refine bu ?_; exact BK286.out⟩, ⟨by refine bu ?_; exact BK294.out⟩, ⟨beu HB.out⟩⟩
                 ·rw [if_neg c130] at H
                  have c130b0 : (x12_56 == x13_56) = false := beq_eq_false_iff_ne.mpr c130; have c130b1 : (x12_56 != x13_56) = true := bne_iff_ne.mpr c130
                  (first | rw [c130b0] | (simp only [i64_w, i32_w]; rw [c130b0]) | skip)
                  have H' := am H; clear H
                  try go_wp2
                  (try (rw [drewN_self wc]; generalize hq_ : World.drewN wc _ = wc; have _ := am (show Kd.R _ _ wc _ _ _ _ from by rw [← hq_]; exact Kd.R_drewN HO_10.out _); have _ := am (show Kd.V _ _ wc _ _ _ _ from by rw [← hq_]; exact Kd.V_drewN HO_280008.out _); have _ := am (show Kd.V _ _ wc _ _ _ _ from by rw [← hq_]; exact Kd.V_drewN HO_285008.out _); have _ := am (show Kd.V _ _ wc _ _ _ _ from by rw [← hq_]; exact Kd.V_drewN HO_295008.out _); have _ := am (blk_at hq_ BK279.out); have _ := am (blk_at hq_ BK280.out); have _ := am (blk_at hq_ BK284.out); have _ := am (blk_at hq_ BK286.out); have _ := am (blk_at hq_ BK294.out); have _ := am (below_at hq_ HB.out); clear hq_ HO_10 HO_280008 HO_285008 HO_295008 BK279 BK280 BK284 BK286 BK294 HB; rename_i HO_10 HO_280008 HO_285008 HO_295008 BK279 BK280 BK284 BK286 BK294 HB))
                  have n0_ := am (Kd.R_drew HO_10.out); have n1_ := am (Kd.V_drew HO_280008.out); have n2_ := am (Kd.V_drew HO_285008.out); have n3_ := am (Kd.V_drew HO_295008.out); have n4_ := am (blk_drew BK279.out); have n5_ := am (blk_drew BK280.out); have n6_ := am (blk_drew BK284.out); have n7_ := am (blk_drew BK286.out); have n8_ := am (blk_drew BK294.out); have n9_ := am (below_drew1 HB.out); clear HO_10 HO_280008 HO_285008 HO_295008 BK279 BK280 BK284 BK286 BK294 HB; have HO_10 := n0_; have HO_280008 := n1_; have HO_285008 := n2_; have HO_295008 := n3_; have BK279 := n4_; have BK280 := n5_; have BK284 := n6_; have BK286 := n7_; have BK294 := n8_; have HB := n9_; clear n0_ n1_ n2_ n3_ n4_ n5_ n6_ n7_ n8_ n9_
                  refine start_ (n := 36) (S := fun w' => True) (ds := []) #[false, false, false, false, false, false, false, false, false, false, false, false, false, false, false, false, false, false, false, false, false, false, false, false, false, false, false, false, false, false, false, false, false, false, false, false] (by kernel_rfl) rfl rfl trivial (fun hHeld => ?_); refine with_tabW packhorselaw11_BatchRuns.tab19 packhorselaw11_BatchRuns.bits19 (fun HT_ HW_ => ?_)
                  generalize wc.drew = w157 at HO_10 HO_280008 HO_285008 HO_295008 BK279 BK280 BK284 BK286 BK294 HB hHeld ⊢; refine pure_ (i := 0) (N := some 93) (v := ?_) (a' := ?_) (bs 36 1) rfl rfl (ak HT_.out) (fun _ _ _ h => h) (Or.inl ⟨by rfl, ?_⟩) ?_ ?_; rotate_left
                  ·intro w'
                   go_simp
                   with_reducible rfl
                  rotate_left
                  ·simp only [Act.put, sA, sB, sC, i64_w, i32_w]
                   rfl
                  refine pure_ (i := 1) (N := some 94) (v := ?_) (a' := ?_) (bs 36 3) rfl rfl (ak HT_.out) (fun _ _ _ h => h) (Or.inl ⟨by rfl, ?_⟩) ?_ ?_; rotate_left
                  ·intro w'
                   go_simp
                   with_reducible rfl
                  rotate_left
                  ·simp only [Act.put, sA, sB, sC, i64_w, i32_w]
                   rfl
                  refine pure_ (i := 2) (N := some 95) (v := ?_) (a' := ?_) (bs 36 7) rfl rfl (ak HT_.out) (fun _ _ _ h => h) (Or.inl ⟨by rfl, ?_⟩) ?_ ?_; rotate_left
                  ·intro w'
                   go_simp
                   with_reducible rfl
                  rotate_left
                  ·simp only [Act.put, sA, sB, sC, i64_w, i32_w]
                   rfl
                  refine pure_ (i := 3) (N := some 96) (v := ?_) (a' := ?_) (bs 36 15) rfl rfl (ak HT_.out) (fun _ _ _ h => h) (Or.inl ⟨by rfl, ?_⟩) ?_ ?_; rotate_left
                  ·intro w'
                   go_simp
                   with_reducible rfl
                  rotate_left
                  ·simp only [Act.put, sA, sB, sC, i64_w, i32_w]
                   rfl
                  refine pure_ (i := 4) (N := some 97) (v := undef) (a' := ?_) (bs 36 31) rfl rfl (ak HT_.out) (fun _ _ _ h => h) (Or.inr ⟨by rfl, rfl⟩) ?_ ?_; rotate_left
                  ·simp only [Act.put, sA, sB, sC, i64_w, i32_w]
                   rfl
                  refine pure_ (i := 5) (N := some 98) (v := undef) (a' := ?_) (bs 36 63) rfl rfl (ak HT_.out) (fun _ _ _ h => h) (Or.inr ⟨by rfl, rfl⟩) ?_ ?_; rotate_left
                  ·simp only [Act.put, sA, sB, sC, i64_w, i32_w]
                   rfl
                  refine pure_ (i := 6) (N := some 99) (v := undef) (a' := ?_) (bs 36 127) rfl rfl (ak HT_.out) (fun _ _ _ h => h) (Or.inr ⟨by rfl, rfl⟩) ?_ ?_; rotate_left
                  ·simp only [Act.put, sA, sB, sC, i64_w, i32_w]
                   rfl
                  refine pure_ (i := 7) (N := some 100) (v := undef) (a' := ?_) (bs 36 255) rfl rfl (ak HT_.out) (fun _ _ _ h => h) (Or.inr ⟨by rfl, rfl⟩) ?_ ?_; rotate_left
                  ·simp only [Act.put, sA, sB, sC, i64_w, i32_w]
                   rfl
                  refine pure_ (i := 8) (N := some 101) (v := ?_) (a' := ?_) (bs 36 511) rfl rfl (ak HT_.out) (fun _ _ _ h => h) (Or.inl ⟨by rfl, ?_⟩) ?_ ?_; rotate_left
                  ·intro w'
                   go_simp
                   with_reducible rfl
                  rotate_left
                  ·simp only [Act.put, sA, sB, sC, i64_w, i32_w]
                   rfl
                  refine pure_ (i := 9) (N := some 102) (v := ?_) (a' := ?_) (bs 36 1023) rfl rfl (ak HT_.out) (fun _ _ _ h => h) (Or.inl ⟨by rfl, ?_⟩) ?_ ?_; rotate_left
                  ·intro w'
                   go_simp
                   with_reducible rfl
                  rotate_left
                  ·simp only [Act.put, sA, sB, sC, i64_w, i32_w]
                   rfl
                  refine pure_ (i := 10) (N := some 103) (v := undef) (a' := ?_) (bs 36 2047) rfl rfl (ak HT_.out) (fun _ _ _ h => h) (Or.inr ⟨by rfl, rfl⟩) ?_ ?_; rotate_left
                  ·simp only [Act.put, sA, sB, sC, i64_w, i32_w]
                   rfl
                  refine pure_ (i := 11) (N := some 104) (v := undef) (a' := ?_) (bs 36 4095) rfl rfl (ak HT_.out) (fun _ _ _ h => h) (Or.inr ⟨by rfl, rfl⟩) ?_ ?_; rotate_left
                  ·simp only [Act.put, sA, sB, sC, i64_w, i32_w]
                   rfl
                  refine pure_ (i := 12) (N := some 105) (v := undef) (a' := ?_) (bs 36 8191) rfl rfl (ak HT_.out) (fun _ _ _ h => h) (Or.inr ⟨by rfl, rfl⟩) ?_ ?_; rotate_left
                  ·simp only [Act.put, sA, sB, sC, i64_w, i32_w]
                   rfl
                  refine pure_ (i := 13) (N := some 106) (v := undef) (a' := ?_) (bs 36 16383) rfl rfl (ak HT_.out) (fun _ _ _ h => h) (Or.inr ⟨by rfl, rfl⟩) ?_ ?_; rotate_left
                  ·simp only [Act.put, sA, sB, sC, i64_w, i32_w]
                   rfl
                  refine pure_ (i := 14) (N := some 107) (v := undef) (a' := ?_) (bs 36 32767) rfl rfl (ak HT_.out) (fun _ _ _ h => h) (Or.inr ⟨by rfl, rfl⟩) ?_ ?_; rotate_left
                  ·simp only [Act.put, sA, sB, sC, i64_w, i32_w]
                   rfl
                  refine pure_ (i := 15) (N := some 108) (v := undef) (a' := ?_) (bs 36 65535) rfl rfl (ak HT_.out) (fun _ _ _ h => h) (Or.inr ⟨by rfl, rfl⟩) ?_ ?_; rotate_left
                  ·simp only [Act.put, sA, sB, sC, i64_w, i32_w]
                   rfl
                  refine pure_ (i := 16) (N := some 109) (v := ?_) (a' := ?_) (bs 36 131071) rfl rfl (ak HT_.out) (fun _ _ _ h => h) (Or.inl ⟨by rfl, ?_⟩) ?_ ?_; rotate_left
                  ·intro w'
                   go_simp
                   with_reducible rfl
                  rotate_left
                  ·simp only [Act.put, sA, sB, sC, i64_w, i32_w]
                   rfl
                  refine pure_ (i := 17) (N := some 110) (v := ?_) (a' := ?_) (bs 36 262143) rfl rfl (ak HT_.out) (fun _ _ _ h => h) (Or.inl ⟨by rfl, ?_⟩) ?_ ?_; rotate_left
                  ·intro w'
                   go_simp
                   with_reducible rfl
                  rotate_left
                  ·simp only [Act.put, sA, sB, sC, i64_w, i32_w]
                   rfl
                  refine pure_ (i := 18) (N := some 111) (v := undef) (a' := ?_) (bs 36 524287) rfl rfl (ak HT_.out) (fun _ _ _ h => h) (Or.inr ⟨by rfl, rfl⟩) ?_ ?_; rotate_left
                  ·simp only [Act.put, sA, sB, sC, i64_w, i32_w]
                   rfl
                  refine pure_ (i := 19) (N := some 112) (v := undef) (a' := ?_) (bs 36 1048575) rfl rfl (ak HT_.out) (fun _ _ _ h => h) (Or.inr ⟨by rfl, rfl⟩) ?_ ?_; rotate_left
                  ·simp only [Act.put, sA, sB, sC, i64_w, i32_w]
                   rfl
                  refine pure_ (i := 20) (N := some 113) (v := undef) (a' := ?_) (bs 36 2097151) rfl rfl (ak HT_.out) (fun _ _ _ h => h) (Or.inr ⟨by rfl, rfl⟩) ?_ ?_; rotate_left
                  ·simp only [Act.put, sA, sB, sC, i64_w, i32_w]
                   rfl
                  refine pure_ (i := 21) (N := some 114) (v := undef) (a' := ?_) (bs 36 4194303) rfl rfl (ak HT_.out) (fun _ _ _ h => h) (Or.inr ⟨by rfl, rfl⟩) ?_ ?_; rotate_left
                  ·simp only [Act.put, sA, sB, sC, i64_w, i32_w]
                   rfl
                  refine pure_ (i := 22) (N := some 115) (v := undef) (a' := ?_) (bs 36 8388607) rfl rfl (ak HT_.out) (fun _ _ _ h => h) (Or.inr ⟨by rfl, rfl⟩) ?_ ?_; rotate_left
                  ·simp only [Act.put, sA, sB, sC, i64_w, i32_w]
                   rfl
                  refine pure_ (i := 23) (N := some 116) (v := undef) (a' := ?_) (bs 36 16777215) rfl rfl (ak HT_.out) (fun _ _ _ h => h) (Or.inr ⟨by rfl, rfl⟩) ?_ ?_; rotate_left
                  ·simp only [Act.put, sA, sB, sC, i64_w, i32_w]
                   rfl
                  refine pure_ (i := 24) (N := some 117) (v := undef) (a' := ?_) (bs 36 33554431) rfl rfl (ak HT_.out) (fun _ _ _ h => h) (Or.inr ⟨by rfl, rfl⟩) ?_ ?_; rotate_left
                  ·simp only [Act.put, sA, sB, sC, i64_w, i32_w]
                   rfl
                  refine pure_ (i := 25) (N := some 118) (v := undef) (a' := ?_) (bs 36 67108863) rfl rfl (ak HT_.out) (fun _ _ _ h => h) (Or.inr ⟨by rfl, rfl⟩) ?_ ?_; rotate_left
                  ·simp only [Act.put, sA, sB, sC, i64_w, i32_w]
                   rfl
                  refine pure_ (i := 26) (N := some 119) (v := undef) (a' := ?_) (bs 36 134217727) rfl rfl (ak HT_.out) (fun _ _ _ h => h) (Or.inr ⟨by rfl, rfl⟩) ?_ ?_; rotate_left
                  ·simp only [Act.put, sA, sB, sC, i64_w, i32_w]
                   rfl
                  refine pure_ (i := 27) (N := some 120) (v := undef) (a' := ?_) (bs 36 268435455) rfl rfl (ak HT_.out) (fun _ _ _ h => h) (Or.inr ⟨by rfl, rfl⟩) ?_ ?_; rotate_left
                  ·simp only [Act.put, sA, sB, sC, i64_w, i32_w]
                   rfl
                  refine pure_ (i := 28) (N := some 121) (v := undef) (a' := ?_) (bs 36 536870911) rfl rfl (ak HT_.out) (fun _ _ _ h => h) (Or.inr ⟨by rfl, rfl⟩) ?_ ?_; rotate_left
                  ·simp only [Act.put, sA, sB, sC, i64_w, i32_w]
                   rfl
                  refine pure_ (i := 29) (N := some 122) (v := undef) (a' := ?_) (bs 36 1073741823) rfl rfl (ak HT_.out) (fun _ _ _ h => h) (Or.inr ⟨by rfl, rfl⟩) ?_ ?_; rotate_left
                  ·simp only [Act.put, sA, sB, sC, i64_w, i32_w]
                   rfl
                  refine pure_ (i := 30) (N := some 123) (v := undef) (a' := ?_) (bs 36 2147483647) rfl rfl (ak HT_.out) (fun _ _ _ h => h) (Or.inr ⟨by rfl, rfl⟩) ?_ ?_; rotate_left
                  ·simp only [Act.put, sA, sB, sC, i64_w, i32_w]
                   rfl
                  refine pure_ (i := 31) (N := some 124) (v := undef) (a' := ?_) (bs 36 4294967295) rfl rfl (ak HT_.out) (fun _ _ _ h => h) (Or.inr ⟨by rfl, rfl⟩) ?_ ?_; rotate_left
                  ·simp only [Act.put, sA, sB, sC, i64_w, i32_w]
                   rfl
                  refine pure_ (i := 32) (N := some 125) (v := undef) (a' := ?_) (bs 36 8589934591) rfl rfl (ak HT_.out) (fun _ _ _ h => h) (Or.inr ⟨by rfl, rfl⟩) ?_ ?_; rotate_left
                  ·simp only [Act.put, sA, sB, sC, i64_w, i32_w]
                   rfl
                  refine pure_ (i := 33) (N := some 126) (v := undef) (a' := ?_) (bs 36 17179869183) rfl rfl (ak HT_.out) (fun _ _ _ h => h) (Or.inr ⟨by rfl, rfl⟩) ?_ ?_; rotate_left
                  ·simp only [Act.put, sA, sB, sC, i64_w, i32_w]
                   rfl
                  refine pure_ (i := 34) (N := some 127) (v := undef) (a' := ?_) (bs 36 34359738367) rfl rfl (ak HT_.out) (fun _ _ _ h => h) (Or.inr ⟨by rfl, rfl⟩) ?_ ?_; rotate_left
                  ·simp only [Act.put, sA, sB, sC, i64_w, i32_w]
                   rfl
                  refine pure_ (i := 35) (N := some 128) (v := ?_) (a' := ?_) (bs 36 68719476735) rfl rfl (ak HT_.out) (fun _ _ _ h => h) (Or.inl ⟨by rfl, ?_⟩) ?_ ?_; rotate_left
                  ·intro w'
                   go_simp
                   with_reducible rfl
                  rotate_left
                  ·simp only [Act.put, sA, sB, sC, i64_w, i32_w]
                   rfl
                  refine done_ (done_of HT_.out (by kernel_rfl)) ?_
                  try go_wp2
                  go_meet
                  case rel => exact ⟨_, (true), ap3, H', ⟨by have := HJ5.out; have := HK2.out; have := HJ37.out; have := HJ56.out; first | omega | exact Nat.le_refl _⟩, ⟨ru HO_10.out⟩, ⟨by (with_reducible repeat (first | apply Kd.V_alloc | apply Kd.V_drewN | apply Kd.V_drew)); exact HO_280008.out⟩, ⟨by (with_reducible repeat (first | apply Kd.V_alloc | apply Kd.V_drewN | apply Kd.V_drew)); exact HO_285008.out⟩, ⟨by (with_reducible repeat (first | apply Kd.V_alloc | apply Kd.V_drewN | apply Kd.V_drew)); exact HO_295008.out⟩, ⟨by refine bu ?_; exact BK279.out⟩, ⟨by refine bu ?_; exact BK280.out⟩, ⟨by refine bu ?_; exact BK284.out⟩, ⟨by refine bu ?_; exact BK286.out⟩, ⟨by refine bu ?_; exact BK294.out⟩, ⟨beu HB.out⟩⟩
                case rest =>
                 clear HC129; (try clear c1); (try clear p2); (try clear c13); (try clear c19); (try clear c130); (try clear c130b0); (try clear c130b1); (try clear c132); obtain ⟨kq, x128_128, rfl, HA, HJ128, HO_10, HO_280008, HO_285008, HO_295008, BK279, BK280, BK284, BK286, BK294, HB⟩ := hcut
                 cases kq with
                 | zero => exact absurd HA.out (by simp [packhorselaw11_BatchRuns.j4])
                 | succ kj128 =>
                  have H := HA.out; clear HA; simp only [packhorselaw11_BatchRuns.j4] at H
                  by_cases c158 : x128_128 = true
                  ·subst c158
                   have H1 : (some false) = some r := by rw [if_pos rfl] at H; exact H
                   clear H; have H := H1; clear H1; obtain rfl := Option.some.inj H; exact absurd HRT.out (by decide)
                  ·replace c158 := Bool.eq_false_iff.mpr c158
                   subst c158
                   have H1 : (packhorselaw11_BatchRuns.l1 kj128 y291 l2 (l2.length : Int) x33_2 (y291.length : Int) 0 X0_56 X1_56 X2_56 X3_56 X4_56 X5_56 X6_56 X7_56 X8_56 a1_0 a1_1 X11_56 X12_56 X13_56 X14_56 X15_56 X16_56 X17_56 X18_56 X19_56 X0_2 X1_2 X2_2 X3_2 X4_2 X5_2 X6_2 X7_2 X8_2) = some r := by rw [if_neg (show ¬ (false = true) by decide)] at H; exact H
                   clear H; have H := H1; clear H1; have H' := am H; clear H; obtain ⟨Ao159, co159, eo159⟩ := Kd.R_slice HO_10.out; subst eo159
                   go_wp2
                   go_loopg [131] kj128 (fun kq v131 w' => ∃ (x131_6 : Int), v131 = .int .i64 x131_6 ∧ Aside0 (packhorselaw11_BatchRuns.l1 kq y291 l2 (l2.length : Int) x33_2 (y291.length : Int) x131_6 X0_56 X1_56 X2_56 X3_56 X4_56 X5_56 X6_56 X7_56 X8_56 a1_0 a1_1 X11_56 X12_56 X13_56 X14_56 X15_56 X16_56 X17_56 X18_56 X19_56 X0_2 X1_2 X2_2 X3_2 X4_2 X5_2 X6_2 X7_2 X8_2 = some r) ∧ Aside0 (kq ≤ kj128) ∧ Aside0 (Kd.R Kd.string 9 w' w.heap.size (fun k_ => (w.heap.size ≤ k_)) (.slice Ao159 y291.length co159) y291) ∧ Aside0 (Kd.V Kd.string 9 w' w.heap.size (fun k_ => (P0_8_ k_ ∨ w.heap.size ≤ k_) ∧ some k_ ≠ ((.slice Ao159 y291.length co159) : Value).ownBlock ∧ k_ ≠ gb279 ∧ k_ ≠ gb280 ∧ k_ ≠ gb284 ∧ k_ ≠ gb286 ∧ k_ ≠ gb294) u280008 X8_56) ∧ Aside0 (Kd.V Kd.string 9 w' w.heap.size (fun k_ => (P0_8_ k_ ∨ w.heap.size ≤ k_) ∧ some k_ ≠ ((.slice Ao159 y291.length co159) : Value).ownBlock ∧ k_ ≠ gb279 ∧ k_ ≠ gb280 ∧ k_ ≠ gb284 ∧ k_ ≠ gb286 ∧ k_ ≠ gb294) u285008 X19_56) ∧ Aside0 (Kd.V Kd.string 9 w' w.heap.size (fun k_ => (P0_8_ k_ ∨ w.heap.size ≤ k_) ∧ some k_ ≠ ((.slice Ao159 y291.length co159) : Value).ownBlock ∧ k_ ≠ gb279 ∧ k_ ≠ gb280 ∧ k_ ≠ gb284 ∧ k_ ≠ gb286 ∧ k_ ≠ gb294) (.slice Ao65 X8_2.length co65) X8_2) ∧ Aside0 (w'.heap[gb279]? = some (.cells #[.int .i64 X0_56, .int .i64 X1_56, .int .i64 X2_56, .int .i64 X3_56, .int .i64 X4_56, .string X5_56, .string X6_56, .string X7_56, u280008] 31 (0, 0))) ∧ Aside0 (w'.heap[gb280]? = some (.cells #[.int .i64 a1_0, .int .i64 a1_1] 23 (0, 0))) ∧ Aside0 (w'.heap[gb284]? = some (.cells #[.int .i64 X11_56, .int .i64 X12_56, .int .i64 X13_56, .int .i64 X14_56, .int .i64 X15_56, .string X16_56, .string X17_56, .string X18_56, u285008] 31 (0, 0))) ∧ Aside0 (w'.heap[gb286]? = some (.cells #[.int .i64 ((rd_T34 l2 x33_2).f0), .string ((rd_T34 l2 x33_2).f1), .int .i64 ((rd_T34 l2 x33_2).f2)] 34 (0, 0))) ∧ Aside0 (w'.heap[gb294]? = some (.cells #[.int .i64 X0_2, .int .i64 X1_2, .int .i64 X2_2, .int .i64 X3_2, .int .i64 X4_2, .string X5_2, .string X6_2, .string X7_2, (.slice Ao65 X8_2.length co65)] 31 (0, 0))) ∧ Aside0 (Below w.heap.size w w'))
                   case atStart => exact ⟨(0), ap3, H', ⟨Nat.le_refl _⟩, ⟨ru HO_10.out⟩, ⟨by (with_reducible repeat (first | apply Kd.V_alloc | apply Kd.V_drewN | apply Kd.V_drew)); exact HO_280008.out⟩, ⟨by (with_reducible repeat (first | apply Kd.V_alloc | apply Kd.V_drewN | apply Kd.V_drew)); exact HO_285008.out⟩, ⟨by (with_reducible repeat (first | apply Kd.V_alloc | apply Kd.V_drewN | apply Kd.V_drew)); exact HO_295008.out⟩, ⟨by refine bu ?_; exact BK279.out⟩, ⟨by refine bu ?_; exact BK280.out⟩, ⟨by refine bu ?_; exact BK284.out⟩, ⟨by refine bu ?_; exact BK286.out⟩, ⟨by refine bu ?_; exact BK294.out⟩, ⟨beu HB.out⟩⟩
                   case round =>
                    clear H'; (try clear c1); (try clear p2); (try clear c13); (try clear c15); (try clear c19); (try clear c130); (try clear c130b0); (try clear c130b1); (try clear c132); (try clear c158); (try clear p2); obtain ⟨x131_6, rfl, HA, HK6, HO_10, HO_280008, HO_285008, HO_295008, BK279, BK280, BK284, BK286, BK294, HB⟩ := hrel
                    cases gk with
                    | zero => exact absurd HA.out (by simp [packhorselaw11_BatchRuns.l1])
                    | succ k6 =>
                     have H := HA.out; clear HA; simp only [packhorselaw11_BatchRuns.l1] at H
                     by_cases c160 : x131_6 < (y291.length : Int)
                     ·rw [if_pos c160] at H
                      have c160b0 : decide (x131_6 < (y291.length : Int)) = true := decide_eq_true c160; clear c160
                      by_cases c161 : 0 ≤ x131_6
                      ·rw [if_pos c161] at H
                       have c161b0 : decide (0 ≤ x131_6) = true := decide_eq_true c161; clear c161
                       by_cases c162 : x131_6 < (X8_2.length : Int)
                       ·rw [if_pos c162] at H
                        have c162b0 : decide (x131_6 < (X8_2.length : Int)) = true := decide_eq_true c162; clear c162
                        by_cases c163 : x131_6 < (y291.length : Int)
                        ·rw [if_pos c163] at H
                         have c163b0 : decide (x131_6 < (y291.length : Int)) = true := decide_eq_true c163; clear c163
                         by_cases c164 : (rdOf ByteArray.empty X8_2 x131_6).toList = (rdOf ByteArray.empty y291 x131_6).toList
                         ·rw [if_pos c164] at H
                          have c164b0 : ((rdOf ByteArray.empty X8_2 x131_6).toList == (rdOf ByteArray.empty y291 x131_6).toList) = true := beq_iff_eq.mpr c164; have c164b1 : ((rdOf ByteArray.empty X8_2 x131_6).toList != (rdOf ByteArray.empty y291 x131_6).toList) = false := bne_eq_false_iff_eq.mpr c164; clear c164; have H' := am H; clear H
                          try go_wp2
                          (try (rw [drewN_self wr]; generalize hq_ : World.drewN wr _ = wr; have _ := am (show Kd.R _ _ wr _ _ _ _ from by rw [← hq_]; exact Kd.R_drewN HO_10.out _); have _ := am (show Kd.V _ _ wr _ _ _ _ from by rw [← hq_]; exact Kd.V_drewN HO_280008.out _); have _ := am (show Kd.V _ _ wr _ _ _ _ from by rw [← hq_]; exact Kd.V_drewN HO_285008.out _); have _ := am (show Kd.V _ _ wr _ _ _ _ from by rw [← hq_]; exact Kd.V_drewN HO_295008.out _); have _ := am (blk_at hq_ BK279.out); have _ := am (blk_at hq_ BK280.out); have _ := am (blk_at hq_ BK284.out); have _ := am (blk_at hq_ BK286.out); have _ := am (blk_at hq_ BK294.out); have _ := am (below_at hq_ HB.out); clear hq_ HO_10 HO_280008 HO_285008 HO_295008 BK279 BK280 BK284 BK286 BK294 HB; rename_i HO_10 HO_280008 HO_285008 HO_295008 BK279 BK280 BK284 BK286 BK294 HB))
                          have n0_ := am (Kd.R_drew HO_10.out); have n1_ := am (Kd.V_drew HO_280008.out); have n2_ := am (Kd.V_drew HO_285008.out); have n3_ := am (Kd.V_drew HO_295008.out); have n4_ := am (blk_drew BK279.out); have n5_ := am (blk_drew BK280.out); have n6_ := am (blk_drew BK284.out); have n7_ := am (blk_drew BK286.out); have n8_ := am (blk_drew BK294.out); have n9_ := am (below_drew1 HB.out); clear HO_10 HO_280008 HO_285008 HO_295008 BK279 BK280 BK284 BK286 BK294 HB; have HO_10 := n0_; have HO_280008 := n1_; have HO_285008 := n2_; have HO_295008 := n3_; have BK279 := n4_; have BK280 := n5_; have BK284 := n6_; have BK286 := n7_; have BK294 := n8_; have HB := n9_; clear n0_ n1_ n2_ n3_ n4_ n5_ n6_ n7_ n8_ n9_; have p345 : 0 ≤ (x131_6 : Int) := of_decide_eq_true ap2; have q345 : x131_6 < (X8_2.length : Int) := of_decide_eq_true ap2; obtain ⟨ad345, e345, hx345_0⟩ := Kd.at_string (Kd.V_reads' HO_295008.out).2.2 x131_6 p345 q345
                          cases e345
                          replace p345 := eq_true p345; replace q345 := eq_true q345; have p346 : 0 ≤ (x131_6 : Int) := of_decide_eq_true ap2; have q346 : x131_6 < (y291.length : Int) := of_decide_eq_true ap2; obtain ⟨ad346, e346, hx346_0⟩ := Kd.at_string (Kd.R_reads' HO_10.out).2.2 x131_6 p346 q346
                          cases e346
                          replace p346 := eq_true p346; replace q346 := eq_true q346
                          refine start_ (n := 10) (S := fun w' => w'.cell? ⟨gb294, 0, none⟩ = some (.int .i64 X0_2) ∧ w'.cell? ⟨gb294, 1, none⟩ = some (.int .i64 X1_2) ∧ w'.cell? ⟨gb294, 2, none⟩ = some (.int .i64 X2_2) ∧ w'.cell? ⟨gb294, 3, none⟩ = some (.int .i64 X3_2) ∧ w'.cell? ⟨gb294, 4, none⟩ = some (.int .i64 X4_2) ∧ w'.cell? ⟨gb294, 5, none⟩ = some (.string X5_2) ∧ w'.cell? ⟨gb294, 6, none⟩ = some (.string X6_2) ∧ w'.cell? ⟨gb294, 7, none⟩ = some (.string X7_2) ∧ w'.cell? ⟨gb294, 8, none⟩ = some (.slice (some ad345) X8_2.length co65) ∧ w'.cell? (ad345.add (x131_6).toNat) = some (.string (rdOf ByteArray.empty X8_2 x131_6)) ∧ w'.cell? (ad346.add (x131_6).toNat) = some (.string (rdOf ByteArray.empty y291 x131_6))) (ds := []) #[false, false, false, false, false, false, false, false, false, false] (by kernel_rfl) rfl rfl ⟨(blk_cell BK294.out 0).trans rfl, (blk_cell BK294.out 1).trans rfl, (blk_cell BK294.out 2).trans rfl, (blk_cell BK294.out 3).trans rfl, (blk_cell BK294.out 4).trans rfl, (blk_cell BK294.out 5).trans rfl, (blk_cell BK294.out 6).trans rfl, (blk_cell BK294.out 7).trans rfl, (blk_cell BK294.out 8).trans rfl, hx345_0, hx346_0⟩ (fun hHeld => ?_); refine with_tabW packhorselaw11_BatchRuns.tab24 packhorselaw11_BatchRuns.bits24 (fun HT_ HW_ => ?_)
                          generalize wr.drew = w165 at HO_10 HO_280008 HO_285008 HO_295008 BK279 BK280 BK284 BK286 BK294 HB hx345_0 hx346_0 hHeld ⊢; refine pure_ (i := 0) (N := some 134) (v := ?_) (a' := ?_) (bs 10 1) rfl rfl (ak HT_.out) (fun _ _ _ h => h) (Or.inl ⟨by rfl, ?_⟩) ?_ ?_; rotate_left
                          ·intro w'
                           go_simp
                           with_reducible rfl
                          rotate_left
                          ·simp only [Act.put, sA, sB, sC, i64_w, i32_w]
                           rfl
                          refine pure_ (i := 2) (N := some 136) (v := ?_) (a' := ?_) (bs 10 5) rfl rfl (ak HT_.out) (fun _ _ _ h => h) (Or.inl ⟨by rfl, ?_⟩) ?_ ?_; rotate_left
                          ·intro w'
                           go_simp
                           with_reducible rfl
                          rotate_left
                          ·simp only [Act.put, sA, sB, sC, i64_w, i32_w]
                           rfl
                          refine pure_ (i := 5) (N := some 139) (v := ?_) (a' := ?_) (bs 10 37) rfl rfl (ak HT_.out) (fun _ _ _ h => h) (Or.inl ⟨by rfl, ?_⟩) ?_ ?_; rotate_left
                          ·intro w'
                           go_simp
                           with_reducible rfl
                          rotate_left
                          ·simp only [Act.put, sA, sB, sC, i64_w, i32_w]
                           rfl
                          refine pure_ (i := 6) (N := some 140) (v := ?_) (a' := ?_) (bs 10 101) rfl rfl (ak HT_.out) (fun _ _ _ h => h) (Or.inl ⟨by rfl, ?_⟩) ?_ ?_; rotate_left
                          ·intro w'
                           go_simp
                           with_reducible rfl
                          rotate_left
                          ·simp only [Act.put, sA, sB, sC, i64_w, i32_w]
                           rfl
                          refine pure_ (i := 7) (N := some 141) (v := ?_) (a' := ?_) (bs 10 229) rfl rfl (ak HT_.out) (fun _ _ _ h => h) (Or.inl ⟨by rfl, ?_⟩) ?_ ?_; rotate_left
                          ·intro w'
                           go_simp
                           with_reducible rfl
                          rotate_left
                          ·simp only [Act.put, sA, sB, sC, i64_w, i32_w]
                           rfl
                          refine take_ (i := 1) (N := some 135) (v := ?_) (a' := ?_) (bs 10 231) rfl rfl (take_ofW HT_.out HW_.out (by kernel_rfl)) (fun _ _ _ h => h) (Or.inl ⟨by rfl, ?_⟩) hHeld ?_ ?_; rotate_left
                          ·rintro w' ⟨s0, s1, s2, s3, s4, s5, s6, s7, s8, s9, s10⟩
                           go_simp
                           with_reducible rfl
                          rotate_left
                          ·simp only [Act.put, sA, sB, sC, i64_w, i32_w]
                           rfl
                          refine pure_ (i := 3) (N := some 137) (v := ?_) (a' := ?_) (bs 10 239) rfl rfl (ak HT_.out) (fun _ _ _ h => h) (Or.inl ⟨by rfl, ?_⟩) ?_ ?_; rotate_left
                          ·intro w'
                           go_simp
                           with_reducible rfl
                          rotate_left
                          ·simp only [Act.put, sA, sB, sC, i64_w, i32_w]
                           rfl
                          refine take_ (i := 4) (N := some 138) (v := ?_) (a' := ?_) (bs 10 255) rfl rfl (take_ofW HT_.out HW_.out (by kernel_rfl)) (fun _ _ _ h => h) (Or.inl ⟨by rfl, ?_⟩) hHeld ?_ ?_; rotate_left
                          ·rintro w' ⟨s0, s1, s2, s3, s4, s5, s6, s7, s8, s9, s10⟩
                           go_simp
                           with_reducible rfl
                          rotate_left
                          ·simp only [Act.put, sA, sB, sC, i64_w, i32_w]
                           rfl
                          refine take_ (i := 8) (N := some 142) (v := ?_) (a' := ?_) (bs 10 511) rfl rfl (take_ofW HT_.out HW_.out (by kernel_rfl)) (fun _ _ _ h => h) (Or.inl ⟨by rfl, ?_⟩) hHeld ?_ ?_; rotate_left
                          ·rintro w' ⟨s0, s1, s2, s3, s4, s5, s6, s7, s8, s9, s10⟩
                           go_simp
                           with_reducible rfl
                          rotate_left
                          ·simp only [Act.put, sA, sB, sC, i64_w, i32_w]
                           rfl
                          refine pure_ (i := 9) (N := some 143) (v := ?_) (a' := ?_) (bs 10 1023) rfl rfl (ak HT_.out) (fun _ _ _ h => h) (Or.inl ⟨by rfl, ?_⟩) ?_ ?_; rotate_left
                          ·intro w'
                           go_simp
                           with_reducible rfl
                          rotate_left
                          ·simp only [Act.put, sA, sB, sC, i64_w, i32_w]
                           rfl
                          refine done_ (done_of HT_.out (by kernel_rfl)) ?_
                          try go_wp2
                          go_roundg k6
                          case measure => have := HJ5.out; have := HK2.out; have := HJ37.out; have := HJ56.out; have := HJ128.out; have := HK6.out; omega
                          case rel => exact ⟨(wrap64 (x131_6 + 1)), ap3, H', ⟨by have := HJ5.out; have := HK2.out; have := HJ37.out; have := HJ56.out; have := HJ128.out; have := HK6.out; omega⟩, ⟨ru HO_10.out⟩, ⟨by (with_reducible repeat (first | apply Kd.V_alloc | apply Kd.V_drewN | apply Kd.V_drew)); exact HO_280008.out⟩, ⟨by (with_reducible repeat (first | apply Kd.V_alloc | apply Kd.V_drewN | apply Kd.V_drew)); exact HO_285008.out⟩, ⟨by (with_reducible repeat (first | apply Kd.V_alloc | apply Kd.V_drewN | apply Kd.V_drew)); exact HO_295008.out⟩, ⟨by refine bu ?_; exact BK279.out⟩, ⟨by refine bu ?_; exact BK280.out⟩, ⟨by refine bu ?_; exact BK284.out⟩, ⟨by refine bu ?_; exact BK286.out⟩, ⟨by refine bu ?_; exact BK294.out⟩, ⟨beu HB.out⟩⟩
                         ·rw [if_neg c164] at H
                          have c164b0 : ((rdOf ByteArray.empty X8_2 x131_6).toList == (rdOf ByteArray.empty y291 x131_6).toList) = false := beq_eq_false_iff_ne.mpr c164; have c164b1 : ((rdOf ByteArray.empty X8_2 x131_6).toList != (rdOf ByteArray.empty y291 x131_6).toList) = true := bne_iff_ne.mpr c164; obtain rfl := Option.some.inj H; exact absurd HRT.out (by decide)
                        ·rw [if_neg c163] at H
                         exact absurd H (by simp)
                       ·rw [if_neg c162] at H
                        exact absurd H (by simp)
                      ·rw [if_neg c161] at H
                       exact absurd H (by simp)
                     ·rw [if_neg c160] at H
                      have c160b0 : decide (x131_6 < (y291.length : Int)) = false := decide_eq_false c160; clear c160; have H' := am H; clear H
                      go_wp2
                      go_roundg k6
                      case measure => have := HJ5.out; have := HK2.out; have := HJ37.out; have := HJ56.out; have := HJ128.out; have := HK6.out; omega
                      case rel => exact ⟨(wrap64 (x33_2 + 1)), (X0_56), (X1_56), (X2_56), (X3_56), (X4_56), (X5_56), (X6_56), (X7_56), (X8_56), (X11_56), (X12_56), (X13_56), (X14_56), (X15_56), (X16_56), (X17_56), (X18_56), (X19_56), (u280008), (u285008), ap3, H', ⟨by have := HJ5.out; have := HK2.out; have := HJ37.out; have := HJ56.out; have := HJ128.out; have := HK6.out; omega⟩, ⟨by (with_reducible repeat (first | apply Kd.V_alloc | apply Kd.V_drewN | apply Kd.V_drew)); exact Kd.V_mono HO_280008.out (fun _ hk => ⟨hk.1, ⟨hk.2.2.1, ⟨hk.2.2.2.1, hk.2.2.2.2.1⟩⟩⟩)⟩, ⟨by (with_reducible repeat (first | apply Kd.V_alloc | apply Kd.V_drewN | apply Kd.V_drew)); exact Kd.V_mono HO_285008.out (fun _ hk => ⟨hk.1, ⟨hk.2.2.1, ⟨hk.2.2.2.1, hk.2.2.2.2.1⟩⟩⟩)⟩, ⟨by refine bu ?_; exact BK279.out⟩, ⟨by refine bu ?_; exact BK280.out⟩, ⟨by refine bu ?_; exact BK284.out⟩, ⟨beu HB.out⟩⟩
             ·rw [if_neg c56] at H
              exact absurd H (by simp)
         ·rw [if_neg c37] at H
          exact absurd H (by simp)
        ·rw [if_neg c36] at H
         exact absurd H (by simp)
       ·rw [if_neg c35] at H
        have c35b0 : decide (x33_2 < (l2.length : Int)) = false := decide_eq_false c35; clear c35; obtain rfl := Option.some.inj H; simp only [Option.some.injEq, Prod.mk.injEq] at H; obtain ⟨rfl⟩ := H
        go_wp2
        go_ret
        exact ⟨ap4, beu HB.out⟩
 ·replace c5 := Bool.eq_false_iff.mpr c5
  subst c5
  have H1 : (some false) = some r := by rw [if_neg (show ¬ (false = true) by decide)] at H; exact H
  clear H; have H := H1; clear H1; obtain rfl := Option.some.inj H; exact absurd HRT.out (by decide)
end Go.Proofs.YtapfpdjcbeiibaaDoor.PAll
