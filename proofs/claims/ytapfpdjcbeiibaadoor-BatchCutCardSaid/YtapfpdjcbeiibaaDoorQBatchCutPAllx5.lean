
import Derived.Test.YtapfpdjcbeiibaaDoorQBatchCutPAllx0
import Derived.Test.YtapfpdjcbeiibaaDoorQBatchCutPAllx2
import Derived.Test.YtapfpdjcbeiibaaDoorQBatchCutPAllx3
import Derived.Test.YtapfpdjcbeiibaaDoorQBatchCutPAllx4
namespace Go.Proofs.YtapfpdjcbeiibaaDoor.PAll
open Go.RowKit Go.Proofs.YtapfpdjcbeiibaaDoorW.PrintWords Go.Proofs.YtapfpdjcbeiibaaDoorW.PrintLast Go.Proofs.YtapfpdjcbeiibaaDoorW.PrintMore
attribute [local go_sem] max2_int max_two
set_option linter.unusedVariables false
set_option linter.unusedSimpArgs false
def packhorselaw11_BatchCut.j0 : Nat → Int → Bool → Int → Int → Int → Int → Int → ByteArray → ByteArray → ByteArray → List ByteArray → Int → Int → Int → Int → Int → ByteArray → ByteArray → ByteArray → List ByteArray → Option (Bool)
 | 0, _, _, _, _, _, _, _, _, _, _, _, _, _, _, _, _, _, _, _, _ => none
 | k + 1, x2, x24, x295000, x295001, x295002, x295003, x295004, x295005, x295006, x295007, x295008, x296000, x296001, x296002, x296003, x296004, x296005, x296006, x296007, x296008 => if x24 = true then (some true) else ((batch_Put.f k ([] : List Int) x295000 x295001 x295002 x295003 x295004 x295005 x295006 x295007 x295008).bind fun t299 => ((batch_Put.f k ([] : List Int) x296000 x296001 x296002 x296003 x296004 x296005 x296006 x296007 x296008).bind fun t302 => ((batch_Same.f k x295000 x295001 x295002 x295003 x295004 x295005 x295006 x295007 x295008 x296000 x296001 x296002 x296003 x296004 x296005 x296006 x296007 x296008).bind fun t305 => (if (((strOfNums t299).toList == (strOfNums t302).toList) != t305) = true then (some false) else (if x2 ≥ (t299.length : Int) then (some true) else (if 0 ≤ x2 then (if x2 ≤ (t299.length : Int) then ((packet_New.f (t299.take (x2 : Int).toNat)).bind fun bt310 => ((batch_Take.f k bt310.1 bt310.2).bind fun bt313 => (if bt313.2.2.2.2.2.2.2.2.2.1 = true then (some false) else ((batch_Same.f k bt313.1 bt313.2.1 bt313.2.2.1 bt313.2.2.2.1 bt313.2.2.2.2.1 bt313.2.2.2.2.2.1 bt313.2.2.2.2.2.2.1 bt313.2.2.2.2.2.2.2.1 bt313.2.2.2.2.2.2.2.2.1 0 0 0 0 0 ⟨#[]⟩ ⟨#[]⟩ ⟨#[]⟩ ([] : List ByteArray)).bind fun t328 => (some t328))))) else (none)) else (none)))))))
def packhorselaw11_BatchCut.f (k : Nat) (a0_0 : Int) (a0_1 : Int) (a0_2 : Int) (a0_3 : Int) (a0_4 : Int) (a0_5 : ByteArray) (a0_6 : ByteArray) (a0_7 : ByteArray) (l0_8 : List ByteArray) (a1_0 : Int) (a1_1 : Int) (a1_2 : Int) (a1_3 : Int) (a1_4 : Int) (a1_5 : ByteArray) (a1_6 : ByteArray) (a1_7 : ByteArray) (l1_8 : List ByteArray) (a2 : Int) : Option (Bool) := (packhorselaw11_batchAlive.f k).bind fun t296 => (if t296 = true then ((batch_Right.f k a0_0 a0_1 a0_2 a0_3 a0_4 a0_5 a0_6 a0_7 l0_8).bind fun t297 => (if t297 = true then ((batch_Right.f k a1_0 a1_1 a1_2 a1_3 a1_4 a1_5 a1_6 a1_7 l1_8).bind fun t298 => (if t298 = true then (packhorselaw11_BatchCut.j0 k a2 (decide (a2 < 0)) a0_0 a0_1 a0_2 a0_3 a0_4 a0_5 a0_6 a0_7 l0_8 a1_0 a1_1 a1_2 a1_3 a1_4 a1_5 a1_6 a1_7 l1_8) else (packhorselaw11_BatchCut.j0 k a2 true a0_0 a0_1 a0_2 a0_3 a0_4 a0_5 a0_6 a0_7 l0_8 a1_0 a1_1 a1_2 a1_3 a1_4 a1_5 a1_6 a1_7 l1_8))) else (packhorselaw11_BatchCut.j0 k a2 true a0_0 a0_1 a0_2 a0_3 a0_4 a0_5 a0_6 a0_7 l0_8 a1_0 a1_1 a1_2 a1_3 a1_4 a1_5 a1_6 a1_7 l1_8))) else (some false))
theorem packhorselaw11_BatchCut.mono_l : ∀ k, (∀ y0 y1 y2 y3 y4 y5 y6 y7 y8 y9 y10 y11 y12 y13 y14 y15 y16 y17 y18 y19, LeO (packhorselaw11_BatchCut.j0 k y0 y1 y2 y3 y4 y5 y6 y7 y8 y9 y10 y11 y12 y13 y14 y15 y16 y17 y18 y19) (packhorselaw11_BatchCut.j0 (k + 1) y0 y1 y2 y3 y4 y5 y6 y7 y8 y9 y10 y11 y12 y13 y14 y15 y16 y17 y18 y19))
 | 0 => fun _ _ _ _ _ _ _ _ _ _ _ _ _ _ _ _ _ _ _ _ r h => by simp [packhorselaw11_BatchCut.j0] at h
 | k + 1 => by
  have ih0 := packhorselaw11_BatchCut.mono_l k
  ·intro y0 y1 y2 y3 y4 y5 y6 y7 y8 y9 y10 y11 y12 y13 y14 y15 y16 y17 y18 y19
   unfold packhorselaw11_BatchCut.j0
   repeat' first
   | (with_reducible exact ih0 _ _ _ _ _ _ _ _ _ _ _ _ _ _ _ _ _ _ _ _)
   | (with_reducible exact batch_Put.mono _ _ _ _ _ _ _ _ _ _ _)
   | (with_reducible exact batch_Right.mono _ _ _ _ _ _ _ _ _ _)
   | (with_reducible exact batch_Same.mono _ _ _ _ _ _ _ _ _ _ _ _ _ _ _ _ _ _ _)
   | (with_reducible exact batch_Take.mono _ _ _)
   | (with_reducible exact packhorselaw11_batchAlive.mono _)
   | (with_reducible exact LeO.refl _)
   | (with_reducible exact LeO.none _)
   | (with_reducible refine LeO.ite ?_ ?_)
   | (with_reducible refine LeO.bind ?_ (fun _ => ?_))
   | exact ih0 _ _ _ _ _ _ _ _ _ _ _ _ _ _ _ _ _ _ _ _
   | exact batch_Put.mono _ _ _ _ _ _ _ _ _ _ _
   | exact batch_Right.mono _ _ _ _ _ _ _ _ _ _
   | exact batch_Same.mono _ _ _ _ _ _ _ _ _ _ _ _ _ _ _ _ _ _ _
   | exact batch_Take.mono _ _ _
   | exact packhorselaw11_batchAlive.mono _
   | exact LeO.none _
   | refine LeO.ite ?_ ?_
   | refine LeO.bind ?_ (fun _ => ?_)
theorem packhorselaw11_BatchCut.mono : ∀ a0 a1 a2 a3 a4 a5 a6 a7 a8 a9 a10 a11 a12 a13 a14 a15 a16 a17 a18 k, LeO (packhorselaw11_BatchCut.f k a0 a1 a2 a3 a4 a5 a6 a7 a8 a9 a10 a11 a12 a13 a14 a15 a16 a17 a18) (packhorselaw11_BatchCut.f (k + 1) a0 a1 a2 a3 a4 a5 a6 a7 a8 a9 a10 a11 a12 a13 a14 a15 a16 a17 a18) := by
 intro a0 a1 a2 a3 a4 a5 a6 a7 a8 a9 a10 a11 a12 a13 a14 a15 a16 a17 a18 k; have ih0 := packhorselaw11_BatchCut.mono_l k
 unfold packhorselaw11_BatchCut.f
 repeat' first
   | (with_reducible exact ih0 _ _ _ _ _ _ _ _ _ _ _ _ _ _ _ _ _ _ _ _)
   | (with_reducible exact batch_Put.mono _ _ _ _ _ _ _ _ _ _ _)
   | (with_reducible exact batch_Right.mono _ _ _ _ _ _ _ _ _ _)
   | (with_reducible exact batch_Same.mono _ _ _ _ _ _ _ _ _ _ _ _ _ _ _ _ _ _ _)
   | (with_reducible exact batch_Take.mono _ _ _)
   | (with_reducible exact packhorselaw11_batchAlive.mono _)
   | (with_reducible exact LeO.refl _)
   | (with_reducible exact LeO.none _)
   | (with_reducible refine LeO.ite ?_ ?_)
   | (with_reducible refine LeO.bind ?_ (fun _ => ?_))
   | exact ih0 _ _ _ _ _ _ _ _ _ _ _ _ _ _ _ _ _ _ _ _
   | exact batch_Put.mono _ _ _ _ _ _ _ _ _ _ _
   | exact batch_Right.mono _ _ _ _ _ _ _ _ _ _
   | exact batch_Same.mono _ _ _ _ _ _ _ _ _ _ _ _ _ _ _ _ _ _ _
   | exact batch_Take.mono _ _ _
   | exact packhorselaw11_batchAlive.mono _
   | exact LeO.none _
   | refine LeO.ite ?_ ?_
   | refine LeO.bind ?_ (fun _ => ?_)
def packhorselaw11_BatchCut.T6 : Bool × List (List Nat × List Nat) := (true, [([], []), ([0], [0]), ([], []), ([2], [2]), ([1, 3], [1, 3]), ([], []), ([], []), ([5, 6], [5, 6]), ([4, 7], [4, 7])])
def packhorselaw11_BatchCut.B6 : List Nat := [0, 1, 0, 4, 15, 0, 0, 96, 255]
theorem packhorselaw11_BatchCut.tab6 : rtab .any (opsOf Tryd.f9 6) = packhorselaw11_BatchCut.T6 := by kernel_rfl
theorem packhorselaw11_BatchCut.bits6 : waitsOk packhorselaw11_BatchCut.T6.2 packhorselaw11_BatchCut.B6 = true := by kernel_rfl
set_option maxHeartbeats 8000000 in
set_option maxRecDepth 100000 in
theorem packhorselaw11_BatchCut.calls (k : Nat) (a0_0 : Int) (a0_1 : Int) (a0_2 : Int) (a0_3 : Int) (a0_4 : Int) (a0_5 : ByteArray) (a0_6 : ByteArray) (a0_7 : ByteArray) (A0_8 : Option Addr) (c0_8 : Nat) (l0_8 : List ByteArray) (a1_0 : Int) (a1_1 : Int) (a1_2 : Int) (a1_3 : Int) (a1_4 : Int) (a1_5 : ByteArray) (a1_6 : ByteArray) (a1_7 : ByteArray) (A1_8 : Option Addr) (c1_8 : Nat) (l1_8 : List ByteArray) (a2 : Int) (r : Bool) (w : World) (hr0_8 : Kd.C Kd.string w A0_8 l0_8.length l0_8) (hc0_8 : l0_8.length ≤ c0_8) (hr1_8 : Kd.C Kd.string w A1_8 l1_8.length l1_8) (hc1_8 : l1_8.length ≤ c1_8) (hT : Tabs w) (h : packhorselaw11_BatchCut.f k a0_0 a0_1 a0_2 a0_3 a0_4 a0_5 a0_6 a0_7 l0_8 a1_0 a1_1 a1_2 a1_3 a1_4 a1_5 a1_6 a1_7 l1_8 a2 = some r) (hr_ : r = true) :
  Calls Tryd.prog 9 #[.agg #[.int .i64 a0_0, .int .i64 a0_1, .int .i64 a0_2, .int .i64 a0_3, .int .i64 a0_4, .string a0_5, .string a0_6, .string a0_7, .slice A0_8 l0_8.length c0_8], .agg #[.int .i64 a1_0, .int .i64 a1_1, .int .i64 a1_2, .int .i64 a1_3, .int .i64 a1_4, .string a1_5, .string a1_6, .string a1_7, .slice A1_8 l1_8.length c1_8], .int .i64 a2] w fun e w' => e = .returned (.bool r) ∧ Below w.heap.size w w' := by
 have hu31 := Tryd.underlying31; have HR0_8 := Aside0.mk hr0_8; have HC0_8 := Aside0.mk hc0_8; clear hr0_8 hc0_8; have HR1_8 := Aside0.mk hr1_8; have HC1_8 := Aside0.mk hc1_8; clear hr1_8 hc1_8; have HRT := Aside0.mk hr_; clear hr_; have HT := Aside0.mk hT; clear hT; have HB := Aside0.mk (Below.refl w.heap.size w); have H : ((packhorselaw11_batchAlive.f k).bind fun t296 => (if t296 = true then ((batch_Right.f k a0_0 a0_1 a0_2 a0_3 a0_4 a0_5 a0_6 a0_7 l0_8).bind fun t297 => (if t297 = true then ((batch_Right.f k a1_0 a1_1 a1_2 a1_3 a1_4 a1_5 a1_6 a1_7 l1_8).bind fun t298 => (if t298 = true then (packhorselaw11_BatchCut.j0 k a2 (decide (a2 < 0)) a0_0 a0_1 a0_2 a0_3 a0_4 a0_5 a0_6 a0_7 l0_8 a1_0 a1_1 a1_2 a1_3 a1_4 a1_5 a1_6 a1_7 l1_8) else (packhorselaw11_BatchCut.j0 k a2 true a0_0 a0_1 a0_2 a0_3 a0_4 a0_5 a0_6 a0_7 l0_8 a1_0 a1_1 a1_2 a1_3 a1_4 a1_5 a1_6 a1_7 l1_8))) else (packhorselaw11_BatchCut.j0 k a2 true a0_0 a0_1 a0_2 a0_3 a0_4 a0_5 a0_6 a0_7 l0_8 a1_0 a1_1 a1_2 a1_3 a1_4 a1_5 a1_6 a1_7 l1_8))) else (some false))) = some r := h; clear h; replace H := obm H; obtain ⟨t296, A40, H⟩ := H; replace H : (if t296 = true then ((batch_Right.f k a0_0 a0_1 a0_2 a0_3 a0_4 a0_5 a0_6 a0_7 l0_8).bind fun t297 => (if t297 = true then ((batch_Right.f k a1_0 a1_1 a1_2 a1_3 a1_4 a1_5 a1_6 a1_7 l1_8).bind fun t298 => (if t298 = true then (packhorselaw11_BatchCut.j0 k a2 (decide (a2 < 0)) a0_0 a0_1 a0_2 a0_3 a0_4 a0_5 a0_6 a0_7 l0_8 a1_0 a1_1 a1_2 a1_3 a1_4 a1_5 a1_6 a1_7 l1_8) else (packhorselaw11_BatchCut.j0 k a2 true a0_0 a0_1 a0_2 a0_3 a0_4 a0_5 a0_6 a0_7 l0_8 a1_0 a1_1 a1_2 a1_3 a1_4 a1_5 a1_6 a1_7 l1_8))) else (packhorselaw11_BatchCut.j0 k a2 true a0_0 a0_1 a0_2 a0_3 a0_4 a0_5 a0_6 a0_7 l0_8 a1_0 a1_1 a1_2 a1_3 a1_4 a1_5 a1_6 a1_7 l1_8))) else (some false)) = some r := H; have A4 := Aside0.mk A40; clear A40
 by_cases c5 : t296 = true
 ·subst c5
  have H1 : ((batch_Right.f k a0_0 a0_1 a0_2 a0_3 a0_4 a0_5 a0_6 a0_7 l0_8).bind fun t297 => (if t297 = true then ((batch_Right.f k a1_0 a1_1 a1_2 a1_3 a1_4 a1_5 a1_6 a1_7 l1_8).bind fun t298 => (if t298 = true then (packhorselaw11_BatchCut.j0 k a2 (decide (a2 < 0)) a0_0 a0_1 a0_2 a0_3 a0_4 a0_5 a0_6 a0_7 l0_8 a1_0 a1_1 a1_2 a1_3 a1_4 a1_5 a1_6 a1_7 l1_8) else (packhorselaw11_BatchCut.j0 k a2 true a0_0 a0_1 a0_2 a0_3 a0_4 a0_5 a0_6 a0_7 l0_8 a1_0 a1_1 a1_2 a1_3 a1_4 a1_5 a1_6 a1_7 l1_8))) else (packhorselaw11_BatchCut.j0 k a2 true a0_0 a0_1 a0_2 a0_3 a0_4 a0_5 a0_6 a0_7 l0_8 a1_0 a1_1 a1_2 a1_3 a1_4 a1_5 a1_6 a1_7 l1_8))) = some r := by rw [if_pos rfl] at H; exact H
  clear H; have H := H1; clear H1; have HC6 := Aside0.mk H; clear H
  go_enter Tryd.func9, Tryd.ntmps9
  go_upto_region 3 with (first | ((with_reducible refine gate_dst (N := 3) rfl ?_); refine box_event ?hg (N := 3) ?hd (cs := #[.int .i64 a0_0, .int .i64 a0_1, .int .i64 a0_2, .int .i64 a0_3, .int .i64 a0_4, .string a0_5, .string a0_6, .string a0_7, .slice A0_8 l0_8.length c0_8]) (t := 31) ?hr ?_; (case hd => rfl); (case hg => rfl); (case hr => first | (go_simp; done) | (go_simp; rfl)); intro gb294 hg w7 hbox hb; have _ := Aside0.mk (below_step (beu HB.out) hb); have _ := Aside0.mk (hbox); have _ := Aside0.mk ((by rw [hg]; exact (below_size (beu HB.out)) : w.heap.size ≤ gb294)); have _ := Aside0.mk ((by rw [hg]; exact (below_size (beu HB.out)) : w.heap.size ≤ gb294)); clear HB; rename_i HB BK294 GW294 GE294; clear hb hbox hg) | ((with_reducible refine gate_dst (N := 4) rfl ?_); refine box_event ?hg (N := 4) ?hd (cs := #[.int .i64 a1_0, .int .i64 a1_1, .int .i64 a1_2, .int .i64 a1_3, .int .i64 a1_4, .string a1_5, .string a1_6, .string a1_7, .slice A1_8 l1_8.length c1_8]) (t := 31) ?hr ?_; (case hd => rfl); (case hg => rfl); (case hr => first | (go_simp; done) | (go_simp; rfl)); intro gb295 hg w8 hbox hb; have _ := Aside0.mk (blk_below (bu BK294.out) hb); have _ := Aside0.mk (below_step (beu HB.out) hb); have _ := Aside0.mk (hbox); have _ := Aside0.mk ((by rw [hg]; exact (below_size (beu HB.out)) : w.heap.size ≤ gb295)); have _ := Aside0.mk ((by rw [hg]; exact (below_size (beu HB.out)) : w.heap.size ≤ gb295)); have _ := Aside0.mk (nb1 hg BK294.out : gb294 ≠ gb295); have _ := Aside0.mk (nb2 hg BK294.out : gb295 ≠ gb294); clear BK294 HB; rename_i BK294 HB BK295 GW295 GE295 NB294_295 NB295_294; clear hb hbox hg) | ((with_reducible refine gate_callee (f := 10) rfl ?_); refine goesL_ (some 11) rfl rfl Tryd.func10 (by kernel_rfl) rfl #[] rfl ap1 ?_; (with_reducible refine (packhorselaw11_batchAlive.calls k  true _ ?side1 A4.out rfl).mono ?_); (case side1 => first | exact HT.out | exact Tabs.below HT.out (beu HB.out)); rintro e w9 ⟨rfl, hb⟩; refine ⟨_, rfl, ?_⟩; have _ := Aside0.mk (blk_below (bu BK294.out) hb); have _ := Aside0.mk (blk_below (bu BK295.out) hb); have _ := Aside0.mk (below_step (beu HB.out) hb); clear BK294 BK295 HB; rename_i BK294 BK295 HB; (try clear hb); (try clear hb2); (try clear hk); (try clear hi)))
  (try simp only [Act.put, List.setIfInBounds_toArray, List.set_cons_zero, List.set_cons_succ])
  go_cut [24] (fun v24 wc => ∃ (kq : Nat) (x24_5 : Bool), v24 = .bool x24_5 ∧ Aside0 (packhorselaw11_BatchCut.j0 kq a2 x24_5 a0_0 a0_1 a0_2 a0_3 a0_4 a0_5 a0_6 a0_7 l0_8 a1_0 a1_1 a1_2 a1_3 a1_4 a1_5 a1_6 a1_7 l1_8 = some r) ∧ Aside0 (kq ≤ k) ∧ Aside0 (wc.heap[gb294]? = some (.cells #[.int .i64 a0_0, .int .i64 a0_1, .int .i64 a0_2, .int .i64 a0_3, .int .i64 a0_4, .string a0_5, .string a0_6, .string a0_7, (.slice A0_8 l0_8.length c0_8)] 31 (0, 0))) ∧ Aside0 (wc.heap[gb295]? = some (.cells #[.int .i64 a1_0, .int .i64 a1_1, .int .i64 a1_2, .int .i64 a1_3, .int .i64 a1_4, .string a1_5, .string a1_6, .string a1_7, (.slice A1_8 l1_8.length c1_8)] 31 (0, 0))) ∧ Aside0 (Below w.heap.size w wc))
  case first =>
   have H := HC6.out; clear HC6; replace H := obm H; obtain ⟨t297, A100, H⟩ := H; replace H : (if t297 = true then ((batch_Right.f k a1_0 a1_1 a1_2 a1_3 a1_4 a1_5 a1_6 a1_7 l1_8).bind fun t298 => (if t298 = true then (packhorselaw11_BatchCut.j0 k a2 (decide (a2 < 0)) a0_0 a0_1 a0_2 a0_3 a0_4 a0_5 a0_6 a0_7 l0_8 a1_0 a1_1 a1_2 a1_3 a1_4 a1_5 a1_6 a1_7 l1_8) else (packhorselaw11_BatchCut.j0 k a2 true a0_0 a0_1 a0_2 a0_3 a0_4 a0_5 a0_6 a0_7 l0_8 a1_0 a1_1 a1_2 a1_3 a1_4 a1_5 a1_6 a1_7 l1_8))) else (packhorselaw11_BatchCut.j0 k a2 true a0_0 a0_1 a0_2 a0_3 a0_4 a0_5 a0_6 a0_7 l0_8 a1_0 a1_1 a1_2 a1_3 a1_4 a1_5 a1_6 a1_7 l1_8)) = some r := H; have A10 := Aside0.mk A100; clear A100
   by_cases c11 : t297 = true
   ·subst c11
    have H1 : ((batch_Right.f k a1_0 a1_1 a1_2 a1_3 a1_4 a1_5 a1_6 a1_7 l1_8).bind fun t298 => (if t298 = true then (packhorselaw11_BatchCut.j0 k a2 (decide (a2 < 0)) a0_0 a0_1 a0_2 a0_3 a0_4 a0_5 a0_6 a0_7 l0_8 a1_0 a1_1 a1_2 a1_3 a1_4 a1_5 a1_6 a1_7 l1_8) else (packhorselaw11_BatchCut.j0 k a2 true a0_0 a0_1 a0_2 a0_3 a0_4 a0_5 a0_6 a0_7 l0_8 a1_0 a1_1 a1_2 a1_3 a1_4 a1_5 a1_6 a1_7 l1_8))) = some r := by rw [if_pos rfl] at H; exact H
    clear H; have H := H1; clear H1; replace H := obm H; obtain ⟨t298, A120, H⟩ := H; replace H : (if t298 = true then (packhorselaw11_BatchCut.j0 k a2 (decide (a2 < 0)) a0_0 a0_1 a0_2 a0_3 a0_4 a0_5 a0_6 a0_7 l0_8 a1_0 a1_1 a1_2 a1_3 a1_4 a1_5 a1_6 a1_7 l1_8) else (packhorselaw11_BatchCut.j0 k a2 true a0_0 a0_1 a0_2 a0_3 a0_4 a0_5 a0_6 a0_7 l0_8 a1_0 a1_1 a1_2 a1_3 a1_4 a1_5 a1_6 a1_7 l1_8)) = some r := H; have A12 := Aside0.mk A120; clear A120
    by_cases c13 : t298 = true
    ·subst c13
     have H1 : (packhorselaw11_BatchCut.j0 k a2 (decide (a2 < 0)) a0_0 a0_1 a0_2 a0_3 a0_4 a0_5 a0_6 a0_7 l0_8 a1_0 a1_1 a1_2 a1_3 a1_4 a1_5 a1_6 a1_7 l1_8) = some r := by rw [if_pos rfl] at H; exact H
     clear H; have H := H1; clear H1; have H' := Aside0.mk H; clear H; have hnb14 := NB294_295.out; have hnc14 := NB295_294.out; obtain ⟨hcz15_0, hcz15_1, hcz15_2, hcz15_3, hcz15_4, hcz15_5, hcz15_6, hcz15_7, hcz15_8⟩ := cells9 BK294.out; obtain ⟨hfz15_0, hfz15_1, hfz15_2, hfz15_3, hfz15_4, hfz15_5, hfz15_6, hfz15_7, hfz15_8⟩ := frozens9 BK294.out
     go_wp2_with (first | ((with_reducible refine gate_callee (f := 14) rfl ?_); refine goesL_ (some 14) rfl rfl Tryd.func14 (by kernel_rfl) rfl #[.agg #[.int .i64 a0_0, .int .i64 a0_1, .int .i64 a0_2, .int .i64 a0_3, .int .i64 a0_4, .string a0_5, .string a0_6, .string a0_7, .slice A0_8 l0_8.length c0_8]] rfl ap1 ?_; (with_reducible refine (batch_Right.calls k a0_0 a0_1 a0_2 a0_3 a0_4 a0_5 a0_6 a0_7 _ _ l0_8 true _ ?side1 ?side2 ?side3 A10.out).mono ?_); (case side1 => exact cu (Kd.C_below HR0_8.out HB.out)); (case side2 => exact HC0_8.out); (case side3 => first | exact HT.out | exact Tabs.below HT.out (beu HB.out)); rintro e w16 ⟨rfl, hb⟩; refine ⟨_, rfl, ?_⟩; have _ := Aside0.mk (blk_below (bu BK294.out) hb); have _ := Aside0.mk (blk_below (bu BK295.out) hb); have _ := Aside0.mk (below_step (beu HB.out) hb); clear BK294 BK295 HB; rename_i BK294 BK295 HB; (try clear hb); (try clear hb2); (try clear hk); (try clear hi); obtain ⟨hcz17_0, hcz17_1, hcz17_2, hcz17_3, hcz17_4, hcz17_5, hcz17_6, hcz17_7, hcz17_8⟩ := cells9 BK295.out; obtain ⟨hfz17_0, hfz17_1, hfz17_2, hfz17_3, hfz17_4, hfz17_5, hfz17_6, hfz17_7, hfz17_8⟩ := frozens9 BK295.out) | (go_at_call 14; (with_reducible refine (batch_Right.calls k a1_0 a1_1 a1_2 a1_3 a1_4 a1_5 a1_6 a1_7 _ _ l1_8 true _ ?side1 ?side2 ?side3 A12.out).mono ?_); (case side1 => exact cu (Kd.C_below HR1_8.out HB.out)); (case side2 => exact HC1_8.out); (case side3 => first | exact HT.out | exact Tabs.below HT.out (beu HB.out)); rintro e w18 ⟨rfl, hb⟩; have _ := Aside0.mk (blk_below (bu BK294.out) hb); have _ := Aside0.mk (blk_below (bu BK295.out) hb); have _ := Aside0.mk (below_step (beu HB.out) hb); clear BK294 BK295 HB; rename_i BK294 BK295 HB; (try clear hb); (try clear hb2); (try clear hk); (try clear hi)))
     go_meet
     case rel => exact ⟨_, (decide (a2 < 0)), ap3, H', ⟨by first | omega | exact Nat.le_refl _⟩, ⟨by (with_reducible repeat (first | refine blk_drewN ?_ _ | refine blk_drew ?_ | refine blk_alloc ?_ _)); exact BK294.out⟩, ⟨by (with_reducible repeat (first | refine blk_drewN ?_ _ | refine blk_drew ?_ | refine blk_alloc ?_ _)); exact BK295.out⟩, ⟨beu HB.out⟩⟩
    ·replace c13 := Bool.eq_false_iff.mpr c13
     subst c13
     have H1 : (packhorselaw11_BatchCut.j0 k a2 true a0_0 a0_1 a0_2 a0_3 a0_4 a0_5 a0_6 a0_7 l0_8 a1_0 a1_1 a1_2 a1_3 a1_4 a1_5 a1_6 a1_7 l1_8) = some r := by rw [if_neg (show ¬ (false = true) by decide)] at H; exact H
     clear H; have H := H1; clear H1; have H' := Aside0.mk H; clear H; have hnb19 := NB294_295.out; have hnc19 := NB295_294.out; obtain ⟨hcz20_0, hcz20_1, hcz20_2, hcz20_3, hcz20_4, hcz20_5, hcz20_6, hcz20_7, hcz20_8⟩ := cells9 BK294.out; obtain ⟨hfz20_0, hfz20_1, hfz20_2, hfz20_3, hfz20_4, hfz20_5, hfz20_6, hfz20_7, hfz20_8⟩ := frozens9 BK294.out
     go_wp2_with (first | ((with_reducible refine gate_callee (f := 14) rfl ?_); refine goesL_ (some 14) rfl rfl Tryd.func14 (by kernel_rfl) rfl #[.agg #[.int .i64 a0_0, .int .i64 a0_1, .int .i64 a0_2, .int .i64 a0_3, .int .i64 a0_4, .string a0_5, .string a0_6, .string a0_7, .slice A0_8 l0_8.length c0_8]] rfl ap1 ?_; (with_reducible refine (batch_Right.calls k a0_0 a0_1 a0_2 a0_3 a0_4 a0_5 a0_6 a0_7 _ _ l0_8 true _ ?side1 ?side2 ?side3 A10.out).mono ?_); (case side1 => exact cu (Kd.C_below HR0_8.out HB.out)); (case side2 => exact HC0_8.out); (case side3 => first | exact HT.out | exact Tabs.below HT.out (beu HB.out)); rintro e w21 ⟨rfl, hb⟩; refine ⟨_, rfl, ?_⟩; have _ := Aside0.mk (blk_below (bu BK294.out) hb); have _ := Aside0.mk (blk_below (bu BK295.out) hb); have _ := Aside0.mk (below_step (beu HB.out) hb); clear BK294 BK295 HB; rename_i BK294 BK295 HB; (try clear hb); (try clear hb2); (try clear hk); (try clear hi); obtain ⟨hcz22_0, hcz22_1, hcz22_2, hcz22_3, hcz22_4, hcz22_5, hcz22_6, hcz22_7, hcz22_8⟩ := cells9 BK295.out; obtain ⟨hfz22_0, hfz22_1, hfz22_2, hfz22_3, hfz22_4, hfz22_5, hfz22_6, hfz22_7, hfz22_8⟩ := frozens9 BK295.out) | (go_at_call 14; (with_reducible refine (batch_Right.calls k a1_0 a1_1 a1_2 a1_3 a1_4 a1_5 a1_6 a1_7 _ _ l1_8 false _ ?side1 ?side2 ?side3 A12.out).mono ?_); (case side1 => exact cu (Kd.C_below HR1_8.out HB.out)); (case side2 => exact HC1_8.out); (case side3 => first | exact HT.out | exact Tabs.below HT.out (beu HB.out)); rintro e w23 ⟨rfl, hb⟩; have _ := Aside0.mk (blk_below (bu BK294.out) hb); have _ := Aside0.mk (blk_below (bu BK295.out) hb); have _ := Aside0.mk (below_step (beu HB.out) hb); clear BK294 BK295 HB; rename_i BK294 BK295 HB; (try clear hb); (try clear hb2); (try clear hk); (try clear hi)))
     go_meet
     case rel => exact ⟨_, (true), ap3, H', ⟨by first | omega | exact Nat.le_refl _⟩, ⟨by (with_reducible repeat (first | refine blk_drewN ?_ _ | refine blk_drew ?_ | refine blk_alloc ?_ _)); exact BK294.out⟩, ⟨by (with_reducible repeat (first | refine blk_drewN ?_ _ | refine blk_drew ?_ | refine blk_alloc ?_ _)); exact BK295.out⟩, ⟨beu HB.out⟩⟩
   ·replace c11 := Bool.eq_false_iff.mpr c11
    subst c11
    have H1 : (packhorselaw11_BatchCut.j0 k a2 true a0_0 a0_1 a0_2 a0_3 a0_4 a0_5 a0_6 a0_7 l0_8 a1_0 a1_1 a1_2 a1_3 a1_4 a1_5 a1_6 a1_7 l1_8) = some r := by rw [if_neg (show ¬ (false = true) by decide)] at H; exact H
    clear H; have H := H1; clear H1; have H' := Aside0.mk H; clear H; have hnb24 := NB294_295.out; have hnc24 := NB295_294.out; obtain ⟨hcz25_0, hcz25_1, hcz25_2, hcz25_3, hcz25_4, hcz25_5, hcz25_6, hcz25_7, hcz25_8⟩ := cells9 BK294.out; obtain ⟨hfz25_0, hfz25_1, hfz25_2, hfz25_3, hfz25_4, hfz25_5, hfz25_6, hfz25_7, hfz25_8⟩ := frozens9 BK294.out
    go_wp2_with (first | ((with_reducible refine gate_callee (f := 14) rfl ?_); refine goesL_ (some 14) rfl rfl Tryd.func14 (by kernel_rfl) rfl #[.agg #[.int .i64 a0_0, .int .i64 a0_1, .int .i64 a0_2, .int .i64 a0_3, .int .i64 a0_4, .string a0_5, .string a0_6, .string a0_7, .slice A0_8 l0_8.length c0_8]] rfl ap1 ?_; (with_reducible refine (batch_Right.calls k a0_0 a0_1 a0_2 a0_3 a0_4 a0_5 a0_6 a0_7 _ _ l0_8 false _ ?side1 ?side2 ?side3 A10.out).mono ?_); (case side1 => exact cu (Kd.C_below HR0_8.out HB.out)); (case side2 => exact HC0_8.out); (case side3 => first | exact HT.out | exact Tabs.below HT.out (beu HB.out)); rintro e w26 ⟨rfl, hb⟩; refine ⟨_, rfl, ?_⟩; have _ := Aside0.mk (blk_below (bu BK294.out) hb); have _ := Aside0.mk (blk_below (bu BK295.out) hb); have _ := Aside0.mk (below_step (beu HB.out) hb); clear BK294 BK295 HB; rename_i BK294 BK295 HB; (try clear hb); (try clear hb2); (try clear hk); (try clear hi)))
    go_meet
    case rel => exact ⟨_, (true), ap3, H', ⟨by first | omega | exact Nat.le_refl _⟩, ⟨by (with_reducible repeat (first | refine blk_drewN ?_ _ | refine blk_drew ?_ | refine blk_alloc ?_ _)); exact BK294.out⟩, ⟨by (with_reducible repeat (first | refine blk_drewN ?_ _ | refine blk_drew ?_ | refine blk_alloc ?_ _)); exact BK295.out⟩, ⟨beu HB.out⟩⟩
  case rest =>
   clear HC6; (try clear c1); (try clear c2); (try clear p2); (try clear c5); (try clear c9); (try clear c10); (try clear c11); (try clear c13); (try clear c14); (try clear c19); (try clear c24); (try clear hcz15_0); (try clear hcz15_1); (try clear hcz15_2); (try clear hcz15_3); (try clear hcz15_4); (try clear hcz15_5); (try clear hcz15_6); (try clear hcz15_7); (try clear hcz15_8); (try clear hcz17_0); (try clear hcz17_1); (try clear hcz17_2); (try clear hcz17_3); (try clear hcz17_4); (try clear hcz17_5); (try clear hcz17_6); (try clear hcz17_7); (try clear hcz17_8); (try clear hcz20_0); (try clear hcz20_1); (try clear hcz20_2); (try clear hcz20_3); (try clear hcz20_4); (try clear hcz20_5); (try clear hcz20_6); (try clear hcz20_7); (try clear hcz20_8); (try clear hcz22_0); (try clear hcz22_1); (try clear hcz22_2); (try clear hcz22_3); (try clear hcz22_4); (try clear hcz22_5); (try clear hcz22_6); (try clear hcz22_7); (try clear hcz22_8); (try clear hcz25_0); (try clear hcz25_1); (try clear hcz25_2); (try clear hcz25_3); (try clear hcz25_4); (try clear hcz25_5); (try clear hcz25_6); (try clear hcz25_7); (try clear hcz25_8); (try clear hfz15_0); (try clear hfz15_1); (try clear hfz15_2); (try clear hfz15_3); (try clear hfz15_4); (try clear hfz15_5); (try clear hfz15_6); (try clear hfz15_7); (try clear hfz15_8); (try clear hfz17_0); (try clear hfz17_1); (try clear hfz17_2); (try clear hfz17_3); (try clear hfz17_4); (try clear hfz17_5); (try clear hfz17_6); (try clear hfz17_7); (try clear hfz17_8); (try clear hfz20_0); (try clear hfz20_1); (try clear hfz20_2); (try clear hfz20_3); (try clear hfz20_4); (try clear hfz20_5); (try clear hfz20_6); (try clear hfz20_7); (try clear hfz20_8); (try clear hfz22_0); (try clear hfz22_1); (try clear hfz22_2); (try clear hfz22_3); (try clear hfz22_4); (try clear hfz22_5); (try clear hfz22_6); (try clear hfz22_7); (try clear hfz22_8); (try clear hfz25_0); (try clear hfz25_1); (try clear hfz25_2); (try clear hfz25_3); (try clear hfz25_4); (try clear hfz25_5); (try clear hfz25_6); (try clear hfz25_7); (try clear hfz25_8); obtain ⟨kq, x24_5, rfl, HA, HJ5, BK294, BK295, HB⟩ := hcut
   cases kq with
   | zero => exact absurd HA.out (by simp [packhorselaw11_BatchCut.j0])
   | succ kj5 =>
    have H := HA.out; clear HA; simp only [packhorselaw11_BatchCut.j0] at H
    by_cases c27 : x24_5 = true
    ·subst c27
     have H1 : (some true) = some r := by rw [if_pos rfl] at H; exact H
     clear H; have H := H1; clear H1; obtain rfl := Option.some.inj H; simp only [Option.some.injEq, Prod.mk.injEq] at H; obtain ⟨rfl⟩ := H
     go_wp2
     go_ret
     exact ⟨ap4, beu HB.out⟩
    ·replace c27 := Bool.eq_false_iff.mpr c27
     subst c27
     have H1 : ((batch_Put.f kj5 ([] : List Int) a0_0 a0_1 a0_2 a0_3 a0_4 a0_5 a0_6 a0_7 l0_8).bind fun t299 => ((batch_Put.f kj5 ([] : List Int) a1_0 a1_1 a1_2 a1_3 a1_4 a1_5 a1_6 a1_7 l1_8).bind fun t302 => ((batch_Same.f kj5 a0_0 a0_1 a0_2 a0_3 a0_4 a0_5 a0_6 a0_7 l0_8 a1_0 a1_1 a1_2 a1_3 a1_4 a1_5 a1_6 a1_7 l1_8).bind fun t305 => (if (((strOfNums t299).toList == (strOfNums t302).toList) != t305) = true then (some false) else (if a2 ≥ (t299.length : Int) then (some true) else (if 0 ≤ a2 then (if a2 ≤ (t299.length : Int) then ((packet_New.f (t299.take (a2 : Int).toNat)).bind fun bt310 => ((batch_Take.f kj5 bt310.1 bt310.2).bind fun bt313 => (if bt313.2.2.2.2.2.2.2.2.2.1 = true then (some false) else ((batch_Same.f kj5 bt313.1 bt313.2.1 bt313.2.2.1 bt313.2.2.2.1 bt313.2.2.2.2.1 bt313.2.2.2.2.2.1 bt313.2.2.2.2.2.2.1 bt313.2.2.2.2.2.2.2.1 bt313.2.2.2.2.2.2.2.2.1 0 0 0 0 0 ⟨#[]⟩ ⟨#[]⟩ ⟨#[]⟩ ([] : List ByteArray)).bind fun t328 => (some t328))))) else (none)) else (none))))))) = some r := by rw [if_neg (show ¬ (false = true) by decide)] at H; exact H
     clear H; have H := H1; clear H1; replace H := obm H; obtain ⟨t299, A280, H⟩ := H; replace H : ((batch_Put.f kj5 ([] : List Int) a1_0 a1_1 a1_2 a1_3 a1_4 a1_5 a1_6 a1_7 l1_8).bind fun t302 => ((batch_Same.f kj5 a0_0 a0_1 a0_2 a0_3 a0_4 a0_5 a0_6 a0_7 l0_8 a1_0 a1_1 a1_2 a1_3 a1_4 a1_5 a1_6 a1_7 l1_8).bind fun t305 => (if (((strOfNums t299).toList == (strOfNums t302).toList) != t305) = true then (some false) else (if a2 ≥ (t299.length : Int) then (some true) else (if 0 ≤ a2 then (if a2 ≤ (t299.length : Int) then ((packet_New.f (t299.take (a2 : Int).toNat)).bind fun bt310 => ((batch_Take.f kj5 bt310.1 bt310.2).bind fun bt313 => (if bt313.2.2.2.2.2.2.2.2.2.1 = true then (some false) else ((batch_Same.f kj5 bt313.1 bt313.2.1 bt313.2.2.1 bt313.2.2.2.1 bt313.2.2.2.2.1 bt313.2.2.2.2.2.1 bt313.2.2.2.2.2.2.1 bt313.2.2.2.2.2.2.2.1 bt313.2.2.2.2.2.2.2.2.1 0 0 0 0 0 ⟨#[]⟩ ⟨#[]⟩ ⟨#[]⟩ ([] : List ByteArray)).bind fun t328 => (some t328))))) else (none)) else (none)))))) = some r := H; have A28 := Aside0.mk A280; clear A280; replace H := obm H; obtain ⟨t302, A290, H⟩ := H; replace H : ((batch_Same.f kj5 a0_0 a0_1 a0_2 a0_3 a0_4 a0_5 a0_6 a0_7 l0_8 a1_0 a1_1 a1_2 a1_3 a1_4 a1_5 a1_6 a1_7 l1_8).bind fun t305 => (if (((strOfNums t299).toList == (strOfNums t302).toList) != t305) = true then (some false) else (if a2 ≥ (t299.length : Int) then (some true) else (if 0 ≤ a2 then (if a2 ≤ (t299.length : Int) then ((packet_New.f (t299.take (a2 : Int).toNat)).bind fun bt310 => ((batch_Take.f kj5 bt310.1 bt310.2).bind fun bt313 => (if bt313.2.2.2.2.2.2.2.2.2.1 = true then (some false) else ((batch_Same.f kj5 bt313.1 bt313.2.1 bt313.2.2.1 bt313.2.2.2.1 bt313.2.2.2.2.1 bt313.2.2.2.2.2.1 bt313.2.2.2.2.2.2.1 bt313.2.2.2.2.2.2.2.1 bt313.2.2.2.2.2.2.2.2.1 0 0 0 0 0 ⟨#[]⟩ ⟨#[]⟩ ⟨#[]⟩ ([] : List ByteArray)).bind fun t328 => (some t328))))) else (none)) else (none))))) = some r := H; have A29 := Aside0.mk A290; clear A290; replace H := obm H; obtain ⟨t305, A300, H⟩ := H; replace H : (if (((strOfNums t299).toList == (strOfNums t302).toList) != t305) = true then (some false) else (if a2 ≥ (t299.length : Int) then (some true) else (if 0 ≤ a2 then (if a2 ≤ (t299.length : Int) then ((packet_New.f (t299.take (a2 : Int).toNat)).bind fun bt310 => ((batch_Take.f kj5 bt310.1 bt310.2).bind fun bt313 => (if bt313.2.2.2.2.2.2.2.2.2.1 = true then (some false) else ((batch_Same.f kj5 bt313.1 bt313.2.1 bt313.2.2.1 bt313.2.2.2.1 bt313.2.2.2.2.1 bt313.2.2.2.2.2.1 bt313.2.2.2.2.2.2.1 bt313.2.2.2.2.2.2.2.1 bt313.2.2.2.2.2.2.2.2.1 0 0 0 0 0 ⟨#[]⟩ ⟨#[]⟩ ⟨#[]⟩ ([] : List ByteArray)).bind fun t328 => (some t328))))) else (none)) else (none)))) = some r := H; have A30 := Aside0.mk A300; clear A300
     by_cases c31 : (((strOfNums t299).toList == (strOfNums t302).toList) != t305) = true
     ·rw [if_pos c31] at H
      have c31b0 : (((strOfNums t299).toList == (strOfNums t302).toList) != t305) = true := c31
      (try (have c31b1 : decide (((strOfNums t299).toList == (strOfNums t302).toList) = t305) = false := by simpa using c31))
      (try (have c31b2 : (((strOfNums t299).toList == (strOfNums t302).toList) == t305) = false := by simpa using c31))
      (try (have c31b3 : ¬ (((strOfNums t299).toList == (strOfNums t302).toList) = t305) := by simpa using c31))
      clear c31; obtain rfl := Option.some.inj H
      exact absurd HRT.out (by decide)
     ·rw [if_neg c31] at H
      have c31b0 : (((strOfNums t299).toList == (strOfNums t302).toList) != t305) = false := by simpa using c31
      (try (have c31b1 : decide (((strOfNums t299).toList == (strOfNums t302).toList) = t305) = true := by simpa using c31))
      (try (have c31b2 : (((strOfNums t299).toList == (strOfNums t302).toList) == t305) = true := by simpa using c31))
      clear c31
      by_cases c32 : a2 ≥ (t299.length : Int)
      ·rw [if_pos c32] at H
       have c32b0 : decide ((t299.length : Int) ≤ a2) = true := decide_eq_true c32; clear c32; obtain rfl := Option.some.inj H; simp only [Option.some.injEq, Prod.mk.injEq] at H; obtain ⟨rfl⟩ := H
       try go_wp2
       (try (rw [drewN_self wc]; generalize hq_ : World.drewN wc _ = wc; have _ := Aside0.mk (blk_at hq_ BK294.out); have _ := Aside0.mk (blk_at hq_ BK295.out); have _ := Aside0.mk (below_at hq_ HB.out); clear hq_ BK294 BK295 HB; rename_i BK294 BK295 HB))
       have n0_ := Aside0.mk (blk_drew BK294.out); have n1_ := Aside0.mk (blk_drew BK295.out); have n2_ := Aside0.mk (below_drew1 HB.out); clear BK294 BK295 HB; have BK294 := n0_; have BK295 := n1_; have HB := n2_; clear n0_ n1_ n2_
       refine start_ (n := 6) (S := fun w' => w'.cell? ⟨gb294, 0, none⟩ = some (.int .i64 a0_0) ∧ w'.cell? ⟨gb294, 1, none⟩ = some (.int .i64 a0_1) ∧ w'.cell? ⟨gb294, 2, none⟩ = some (.int .i64 a0_2) ∧ w'.cell? ⟨gb294, 3, none⟩ = some (.int .i64 a0_3) ∧ w'.cell? ⟨gb294, 4, none⟩ = some (.int .i64 a0_4) ∧ w'.cell? ⟨gb294, 5, none⟩ = some (.string a0_5) ∧ w'.cell? ⟨gb294, 6, none⟩ = some (.string a0_6) ∧ w'.cell? ⟨gb294, 7, none⟩ = some (.string a0_7) ∧ w'.cell? ⟨gb294, 8, none⟩ = some (.slice A0_8 l0_8.length c0_8) ∧ w'.cell? ⟨gb295, 0, none⟩ = some (.int .i64 a1_0) ∧ w'.cell? ⟨gb295, 1, none⟩ = some (.int .i64 a1_1) ∧ w'.cell? ⟨gb295, 2, none⟩ = some (.int .i64 a1_2) ∧ w'.cell? ⟨gb295, 3, none⟩ = some (.int .i64 a1_3) ∧ w'.cell? ⟨gb295, 4, none⟩ = some (.int .i64 a1_4) ∧ w'.cell? ⟨gb295, 5, none⟩ = some (.string a1_5) ∧ w'.cell? ⟨gb295, 6, none⟩ = some (.string a1_6) ∧ w'.cell? ⟨gb295, 7, none⟩ = some (.string a1_7) ∧ w'.cell? ⟨gb295, 8, none⟩ = some (.slice A1_8 l1_8.length c1_8)) (ds := []) #[false, false, false, false, false, false] (by kernel_rfl) rfl rfl ⟨(blk_cell BK294.out 0).trans rfl, (blk_cell BK294.out 1).trans rfl, (blk_cell BK294.out 2).trans rfl, (blk_cell BK294.out 3).trans rfl, (blk_cell BK294.out 4).trans rfl, (blk_cell BK294.out 5).trans rfl, (blk_cell BK294.out 6).trans rfl, (blk_cell BK294.out 7).trans rfl, (blk_cell BK294.out 8).trans rfl, (blk_cell BK295.out 0).trans rfl, (blk_cell BK295.out 1).trans rfl, (blk_cell BK295.out 2).trans rfl, (blk_cell BK295.out 3).trans rfl, (blk_cell BK295.out 4).trans rfl, (blk_cell BK295.out 5).trans rfl, (blk_cell BK295.out 6).trans rfl, (blk_cell BK295.out 7).trans rfl, (blk_cell BK295.out 8).trans rfl⟩ (fun hHeld => ?_)
       generalize wc.drew = w33 at BK294 BK295 HB hHeld ⊢
       refine take_ (i := 0) (N := some 25) (v := ?_) (a' := ?_) (bs 6 1) rfl rfl (by kernel_rfl) (fun _ _ _ h => h) (Or.inl ⟨by rfl, ?_⟩) hHeld ?_ ?_
       rotate_left
       ·rintro w' ⟨s0, s1, s2, s3, s4, s5, s6, s7, s8, s9, s10, s11, s12, s13, s14, s15, s16, s17⟩
        go_simp
        with_reducible rfl
       rotate_left
       ·simp only [Act.put, List.setIfInBounds_toArray, List.set_cons_zero, List.set_cons_succ, i64_w, i32_w]
        rfl
       refine take_ (i := 2) (N := some 27) (v := ?_) (a' := ?_) (bs 6 5) rfl rfl (by kernel_rfl) (fun _ _ _ h => h) (Or.inl ⟨by rfl, ?_⟩) hHeld ?_ ?_
       rotate_left
       ·rintro w' ⟨s0, s1, s2, s3, s4, s5, s6, s7, s8, s9, s10, s11, s12, s13, s14, s15, s16, s17⟩
        go_simp
        with_reducible rfl
       rotate_left
       ·simp only [Act.put, List.setIfInBounds_toArray, List.set_cons_zero, List.set_cons_succ, i64_w, i32_w]
        rfl
       refine one_ (i := 1) (N := some 26) (bs 6 7) rfl rfl (by kernel_rfl) (by decide) (fun K hK => ?_)
       refine goes_ Tryd.func28 (by kernel_rfl) rfl #[.slice none 0 0, .agg #[.int .i64 a0_0, .int .i64 a0_1, .int .i64 a0_2, .int .i64 a0_3, .int .i64 a0_4, .string a0_5, .string a0_6, .string a0_7, .slice A0_8 l0_8.length c0_8]] (by rfl) rfl rfl ap1 ?_
       refine (batch_Put.calls kj5 _ _ ([] : List Int) a0_0 a0_1 a0_2 a0_3 a0_4 a0_5 a0_6 a0_7 _ _ l0_8 t299 _ ?side1 ?side2 ?side3 ?side4 A28.out).mono ?_
       (case side1 => exact Kd.C_nil _ _)
       (case side2 => exact Nat.le_refl _)
       (case side3 => exact cu (Kd.C_below HR0_8.out HB.out))
       (case side4 => exact HC0_8.out)
       rintro e w34 ⟨v300, rfl, ho0, hb⟩
       refine ⟨_, rfl, ?_⟩
       have n0_ := Aside0.mk (Kd.R_lower ho0 (below_size (beu HB.out))); have n1_ := Aside0.mk (blk_below (bu BK294.out) hb); have n2_ := Aside0.mk (blk_below (bu BK295.out) hb); have n3_ := Aside0.mk (below_step (beu HB.out) hb); clear BK294 BK295 HB; have HO301 := n0_; have BK294 := n1_; have BK295 := n2_; have HB := n3_; clear n0_ n1_ n2_ n3_
       (try clear hb)
       (try clear hb2)
       (try clear hk)
       (try clear hi)
       (try clear ho0)
       refine hK.out _ _ ⟨(blk_cell BK294.out 0).trans rfl, (blk_cell BK294.out 1).trans rfl, (blk_cell BK294.out 2).trans rfl, (blk_cell BK294.out 3).trans rfl, (blk_cell BK294.out 4).trans rfl, (blk_cell BK294.out 5).trans rfl, (blk_cell BK294.out 6).trans rfl, (blk_cell BK294.out 7).trans rfl, (blk_cell BK294.out 8).trans rfl, (blk_cell BK295.out 0).trans rfl, (blk_cell BK295.out 1).trans rfl, (blk_cell BK295.out 2).trans rfl, (blk_cell BK295.out 3).trans rfl, (blk_cell BK295.out 4).trans rfl, (blk_cell BK295.out 5).trans rfl, (blk_cell BK295.out 6).trans rfl, (blk_cell BK295.out 7).trans rfl, (blk_cell BK295.out 8).trans rfl⟩ (fun hHeld => ?_)
       clear hK K
       refine norm_ (a' := ?_) ?_ ?_
       rotate_left
       ·show Act.put _ (some 26) _ = _
        simp only [Act.put, List.setIfInBounds_toArray, List.set_cons_zero, List.set_cons_succ, i64_w, i32_w]
        rfl
       refine one_ (i := 3) (N := some 28) (bs 6 15) rfl rfl (by kernel_rfl) (by decide) (fun K hK => ?_)
       refine goes_ Tryd.func28 (by kernel_rfl) rfl #[.slice none 0 0, .agg #[.int .i64 a1_0, .int .i64 a1_1, .int .i64 a1_2, .int .i64 a1_3, .int .i64 a1_4, .string a1_5, .string a1_6, .string a1_7, .slice A1_8 l1_8.length c1_8]] (by rfl) rfl rfl ap1 ?_
       refine (batch_Put.calls kj5 _ _ ([] : List Int) a1_0 a1_1 a1_2 a1_3 a1_4 a1_5 a1_6 a1_7 _ _ l1_8 t302 _ ?side1 ?side2 ?side3 ?side4 A29.out).mono ?_
       (case side1 => exact Kd.C_nil _ _)
       (case side2 => exact Nat.le_refl _)
       (case side3 => exact cu (Kd.C_below HR1_8.out HB.out))
       (case side4 => exact HC1_8.out)
       rintro e w35 ⟨v303, rfl, ho0, hb⟩
       refine ⟨_, rfl, ?_⟩
       have n0_ := Aside0.mk (Kd.R_elder' (ru HO301.out) (Kd.R_base ho0) hb); have n1_ := Aside0.mk (Kd.R_lower (Kd.R_new' ho0 (Kd.R_lt (ru HO301.out))) (below_size (beu HB.out))); have n2_ := Aside0.mk (blk_below (bu BK294.out) hb); have n3_ := Aside0.mk (blk_below (bu BK295.out) hb); have n4_ := Aside0.mk (below_step (beu HB.out) hb); clear HO301 BK294 BK295 HB; have HO301 := n0_; have HO304 := n1_; have BK294 := n2_; have BK295 := n3_; have HB := n4_; clear n0_ n1_ n2_ n3_ n4_
       (try clear hb)
       (try clear hb2)
       (try clear hk)
       (try clear hi)
       (try clear ho0)
       refine hK.out _ _ ⟨(blk_cell BK294.out 0).trans rfl, (blk_cell BK294.out 1).trans rfl, (blk_cell BK294.out 2).trans rfl, (blk_cell BK294.out 3).trans rfl, (blk_cell BK294.out 4).trans rfl, (blk_cell BK294.out 5).trans rfl, (blk_cell BK294.out 6).trans rfl, (blk_cell BK294.out 7).trans rfl, (blk_cell BK294.out 8).trans rfl, (blk_cell BK295.out 0).trans rfl, (blk_cell BK295.out 1).trans rfl, (blk_cell BK295.out 2).trans rfl, (blk_cell BK295.out 3).trans rfl, (blk_cell BK295.out 4).trans rfl, (blk_cell BK295.out 5).trans rfl, (blk_cell BK295.out 6).trans rfl, (blk_cell BK295.out 7).trans rfl, (blk_cell BK295.out 8).trans rfl⟩ (fun hHeld => ?_)
       clear hK K
       refine norm_ (a' := ?_) ?_ ?_
       rotate_left
       ·show Act.put _ (some 28) _ = _
        simp only [Act.put, List.setIfInBounds_toArray, List.set_cons_zero, List.set_cons_succ, i64_w, i32_w]
        rfl
       refine pure_ (i := 4) (N := some 7) (v := ?_) (a' := ?_) (bs 6 31) rfl rfl (by kernel_rfl) (fun _ _ _ h => h) (Or.inl ⟨by rfl, ?_⟩) ?_ ?_
       rotate_left
       ·intro w'
        go_simp
        with_reducible rfl
       rotate_left
       ·simp only [Act.put, List.setIfInBounds_toArray, List.set_cons_zero, List.set_cons_succ, i64_w, i32_w]
        rfl
       refine pure_ (i := 5) (N := some 8) (v := ?_) (a' := ?_) (bs 6 63) rfl rfl (by kernel_rfl) (fun _ _ _ h => h) (Or.inl ⟨by rfl, ?_⟩) ?_ ?_
       rotate_left
       ·intro w'
        go_simp
        with_reducible rfl
       rotate_left
       ·simp only [Act.put, List.setIfInBounds_toArray, List.set_cons_zero, List.set_cons_succ, i64_w, i32_w]
        rfl
       refine done_ (by kernel_rfl) ?_
       try go_wp2
       (try (rw [drewN_self w35]; generalize hq_ : World.drewN w35 _ = w35; have _ := Aside0.mk (show Kd.R _ _ w35 _ _ _ _ from by rw [← hq_]; exact Kd.R_drewN HO301.out _); have _ := Aside0.mk (show Kd.R _ _ w35 _ _ _ _ from by rw [← hq_]; exact Kd.R_drewN HO304.out _); have _ := Aside0.mk (blk_at hq_ BK294.out); have _ := Aside0.mk (blk_at hq_ BK295.out); have _ := Aside0.mk (below_at hq_ HB.out); clear hq_ HO301 HO304 BK294 BK295 HB; rename_i HO301 HO304 BK294 BK295 HB))
       have n0_ := Aside0.mk (Kd.R_drew HO301.out); have n1_ := Aside0.mk (Kd.R_drew HO304.out); have n2_ := Aside0.mk (blk_drew BK294.out); have n3_ := Aside0.mk (blk_drew BK295.out); have n4_ := Aside0.mk (below_drew1 HB.out); clear HO301 HO304 BK294 BK295 HB; have HO301 := n0_; have HO304 := n1_; have BK294 := n2_; have BK295 := n3_; have HB := n4_; clear n0_ n1_ n2_ n3_ n4_
       refine start_ (n := 9) (S := fun w' => w'.cell? ⟨gb294, 0, none⟩ = some (.int .i64 a0_0) ∧ w'.cell? ⟨gb294, 1, none⟩ = some (.int .i64 a0_1) ∧ w'.cell? ⟨gb294, 2, none⟩ = some (.int .i64 a0_2) ∧ w'.cell? ⟨gb294, 3, none⟩ = some (.int .i64 a0_3) ∧ w'.cell? ⟨gb294, 4, none⟩ = some (.int .i64 a0_4) ∧ w'.cell? ⟨gb294, 5, none⟩ = some (.string a0_5) ∧ w'.cell? ⟨gb294, 6, none⟩ = some (.string a0_6) ∧ w'.cell? ⟨gb294, 7, none⟩ = some (.string a0_7) ∧ w'.cell? ⟨gb294, 8, none⟩ = some (.slice A0_8 l0_8.length c0_8) ∧ w'.cell? ⟨gb295, 0, none⟩ = some (.int .i64 a1_0) ∧ w'.cell? ⟨gb295, 1, none⟩ = some (.int .i64 a1_1) ∧ w'.cell? ⟨gb295, 2, none⟩ = some (.int .i64 a1_2) ∧ w'.cell? ⟨gb295, 3, none⟩ = some (.int .i64 a1_3) ∧ w'.cell? ⟨gb295, 4, none⟩ = some (.int .i64 a1_4) ∧ w'.cell? ⟨gb295, 5, none⟩ = some (.string a1_5) ∧ w'.cell? ⟨gb295, 6, none⟩ = some (.string a1_6) ∧ w'.cell? ⟨gb295, 7, none⟩ = some (.string a1_7) ∧ w'.cell? ⟨gb295, 8, none⟩ = some (.slice A1_8 l1_8.length c1_8)) (ds := []) #[false, false, false, false, false, false, false, false, false] (by kernel_rfl) rfl rfl ⟨(blk_cell BK294.out 0).trans rfl, (blk_cell BK294.out 1).trans rfl, (blk_cell BK294.out 2).trans rfl, (blk_cell BK294.out 3).trans rfl, (blk_cell BK294.out 4).trans rfl, (blk_cell BK294.out 5).trans rfl, (blk_cell BK294.out 6).trans rfl, (blk_cell BK294.out 7).trans rfl, (blk_cell BK294.out 8).trans rfl, (blk_cell BK295.out 0).trans rfl, (blk_cell BK295.out 1).trans rfl, (blk_cell BK295.out 2).trans rfl, (blk_cell BK295.out 3).trans rfl, (blk_cell BK295.out 4).trans rfl, (blk_cell BK295.out 5).trans rfl, (blk_cell BK295.out 6).trans rfl, (blk_cell BK295.out 7).trans rfl, (blk_cell BK295.out 8).trans rfl⟩ (fun hHeld => ?_); refine with_tabW packhorselaw11_BatchCut.tab6 packhorselaw11_BatchCut.bits6 (fun HT_ HW_ => ?_)
       generalize w35.drew = w36 at HO301 HO304 BK294 BK295 HB hHeld ⊢
       refine pure_ (i := 0) (N := some 29) (v := ?_) (a' := ?_) (bs 9 1) rfl rfl (any_of HT_.out (by kernel_rfl)) (fun _ _ _ h => h) (Or.inl ⟨by rfl, ?_⟩) ?_ ?_
       rotate_left
       ·intro w'
        go_simp
        with_reducible rfl
       rotate_left
       ·simp only [Act.put, List.setIfInBounds_toArray, List.set_cons_zero, List.set_cons_succ, i64_w, i32_w]
        rfl
       refine pure_ (i := 2) (N := some 31) (v := ?_) (a' := ?_) (bs 9 5) rfl rfl (any_of HT_.out (by kernel_rfl)) (fun _ _ _ h => h) (Or.inl ⟨by rfl, ?_⟩) ?_ ?_
       rotate_left
       ·intro w'
        go_simp
        with_reducible rfl
       rotate_left
       ·simp only [Act.put, List.setIfInBounds_toArray, List.set_cons_zero, List.set_cons_succ, i64_w, i32_w]
        rfl
       refine take_ (i := 5) (N := some 34) (v := ?_) (a' := ?_) (bs 9 37) rfl rfl (take_ofW HT_.out HW_.out (by kernel_rfl)) (fun _ _ _ h => h) (Or.inl ⟨by rfl, ?_⟩) hHeld ?_ ?_
       rotate_left
       ·rintro w' ⟨s0, s1, s2, s3, s4, s5, s6, s7, s8, s9, s10, s11, s12, s13, s14, s15, s16, s17⟩
        go_simp
        with_reducible rfl
       rotate_left
       ·simp only [Act.put, List.setIfInBounds_toArray, List.set_cons_zero, List.set_cons_succ, i64_w, i32_w]
        rfl
       refine take_ (i := 6) (N := some 35) (v := ?_) (a' := ?_) (bs 9 101) rfl rfl (take_ofW HT_.out HW_.out (by kernel_rfl)) (fun _ _ _ h => h) (Or.inl ⟨by rfl, ?_⟩) hHeld ?_ ?_
       rotate_left
       ·rintro w' ⟨s0, s1, s2, s3, s4, s5, s6, s7, s8, s9, s10, s11, s12, s13, s14, s15, s16, s17⟩
        go_simp
        with_reducible rfl
       rotate_left
       ·simp only [Act.put, List.setIfInBounds_toArray, List.set_cons_zero, List.set_cons_succ, i64_w, i32_w]
        rfl
       refine join_ (σ := Unit) 1 #[true, true, true, true, true, true, true, true, false] (fun s_ => [(30, .string (strOfNums t299)), (32, .string (strOfNums t302)), (36, .bool t305), (33, .bool ((strOfNums t299).toList == (strOfNums t302).toList))]) (fun s_ w' => (w'.cell? ⟨gb294, 0, none⟩ = some (.int .i64 a0_0) ∧ w'.cell? ⟨gb294, 1, none⟩ = some (.int .i64 a0_1) ∧ w'.cell? ⟨gb294, 2, none⟩ = some (.int .i64 a0_2) ∧ w'.cell? ⟨gb294, 3, none⟩ = some (.int .i64 a0_3) ∧ w'.cell? ⟨gb294, 4, none⟩ = some (.int .i64 a0_4) ∧ w'.cell? ⟨gb294, 5, none⟩ = some (.string a0_5) ∧ w'.cell? ⟨gb294, 6, none⟩ = some (.string a0_6) ∧ w'.cell? ⟨gb294, 7, none⟩ = some (.string a0_7) ∧ w'.cell? ⟨gb294, 8, none⟩ = some (.slice A0_8 l0_8.length c0_8) ∧ w'.cell? ⟨gb295, 0, none⟩ = some (.int .i64 a1_0) ∧ w'.cell? ⟨gb295, 1, none⟩ = some (.int .i64 a1_1) ∧ w'.cell? ⟨gb295, 2, none⟩ = some (.int .i64 a1_2) ∧ w'.cell? ⟨gb295, 3, none⟩ = some (.int .i64 a1_3) ∧ w'.cell? ⟨gb295, 4, none⟩ = some (.int .i64 a1_4) ∧ w'.cell? ⟨gb295, 5, none⟩ = some (.string a1_5) ∧ w'.cell? ⟨gb295, 6, none⟩ = some (.string a1_6) ∧ w'.cell? ⟨gb295, 7, none⟩ = some (.string a1_7) ∧ w'.cell? ⟨gb295, 8, none⟩ = some (.slice A1_8 l1_8.length c1_8)) ∧ (Kd.R (Kd.int .u8) 5 w' w.heap.size (fun k_ => some k_ ≠ (v303 : Value).ownBlock) v300 t299) ∧ (Kd.R (Kd.int .u8) 5 w' w.heap.size (fun k_ => some k_ ≠ (v300 : Value).ownBlock) v303 t302) ∧ (w'.heap[gb294]? = some (.cells #[.int .i64 a0_0, .int .i64 a0_1, .int .i64 a0_2, .int .i64 a0_3, .int .i64 a0_4, .string a0_5, .string a0_6, .string a0_7, .slice A0_8 l0_8.length c0_8] 31 (0, 0))) ∧ (w'.heap[gb295]? = some (.cells #[.int .i64 a1_0, .int .i64 a1_1, .int .i64 a1_2, .int .i64 a1_3, .int .i64 a1_4, .string a1_5, .string a1_6, .string a1_7, .slice A1_8 l1_8.length c1_8] 31 (0, 0))) ∧ (Below w.heap.size w w')) ?_ ?_
       rotate_left
       ·intro hJ1_3_7
        refine join_ (σ := Unit) 2 #[true, true, true, true, true, true, true, false, false] (fun s_ => [(30, .string (strOfNums t299)), (32, .string (strOfNums t302)), (33, .bool ((strOfNums t299).toList == (strOfNums t302).toList))]) (fun s_ w' => (w'.cell? ⟨gb294, 0, none⟩ = some (.int .i64 a0_0) ∧ w'.cell? ⟨gb294, 1, none⟩ = some (.int .i64 a0_1) ∧ w'.cell? ⟨gb294, 2, none⟩ = some (.int .i64 a0_2) ∧ w'.cell? ⟨gb294, 3, none⟩ = some (.int .i64 a0_3) ∧ w'.cell? ⟨gb294, 4, none⟩ = some (.int .i64 a0_4) ∧ w'.cell? ⟨gb294, 5, none⟩ = some (.string a0_5) ∧ w'.cell? ⟨gb294, 6, none⟩ = some (.string a0_6) ∧ w'.cell? ⟨gb294, 7, none⟩ = some (.string a0_7) ∧ w'.cell? ⟨gb294, 8, none⟩ = some (.slice A0_8 l0_8.length c0_8) ∧ w'.cell? ⟨gb295, 0, none⟩ = some (.int .i64 a1_0) ∧ w'.cell? ⟨gb295, 1, none⟩ = some (.int .i64 a1_1) ∧ w'.cell? ⟨gb295, 2, none⟩ = some (.int .i64 a1_2) ∧ w'.cell? ⟨gb295, 3, none⟩ = some (.int .i64 a1_3) ∧ w'.cell? ⟨gb295, 4, none⟩ = some (.int .i64 a1_4) ∧ w'.cell? ⟨gb295, 5, none⟩ = some (.string a1_5) ∧ w'.cell? ⟨gb295, 6, none⟩ = some (.string a1_6) ∧ w'.cell? ⟨gb295, 7, none⟩ = some (.string a1_7) ∧ w'.cell? ⟨gb295, 8, none⟩ = some (.slice A1_8 l1_8.length c1_8)) ∧ (Kd.R (Kd.int .u8) 5 w' w.heap.size (fun k_ => some k_ ≠ (v303 : Value).ownBlock) v300 t299) ∧ (Kd.R (Kd.int .u8) 5 w' w.heap.size (fun k_ => some k_ ≠ (v300 : Value).ownBlock) v303 t302) ∧ (w'.heap[gb294]? = some (.cells #[.int .i64 a0_0, .int .i64 a0_1, .int .i64 a0_2, .int .i64 a0_3, .int .i64 a0_4, .string a0_5, .string a0_6, .string a0_7, .slice A0_8 l0_8.length c0_8] 31 (0, 0))) ∧ (w'.heap[gb295]? = some (.cells #[.int .i64 a1_0, .int .i64 a1_1, .int .i64 a1_2, .int .i64 a1_3, .int .i64 a1_4, .string a1_5, .string a1_6, .string a1_7, .slice A1_8 l1_8.length c1_8] 31 (0, 0))) ∧ (Below w.heap.size w w')) ?_ ?_
        rotate_left
        ·intro hJ1_3
         refine join_ (σ := Unit) 3 #[true, true, true, false, false, true, true, true, false] (fun s_ => [(30, .string (strOfNums t299)), (36, .bool t305)]) (fun s_ w' => (w'.cell? ⟨gb294, 0, none⟩ = some (.int .i64 a0_0) ∧ w'.cell? ⟨gb294, 1, none⟩ = some (.int .i64 a0_1) ∧ w'.cell? ⟨gb294, 2, none⟩ = some (.int .i64 a0_2) ∧ w'.cell? ⟨gb294, 3, none⟩ = some (.int .i64 a0_3) ∧ w'.cell? ⟨gb294, 4, none⟩ = some (.int .i64 a0_4) ∧ w'.cell? ⟨gb294, 5, none⟩ = some (.string a0_5) ∧ w'.cell? ⟨gb294, 6, none⟩ = some (.string a0_6) ∧ w'.cell? ⟨gb294, 7, none⟩ = some (.string a0_7) ∧ w'.cell? ⟨gb294, 8, none⟩ = some (.slice A0_8 l0_8.length c0_8) ∧ w'.cell? ⟨gb295, 0, none⟩ = some (.int .i64 a1_0) ∧ w'.cell? ⟨gb295, 1, none⟩ = some (.int .i64 a1_1) ∧ w'.cell? ⟨gb295, 2, none⟩ = some (.int .i64 a1_2) ∧ w'.cell? ⟨gb295, 3, none⟩ = some (.int .i64 a1_3) ∧ w'.cell? ⟨gb295, 4, none⟩ = some (.int .i64 a1_4) ∧ w'.cell? ⟨gb295, 5, none⟩ = some (.string a1_5) ∧ w'.cell? ⟨gb295, 6, none⟩ = some (.string a1_6) ∧ w'.cell? ⟨gb295, 7, none⟩ = some (.string a1_7) ∧ w'.cell? ⟨gb295, 8, none⟩ = some (.slice A1_8 l1_8.length c1_8)) ∧ (Kd.R (Kd.int .u8) 5 w' w.heap.size (fun k_ => some k_ ≠ (v303 : Value).ownBlock) v300 t299) ∧ (Kd.R (Kd.int .u8) 5 w' w.heap.size (fun k_ => some k_ ≠ (v300 : Value).ownBlock) v303 t302) ∧ (w'.heap[gb294]? = some (.cells #[.int .i64 a0_0, .int .i64 a0_1, .int .i64 a0_2, .int .i64 a0_3, .int .i64 a0_4, .string a0_5, .string a0_6, .string a0_7, .slice A0_8 l0_8.length c0_8] 31 (0, 0))) ∧ (w'.heap[gb295]? = some (.cells #[.int .i64 a1_0, .int .i64 a1_1, .int .i64 a1_2, .int .i64 a1_3, .int .i64 a1_4, .string a1_5, .string a1_6, .string a1_7, .slice A1_8 l1_8.length c1_8] 31 (0, 0))) ∧ (Below w.heap.size w w')) ?_ ?_
         rotate_left
         ·intro hJ1_7
          refine join_ (σ := Unit) 3 #[true, false, true, true, false, true, true, true, false] (fun s_ => [(32, .string (strOfNums t302)), (36, .bool t305)]) (fun s_ w' => (w'.cell? ⟨gb294, 0, none⟩ = some (.int .i64 a0_0) ∧ w'.cell? ⟨gb294, 1, none⟩ = some (.int .i64 a0_1) ∧ w'.cell? ⟨gb294, 2, none⟩ = some (.int .i64 a0_2) ∧ w'.cell? ⟨gb294, 3, none⟩ = some (.int .i64 a0_3) ∧ w'.cell? ⟨gb294, 4, none⟩ = some (.int .i64 a0_4) ∧ w'.cell? ⟨gb294, 5, none⟩ = some (.string a0_5) ∧ w'.cell? ⟨gb294, 6, none⟩ = some (.string a0_6) ∧ w'.cell? ⟨gb294, 7, none⟩ = some (.string a0_7) ∧ w'.cell? ⟨gb294, 8, none⟩ = some (.slice A0_8 l0_8.length c0_8) ∧ w'.cell? ⟨gb295, 0, none⟩ = some (.int .i64 a1_0) ∧ w'.cell? ⟨gb295, 1, none⟩ = some (.int .i64 a1_1) ∧ w'.cell? ⟨gb295, 2, none⟩ = some (.int .i64 a1_2) ∧ w'.cell? ⟨gb295, 3, none⟩ = some (.int .i64 a1_3) ∧ w'.cell? ⟨gb295, 4, none⟩ = some (.int .i64 a1_4) ∧ w'.cell? ⟨gb295, 5, none⟩ = some (.string a1_5) ∧ w'.cell? ⟨gb295, 6, none⟩ = some (.string a1_6) ∧ w'.cell? ⟨gb295, 7, none⟩ = some (.string a1_7) ∧ w'.cell? ⟨gb295, 8, none⟩ = some (.slice A1_8 l1_8.length c1_8)) ∧ (Kd.R (Kd.int .u8) 5 w' w.heap.size (fun k_ => some k_ ≠ (v303 : Value).ownBlock) v300 t299) ∧ (Kd.R (Kd.int .u8) 5 w' w.heap.size (fun k_ => some k_ ≠ (v300 : Value).ownBlock) v303 t302) ∧ (w'.heap[gb294]? = some (.cells #[.int .i64 a0_0, .int .i64 a0_1, .int .i64 a0_2, .int .i64 a0_3, .int .i64 a0_4, .string a0_5, .string a0_6, .string a0_7, .slice A0_8 l0_8.length c0_8] 31 (0, 0))) ∧ (w'.heap[gb295]? = some (.cells #[.int .i64 a1_0, .int .i64 a1_1, .int .i64 a1_2, .int .i64 a1_3, .int .i64 a1_4, .string a1_5, .string a1_6, .string a1_7, .slice A1_8 l1_8.length c1_8] 31 (0, 0))) ∧ (Below w.heap.size w w')) ?_ ?_
          rotate_left
          ·intro hJ3_7
           refine join_ (σ := Unit) 4 #[true, true, true, false, false, true, true, false, false] (fun s_ => [(30, .string (strOfNums t299))]) (fun s_ w' => (w'.cell? ⟨gb294, 0, none⟩ = some (.int .i64 a0_0) ∧ w'.cell? ⟨gb294, 1, none⟩ = some (.int .i64 a0_1) ∧ w'.cell? ⟨gb294, 2, none⟩ = some (.int .i64 a0_2) ∧ w'.cell? ⟨gb294, 3, none⟩ = some (.int .i64 a0_3) ∧ w'.cell? ⟨gb294, 4, none⟩ = some (.int .i64 a0_4) ∧ w'.cell? ⟨gb294, 5, none⟩ = some (.string a0_5) ∧ w'.cell? ⟨gb294, 6, none⟩ = some (.string a0_6) ∧ w'.cell? ⟨gb294, 7, none⟩ = some (.string a0_7) ∧ w'.cell? ⟨gb294, 8, none⟩ = some (.slice A0_8 l0_8.length c0_8) ∧ w'.cell? ⟨gb295, 0, none⟩ = some (.int .i64 a1_0) ∧ w'.cell? ⟨gb295, 1, none⟩ = some (.int .i64 a1_1) ∧ w'.cell? ⟨gb295, 2, none⟩ = some (.int .i64 a1_2) ∧ w'.cell? ⟨gb295, 3, none⟩ = some (.int .i64 a1_3) ∧ w'.cell? ⟨gb295, 4, none⟩ = some (.int .i64 a1_4) ∧ w'.cell? ⟨gb295, 5, none⟩ = some (.string a1_5) ∧ w'.cell? ⟨gb295, 6, none⟩ = some (.string a1_6) ∧ w'.cell? ⟨gb295, 7, none⟩ = some (.string a1_7) ∧ w'.cell? ⟨gb295, 8, none⟩ = some (.slice A1_8 l1_8.length c1_8)) ∧ (Kd.R (Kd.int .u8) 5 w' w.heap.size (fun k_ => some k_ ≠ (v303 : Value).ownBlock) v300 t299) ∧ (Kd.R (Kd.int .u8) 5 w' w.heap.size (fun k_ => some k_ ≠ (v300 : Value).ownBlock) v303 t302) ∧ (w'.heap[gb294]? = some (.cells #[.int .i64 a0_0, .int .i64 a0_1, .int .i64 a0_2, .int .i64 a0_3, .int .i64 a0_4, .string a0_5, .string a0_6, .string a0_7, .slice A0_8 l0_8.length c0_8] 31 (0, 0))) ∧ (w'.heap[gb295]? = some (.cells #[.int .i64 a1_0, .int .i64 a1_1, .int .i64 a1_2, .int .i64 a1_3, .int .i64 a1_4, .string a1_5, .string a1_6, .string a1_7, .slice A1_8 l1_8.length c1_8] 31 (0, 0))) ∧ (Below w.heap.size w w')) ?_ ?_
           rotate_left
           ·intro hJ1
            refine join_ (σ := Unit) 4 #[true, false, true, true, false, true, true, false, false] (fun s_ => [(32, .string (strOfNums t302))]) (fun s_ w' => (w'.cell? ⟨gb294, 0, none⟩ = some (.int .i64 a0_0) ∧ w'.cell? ⟨gb294, 1, none⟩ = some (.int .i64 a0_1) ∧ w'.cell? ⟨gb294, 2, none⟩ = some (.int .i64 a0_2) ∧ w'.cell? ⟨gb294, 3, none⟩ = some (.int .i64 a0_3) ∧ w'.cell? ⟨gb294, 4, none⟩ = some (.int .i64 a0_4) ∧ w'.cell? ⟨gb294, 5, none⟩ = some (.string a0_5) ∧ w'.cell? ⟨gb294, 6, none⟩ = some (.string a0_6) ∧ w'.cell? ⟨gb294, 7, none⟩ = some (.string a0_7) ∧ w'.cell? ⟨gb294, 8, none⟩ = some (.slice A0_8 l0_8.length c0_8) ∧ w'.cell? ⟨gb295, 0, none⟩ = some (.int .i64 a1_0) ∧ w'.cell? ⟨gb295, 1, none⟩ = some (.int .i64 a1_1) ∧ w'.cell? ⟨gb295, 2, none⟩ = some (.int .i64 a1_2) ∧ w'.cell? ⟨gb295, 3, none⟩ = some (.int .i64 a1_3) ∧ w'.cell? ⟨gb295, 4, none⟩ = some (.int .i64 a1_4) ∧ w'.cell? ⟨gb295, 5, none⟩ = some (.string a1_5) ∧ w'.cell? ⟨gb295, 6, none⟩ = some (.string a1_6) ∧ w'.cell? ⟨gb295, 7, none⟩ = some (.string a1_7) ∧ w'.cell? ⟨gb295, 8, none⟩ = some (.slice A1_8 l1_8.length c1_8)) ∧ (Kd.R (Kd.int .u8) 5 w' w.heap.size (fun k_ => some k_ ≠ (v303 : Value).ownBlock) v300 t299) ∧ (Kd.R (Kd.int .u8) 5 w' w.heap.size (fun k_ => some k_ ≠ (v300 : Value).ownBlock) v303 t302) ∧ (w'.heap[gb294]? = some (.cells #[.int .i64 a0_0, .int .i64 a0_1, .int .i64 a0_2, .int .i64 a0_3, .int .i64 a0_4, .string a0_5, .string a0_6, .string a0_7, .slice A0_8 l0_8.length c0_8] 31 (0, 0))) ∧ (w'.heap[gb295]? = some (.cells #[.int .i64 a1_0, .int .i64 a1_1, .int .i64 a1_2, .int .i64 a1_3, .int .i64 a1_4, .string a1_5, .string a1_6, .string a1_7, .slice A1_8 l1_8.length c1_8] 31 (0, 0))) ∧ (Below w.heap.size w w')) ?_ ?_
            rotate_left
            ·intro hJ3
             refine join_ (σ := Unit) 4 #[true, false, true, false, false, true, true, true, false] (fun s_ => [(36, .bool t305)]) (fun s_ w' => (w'.cell? ⟨gb294, 0, none⟩ = some (.int .i64 a0_0) ∧ w'.cell? ⟨gb294, 1, none⟩ = some (.int .i64 a0_1) ∧ w'.cell? ⟨gb294, 2, none⟩ = some (.int .i64 a0_2) ∧ w'.cell? ⟨gb294, 3, none⟩ = some (.int .i64 a0_3) ∧ w'.cell? ⟨gb294, 4, none⟩ = some (.int .i64 a0_4) ∧ w'.cell? ⟨gb294, 5, none⟩ = some (.string a0_5) ∧ w'.cell? ⟨gb294, 6, none⟩ = some (.string a0_6) ∧ w'.cell? ⟨gb294, 7, none⟩ = some (.string a0_7) ∧ w'.cell? ⟨gb294, 8, none⟩ = some (.slice A0_8 l0_8.length c0_8) ∧ w'.cell? ⟨gb295, 0, none⟩ = some (.int .i64 a1_0) ∧ w'.cell? ⟨gb295, 1, none⟩ = some (.int .i64 a1_1) ∧ w'.cell? ⟨gb295, 2, none⟩ = some (.int .i64 a1_2) ∧ w'.cell? ⟨gb295, 3, none⟩ = some (.int .i64 a1_3) ∧ w'.cell? ⟨gb295, 4, none⟩ = some (.int .i64 a1_4) ∧ w'.cell? ⟨gb295, 5, none⟩ = some (.string a1_5) ∧ w'.cell? ⟨gb295, 6, none⟩ = some (.string a1_6) ∧ w'.cell? ⟨gb295, 7, none⟩ = some (.string a1_7) ∧ w'.cell? ⟨gb295, 8, none⟩ = some (.slice A1_8 l1_8.length c1_8)) ∧ (Kd.R (Kd.int .u8) 5 w' w.heap.size (fun k_ => some k_ ≠ (v303 : Value).ownBlock) v300 t299) ∧ (Kd.R (Kd.int .u8) 5 w' w.heap.size (fun k_ => some k_ ≠ (v300 : Value).ownBlock) v303 t302) ∧ (w'.heap[gb294]? = some (.cells #[.int .i64 a0_0, .int .i64 a0_1, .int .i64 a0_2, .int .i64 a0_3, .int .i64 a0_4, .string a0_5, .string a0_6, .string a0_7, .slice A0_8 l0_8.length c0_8] 31 (0, 0))) ∧ (w'.heap[gb295]? = some (.cells #[.int .i64 a1_0, .int .i64 a1_1, .int .i64 a1_2, .int .i64 a1_3, .int .i64 a1_4, .string a1_5, .string a1_6, .string a1_7, .slice A1_8 l1_8.length c1_8] 31 (0, 0))) ∧ (Below w.heap.size w w')) ?_ ?_
             rotate_left
             ·intro hJ7
              refine three_ (i := 1) (j := 3) (k := 7) (Ni := some 30) (Nj := some 32) (Nk := some 36) #[true, true, true, false, false, true, true, false, false] #[true, false, true, true, false, true, true, false, false] #[true, false, true, false, false, true, true, true, false] rfl rfl rfl rfl rfl rfl (three_of HT_.out (by kernel_rfl)) (by decide) (by decide) (by decide) (fun K hK => ?_) (fun K hK => ?_) (fun K hK => ?_)
              ·skip
               have hcv37 := own_string (P := Tryd.prog) Tryd.underlying52 Tryd.underlying5 Tryd.underlying9 (Kd.own_of_R HO301.out)
               refine value_ (w1 := ?_) (v := ?_) (by rfl) rfl ?_ ?_
               rotate_left 2
               ·go_simp
                constructor
                ·rfl
                ·rfl
               clear hcv37
               refine hK.out _ _ ⟨(blk_cell BK294.out 0).trans rfl, (blk_cell BK294.out 1).trans rfl, (blk_cell BK294.out 2).trans rfl, (blk_cell BK294.out 3).trans rfl, (blk_cell BK294.out 4).trans rfl, (blk_cell BK294.out 5).trans rfl, (blk_cell BK294.out 6).trans rfl, (blk_cell BK294.out 7).trans rfl, (blk_cell BK294.out 8).trans rfl, (blk_cell BK295.out 0).trans rfl, (blk_cell BK295.out 1).trans rfl, (blk_cell BK295.out 2).trans rfl, (blk_cell BK295.out 3).trans rfl, (blk_cell BK295.out 4).trans rfl, (blk_cell BK295.out 5).trans rfl, (blk_cell BK295.out 6).trans rfl, (blk_cell BK295.out 7).trans rfl, (blk_cell BK295.out 8).trans rfl⟩ (fun hHeld => ?_)
               clear hK K
               refine norm_ (a' := ?_) ?_ ?_
               rotate_left
               ·show Act.put _ (some 30) _ = _
                simp only [Act.put, List.setIfInBounds_toArray, List.set_cons_zero, List.set_cons_succ, i64_w, i32_w]
                rfl
               exact norm_ (by first | (simp only [putAll, Act.put, List.setIfInBounds_toArray, List.set_cons_zero, List.set_cons_succ]; done) | (simp only [putAll, Act.put, List.setIfInBounds_toArray, List.set_cons_zero, List.set_cons_succ]; rfl)) (hJ1 () _ ⟨hHeld, (ru (Kd.R_mono HO301.out (fun _ hk => by first | exact hk.2 | exact trivial))), (ru (Kd.R_mono HO304.out (fun _ hk => by first | exact hk.2 | exact trivial))), (bu BK294.out), (bu BK295.out), (beu HB.out)⟩)
              ·skip
               have hcv37 := own_string (P := Tryd.prog) Tryd.underlying52 Tryd.underlying5 Tryd.underlying9 (Kd.own_of_R HO304.out)
               refine value_ (w1 := ?_) (v := ?_) (by rfl) rfl ?_ ?_
               rotate_left 2
               ·go_simp
                constructor
                ·rfl
                ·rfl
               clear hcv37
               refine hK.out _ _ ⟨(blk_cell BK294.out 0).trans rfl, (blk_cell BK294.out 1).trans rfl, (blk_cell BK294.out 2).trans rfl, (blk_cell BK294.out 3).trans rfl, (blk_cell BK294.out 4).trans rfl, (blk_cell BK294.out 5).trans rfl, (blk_cell BK294.out 6).trans rfl, (blk_cell BK294.out 7).trans rfl, (blk_cell BK294.out 8).trans rfl, (blk_cell BK295.out 0).trans rfl, (blk_cell BK295.out 1).trans rfl, (blk_cell BK295.out 2).trans rfl, (blk_cell BK295.out 3).trans rfl, (blk_cell BK295.out 4).trans rfl, (blk_cell BK295.out 5).trans rfl, (blk_cell BK295.out 6).trans rfl, (blk_cell BK295.out 7).trans rfl, (blk_cell BK295.out 8).trans rfl⟩ (fun hHeld => ?_)
               clear hK K
               refine norm_ (a' := ?_) ?_ ?_
               rotate_left
               ·show Act.put _ (some 32) _ = _
                simp only [Act.put, List.setIfInBounds_toArray, List.set_cons_zero, List.set_cons_succ, i64_w, i32_w]
                rfl
               exact norm_ (by first | (simp only [putAll, Act.put, List.setIfInBounds_toArray, List.set_cons_zero, List.set_cons_succ]; done) | (simp only [putAll, Act.put, List.setIfInBounds_toArray, List.set_cons_zero, List.set_cons_succ]; rfl)) (hJ3 () _ ⟨hHeld, (ru (Kd.R_mono HO301.out (fun _ hk => by first | exact hk.2 | exact trivial))), (ru (Kd.R_mono HO304.out (fun _ hk => by first | exact hk.2 | exact trivial))), (bu BK294.out), (bu BK295.out), (beu HB.out)⟩)
              ·skip
               refine goes_ Tryd.func18 (by kernel_rfl) rfl #[.agg #[.int .i64 a0_0, .int .i64 a0_1, .int .i64 a0_2, .int .i64 a0_3, .int .i64 a0_4, .string a0_5, .string a0_6, .string a0_7, .slice A0_8 l0_8.length c0_8], .agg #[.int .i64 a1_0, .int .i64 a1_1, .int .i64 a1_2, .int .i64 a1_3, .int .i64 a1_4, .string a1_5, .string a1_6, .string a1_7, .slice A1_8 l1_8.length c1_8]] (by rfl) rfl rfl ap1 ?_
               with_reducible refine (batch_Same.calls kj5 a0_0 a0_1 a0_2 a0_3 a0_4 a0_5 a0_6 a0_7 _ _ l0_8 a1_0 a1_1 a1_2 a1_3 a1_4 a1_5 a1_6 a1_7 _ _ l1_8 t305 _ ?side1 ?side2 ?side3 ?side4 A30.out).mono ?_
               (case side1 => exact cu (Kd.C_below HR0_8.out HB.out))
               (case side2 => exact HC0_8.out)
               (case side3 => exact cu (Kd.C_below HR1_8.out HB.out))
               (case side4 => exact HC1_8.out)
               rintro e w37 ⟨rfl, hb⟩
               refine ⟨_, rfl, ?_⟩
               have n0_ := Aside0.mk (Kd.R_below (ru HO301.out) hb); have n1_ := Aside0.mk (Kd.R_below (ru HO304.out) hb); have n2_ := Aside0.mk (blk_below (bu BK294.out) hb); have n3_ := Aside0.mk (blk_below (bu BK295.out) hb); have n4_ := Aside0.mk (below_step (beu HB.out) hb); clear HO301 HO304 BK294 BK295 HB; have HO301 := n0_; have HO304 := n1_; have BK294 := n2_; have BK295 := n3_; have HB := n4_; clear n0_ n1_ n2_ n3_ n4_
               (try clear hb)
               (try clear hb2)
               (try clear hk)
               (try clear hi)
               refine hK.out _ _ ⟨(blk_cell BK294.out 0).trans rfl, (blk_cell BK294.out 1).trans rfl, (blk_cell BK294.out 2).trans rfl, (blk_cell BK294.out 3).trans rfl, (blk_cell BK294.out 4).trans rfl, (blk_cell BK294.out 5).trans rfl, (blk_cell BK294.out 6).trans rfl, (blk_cell BK294.out 7).trans rfl, (blk_cell BK294.out 8).trans rfl, (blk_cell BK295.out 0).trans rfl, (blk_cell BK295.out 1).trans rfl, (blk_cell BK295.out 2).trans rfl, (blk_cell BK295.out 3).trans rfl, (blk_cell BK295.out 4).trans rfl, (blk_cell BK295.out 5).trans rfl, (blk_cell BK295.out 6).trans rfl, (blk_cell BK295.out 7).trans rfl, (blk_cell BK295.out 8).trans rfl⟩ (fun hHeld => ?_)
               clear hK K
               refine norm_ (a' := ?_) ?_ ?_
               rotate_left
               ·show Act.put _ (some 36) _ = _
                simp only [Act.put, List.setIfInBounds_toArray, List.set_cons_zero, List.set_cons_succ, i64_w, i32_w]
                rfl
               exact norm_ (by first | (simp only [putAll, Act.put, List.setIfInBounds_toArray, List.set_cons_zero, List.set_cons_succ]; done) | (simp only [putAll, Act.put, List.setIfInBounds_toArray, List.set_cons_zero, List.set_cons_succ]; rfl)) (hJ7 () _ ⟨hHeld, (ru (Kd.R_mono HO301.out (fun _ hk => by first | exact hk.2 | exact trivial))), (ru (Kd.R_mono HO304.out (fun _ hk => by first | exact hk.2 | exact trivial))), (bu BK294.out), (bu BK295.out), (beu HB.out)⟩)
             ·skip
              rintro _ w38 ⟨hS_, h0_, h1_, h2_, h3_, h4_⟩; have n0_ : Aside0 (Kd.R (Kd.int .u8) 5 w38 w.heap.size (fun k_ => some k_ ≠ (v303 : Value).ownBlock) v300 t299) := ⟨h0_⟩; have n1_ : Aside0 (Kd.R (Kd.int .u8) 5 w38 w.heap.size (fun k_ => some k_ ≠ (v300 : Value).ownBlock) v303 t302) := ⟨h1_⟩; have n2_ : Aside0 (w38.heap[gb294]? = some (.cells #[.int .i64 a0_0, .int .i64 a0_1, .int .i64 a0_2, .int .i64 a0_3, .int .i64 a0_4, .string a0_5, .string a0_6, .string a0_7, .slice A0_8 l0_8.length c0_8] 31 (0, 0))) := ⟨h2_⟩; have n3_ : Aside0 (w38.heap[gb295]? = some (.cells #[.int .i64 a1_0, .int .i64 a1_1, .int .i64 a1_2, .int .i64 a1_3, .int .i64 a1_4, .string a1_5, .string a1_6, .string a1_7, .slice A1_8 l1_8.length c1_8] 31 (0, 0))) := ⟨h3_⟩; have n4_ : Aside0 (Below w.heap.size w w38) := ⟨h4_⟩; clear HO301 HO304 BK294 BK295 HB h0_ h1_ h2_ h3_ h4_; have HO301 := n0_; have HO304 := n1_; have BK294 := n2_; have BK295 := n3_; have HB := n4_; clear n0_ n1_ n2_ n3_ n4_; have hHeld : w38.cell? ⟨gb294, 0, none⟩ = some (.int .i64 a0_0) ∧ w38.cell? ⟨gb294, 1, none⟩ = some (.int .i64 a0_1) ∧ w38.cell? ⟨gb294, 2, none⟩ = some (.int .i64 a0_2) ∧ w38.cell? ⟨gb294, 3, none⟩ = some (.int .i64 a0_3) ∧ w38.cell? ⟨gb294, 4, none⟩ = some (.int .i64 a0_4) ∧ w38.cell? ⟨gb294, 5, none⟩ = some (.string a0_5) ∧ w38.cell? ⟨gb294, 6, none⟩ = some (.string a0_6) ∧ w38.cell? ⟨gb294, 7, none⟩ = some (.string a0_7) ∧ w38.cell? ⟨gb294, 8, none⟩ = some (.slice A0_8 l0_8.length c0_8) ∧ w38.cell? ⟨gb295, 0, none⟩ = some (.int .i64 a1_0) ∧ w38.cell? ⟨gb295, 1, none⟩ = some (.int .i64 a1_1) ∧ w38.cell? ⟨gb295, 2, none⟩ = some (.int .i64 a1_2) ∧ w38.cell? ⟨gb295, 3, none⟩ = some (.int .i64 a1_3) ∧ w38.cell? ⟨gb295, 4, none⟩ = some (.int .i64 a1_4) ∧ w38.cell? ⟨gb295, 5, none⟩ = some (.string a1_5) ∧ w38.cell? ⟨gb295, 6, none⟩ = some (.string a1_6) ∧ w38.cell? ⟨gb295, 7, none⟩ = some (.string a1_7) ∧ w38.cell? ⟨gb295, 8, none⟩ = some (.slice A1_8 l1_8.length c1_8) := hS_
              refine norm_ (a' := ?_) ?_ ?_
              rotate_left
              ·simp only [putAll, Act.put, List.setIfInBounds_toArray, List.set_cons_zero, List.set_cons_succ]
               rfl
              refine two_ (i := 1) (j := 3) (Ni := some 30) (Nj := some 32) #[true, true, true, false, false, true, true, true, false] #[true, false, true, true, false, true, true, true, false] rfl rfl rfl rfl (two_of HT_.out (by kernel_rfl)) (by decide) (by decide) (fun K hK => ?_) (fun K hK => ?_)
              ·skip
               have hcv39 := own_string (P := Tryd.prog) Tryd.underlying52 Tryd.underlying5 Tryd.underlying9 (Kd.own_of_R HO301.out)
               refine value_ (w1 := ?_) (v := ?_) (by rfl) rfl ?_ ?_
               rotate_left 2
               ·go_simp
                constructor
                ·rfl
                ·rfl
               clear hcv39
               refine hK.out _ _ ⟨(blk_cell BK294.out 0).trans rfl, (blk_cell BK294.out 1).trans rfl, (blk_cell BK294.out 2).trans rfl, (blk_cell BK294.out 3).trans rfl, (blk_cell BK294.out 4).trans rfl, (blk_cell BK294.out 5).trans rfl, (blk_cell BK294.out 6).trans rfl, (blk_cell BK294.out 7).trans rfl, (blk_cell BK294.out 8).trans rfl, (blk_cell BK295.out 0).trans rfl, (blk_cell BK295.out 1).trans rfl, (blk_cell BK295.out 2).trans rfl, (blk_cell BK295.out 3).trans rfl, (blk_cell BK295.out 4).trans rfl, (blk_cell BK295.out 5).trans rfl, (blk_cell BK295.out 6).trans rfl, (blk_cell BK295.out 7).trans rfl, (blk_cell BK295.out 8).trans rfl⟩ (fun hHeld => ?_)
               clear hK K
               refine norm_ (a' := ?_) ?_ ?_
               rotate_left
               ·show Act.put _ (some 30) _ = _
                simp only [Act.put, List.setIfInBounds_toArray, List.set_cons_zero, List.set_cons_succ, i64_w, i32_w]
                rfl
               exact norm_ (by first | (simp only [putAll, Act.put, List.setIfInBounds_toArray, List.set_cons_zero, List.set_cons_succ]; done) | (simp only [putAll, Act.put, List.setIfInBounds_toArray, List.set_cons_zero, List.set_cons_succ]; rfl)) (hJ1_7 () _ ⟨hHeld, (ru HO301.out), (ru HO304.out), (bu BK294.out), (bu BK295.out), (beu HB.out)⟩)
              ·skip
               have hcv39 := own_string (P := Tryd.prog) Tryd.underlying52 Tryd.underlying5 Tryd.underlying9 (Kd.own_of_R HO304.out)
               refine value_ (w1 := ?_) (v := ?_) (by rfl) rfl ?_ ?_
               rotate_left 2
               ·go_simp
                constructor
                ·rfl
                ·rfl
               clear hcv39
               refine hK.out _ _ ⟨(blk_cell BK294.out 0).trans rfl, (blk_cell BK294.out 1).trans rfl, (blk_cell BK294.out 2).trans rfl, (blk_cell BK294.out 3).trans rfl, (blk_cell BK294.out 4).trans rfl, (blk_cell BK294.out 5).trans rfl, (blk_cell BK294.out 6).trans rfl, (blk_cell BK294.out 7).trans rfl, (blk_cell BK294.out 8).trans rfl, (blk_cell BK295.out 0).trans rfl, (blk_cell BK295.out 1).trans rfl, (blk_cell BK295.out 2).trans rfl, (blk_cell BK295.out 3).trans rfl, (blk_cell BK295.out 4).trans rfl, (blk_cell BK295.out 5).trans rfl, (blk_cell BK295.out 6).trans rfl, (blk_cell BK295.out 7).trans rfl, (blk_cell BK295.out 8).trans rfl⟩ (fun hHeld => ?_)
               clear hK K
               refine norm_ (a' := ?_) ?_ ?_
               rotate_left
               ·show Act.put _ (some 32) _ = _
                simp only [Act.put, List.setIfInBounds_toArray, List.set_cons_zero, List.set_cons_succ, i64_w, i32_w]
                rfl
               exact norm_ (by first | (simp only [putAll, Act.put, List.setIfInBounds_toArray, List.set_cons_zero, List.set_cons_succ]; done) | (simp only [putAll, Act.put, List.setIfInBounds_toArray, List.set_cons_zero, List.set_cons_succ]; rfl)) (hJ3_7 () _ ⟨hHeld, (ru HO301.out), (ru HO304.out), (bu BK294.out), (bu BK295.out), (beu HB.out)⟩)
            ·skip
             rintro _ w38 ⟨hS_, h0_, h1_, h2_, h3_, h4_⟩; have n0_ : Aside0 (Kd.R (Kd.int .u8) 5 w38 w.heap.size (fun k_ => some k_ ≠ (v303 : Value).ownBlock) v300 t299) := ⟨h0_⟩; have n1_ : Aside0 (Kd.R (Kd.int .u8) 5 w38 w.heap.size (fun k_ => some k_ ≠ (v300 : Value).ownBlock) v303 t302) := ⟨h1_⟩; have n2_ : Aside0 (w38.heap[gb294]? = some (.cells #[.int .i64 a0_0, .int .i64 a0_1, .int .i64 a0_2, .int .i64 a0_3, .int .i64 a0_4, .string a0_5, .string a0_6, .string a0_7, .slice A0_8 l0_8.length c0_8] 31 (0, 0))) := ⟨h2_⟩; have n3_ : Aside0 (w38.heap[gb295]? = some (.cells #[.int .i64 a1_0, .int .i64 a1_1, .int .i64 a1_2, .int .i64 a1_3, .int .i64 a1_4, .string a1_5, .string a1_6, .string a1_7, .slice A1_8 l1_8.length c1_8] 31 (0, 0))) := ⟨h3_⟩; have n4_ : Aside0 (Below w.heap.size w w38) := ⟨h4_⟩; clear HO301 HO304 BK294 BK295 HB h0_ h1_ h2_ h3_ h4_; have HO301 := n0_; have HO304 := n1_; have BK294 := n2_; have BK295 := n3_; have HB := n4_; clear n0_ n1_ n2_ n3_ n4_; have hHeld : w38.cell? ⟨gb294, 0, none⟩ = some (.int .i64 a0_0) ∧ w38.cell? ⟨gb294, 1, none⟩ = some (.int .i64 a0_1) ∧ w38.cell? ⟨gb294, 2, none⟩ = some (.int .i64 a0_2) ∧ w38.cell? ⟨gb294, 3, none⟩ = some (.int .i64 a0_3) ∧ w38.cell? ⟨gb294, 4, none⟩ = some (.int .i64 a0_4) ∧ w38.cell? ⟨gb294, 5, none⟩ = some (.string a0_5) ∧ w38.cell? ⟨gb294, 6, none⟩ = some (.string a0_6) ∧ w38.cell? ⟨gb294, 7, none⟩ = some (.string a0_7) ∧ w38.cell? ⟨gb294, 8, none⟩ = some (.slice A0_8 l0_8.length c0_8) ∧ w38.cell? ⟨gb295, 0, none⟩ = some (.int .i64 a1_0) ∧ w38.cell? ⟨gb295, 1, none⟩ = some (.int .i64 a1_1) ∧ w38.cell? ⟨gb295, 2, none⟩ = some (.int .i64 a1_2) ∧ w38.cell? ⟨gb295, 3, none⟩ = some (.int .i64 a1_3) ∧ w38.cell? ⟨gb295, 4, none⟩ = some (.int .i64 a1_4) ∧ w38.cell? ⟨gb295, 5, none⟩ = some (.string a1_5) ∧ w38.cell? ⟨gb295, 6, none⟩ = some (.string a1_6) ∧ w38.cell? ⟨gb295, 7, none⟩ = some (.string a1_7) ∧ w38.cell? ⟨gb295, 8, none⟩ = some (.slice A1_8 l1_8.length c1_8) := hS_
             refine norm_ (a' := ?_) ?_ ?_
             rotate_left
             ·simp only [putAll, Act.put, List.setIfInBounds_toArray, List.set_cons_zero, List.set_cons_succ]
              rfl
             refine two_ (i := 1) (j := 7) (Ni := some 30) (Nj := some 36) #[true, true, true, true, false, true, true, false, false] #[true, false, true, true, false, true, true, true, false] rfl rfl rfl rfl (two_of HT_.out (by kernel_rfl)) (by decide) (by decide) (fun K hK => ?_) (fun K hK => ?_)
             ·skip
              have hcv39 := own_string (P := Tryd.prog) Tryd.underlying52 Tryd.underlying5 Tryd.underlying9 (Kd.own_of_R HO301.out)
              refine value_ (w1 := ?_) (v := ?_) (by rfl) rfl ?_ ?_
              rotate_left 2
              ·go_simp
               constructor
               ·rfl
               ·rfl
              clear hcv39
              refine hK.out _ _ ⟨(blk_cell BK294.out 0).trans rfl, (blk_cell BK294.out 1).trans rfl, (blk_cell BK294.out 2).trans rfl, (blk_cell BK294.out 3).trans rfl, (blk_cell BK294.out 4).trans rfl, (blk_cell BK294.out 5).trans rfl, (blk_cell BK294.out 6).trans rfl, (blk_cell BK294.out 7).trans rfl, (blk_cell BK294.out 8).trans rfl, (blk_cell BK295.out 0).trans rfl, (blk_cell BK295.out 1).trans rfl, (blk_cell BK295.out 2).trans rfl, (blk_cell BK295.out 3).trans rfl, (blk_cell BK295.out 4).trans rfl, (blk_cell BK295.out 5).trans rfl, (blk_cell BK295.out 6).trans rfl, (blk_cell BK295.out 7).trans rfl, (blk_cell BK295.out 8).trans rfl⟩ (fun hHeld => ?_)
              clear hK K
              refine norm_ (a' := ?_) ?_ ?_
              rotate_left
              ·show Act.put _ (some 30) _ = _
               simp only [Act.put, List.setIfInBounds_toArray, List.set_cons_zero, List.set_cons_succ, i64_w, i32_w]
               rfl
              refine pure_ (i := 4) (N := some 33) (v := ?_) (a' := ?_) (bs 9 127) rfl rfl (any_of HT_.out (by kernel_rfl)) (fun _ _ _ h => h) (Or.inl ⟨by rfl, ?_⟩) ?_ ?_
              rotate_left
              ·intro w'
               go_simp
               with_reducible rfl
              rotate_left
              ·simp only [Act.put, List.setIfInBounds_toArray, List.set_cons_zero, List.set_cons_succ, i64_w, i32_w]
               rfl
              exact norm_ (by first | (simp only [putAll, Act.put, List.setIfInBounds_toArray, List.set_cons_zero, List.set_cons_succ]; done) | (simp only [putAll, Act.put, List.setIfInBounds_toArray, List.set_cons_zero, List.set_cons_succ]; rfl)) (hJ1_3 () _ ⟨hHeld, (ru HO301.out), (ru HO304.out), (bu BK294.out), (bu BK295.out), (beu HB.out)⟩)
             ·skip
              refine goes_ Tryd.func18 (by kernel_rfl) rfl #[.agg #[.int .i64 a0_0, .int .i64 a0_1, .int .i64 a0_2, .int .i64 a0_3, .int .i64 a0_4, .string a0_5, .string a0_6, .string a0_7, .slice A0_8 l0_8.length c0_8], .agg #[.int .i64 a1_0, .int .i64 a1_1, .int .i64 a1_2, .int .i64 a1_3, .int .i64 a1_4, .string a1_5, .string a1_6, .string a1_7, .slice A1_8 l1_8.length c1_8]] (by rfl) rfl rfl ap1 ?_
              with_reducible refine (batch_Same.calls kj5 a0_0 a0_1 a0_2 a0_3 a0_4 a0_5 a0_6 a0_7 _ _ l0_8 a1_0 a1_1 a1_2 a1_3 a1_4 a1_5 a1_6 a1_7 _ _ l1_8 t305 _ ?side1 ?side2 ?side3 ?side4 A30.out).mono ?_
              (case side1 => exact cu (Kd.C_below HR0_8.out HB.out))
              (case side2 => exact HC0_8.out)
              (case side3 => exact cu (Kd.C_below HR1_8.out HB.out))
              (case side4 => exact HC1_8.out)
              rintro e w39 ⟨rfl, hb⟩
              refine ⟨_, rfl, ?_⟩
              have n0_ := Aside0.mk (Kd.R_below (ru HO301.out) hb); have n1_ := Aside0.mk (Kd.R_below (ru HO304.out) hb); have n2_ := Aside0.mk (blk_below (bu BK294.out) hb); have n3_ := Aside0.mk (blk_below (bu BK295.out) hb); have n4_ := Aside0.mk (below_step (beu HB.out) hb); clear HO301 HO304 BK294 BK295 HB; have HO301 := n0_; have HO304 := n1_; have BK294 := n2_; have BK295 := n3_; have HB := n4_; clear n0_ n1_ n2_ n3_ n4_
              (try clear hb)
              (try clear hb2)
              (try clear hk)
              (try clear hi)
              refine hK.out _ _ ⟨(blk_cell BK294.out 0).trans rfl, (blk_cell BK294.out 1).trans rfl, (blk_cell BK294.out 2).trans rfl, (blk_cell BK294.out 3).trans rfl, (blk_cell BK294.out 4).trans rfl, (blk_cell BK294.out 5).trans rfl, (blk_cell BK294.out 6).trans rfl, (blk_cell BK294.out 7).trans rfl, (blk_cell BK294.out 8).trans rfl, (blk_cell BK295.out 0).trans rfl, (blk_cell BK295.out 1).trans rfl, (blk_cell BK295.out 2).trans rfl, (blk_cell BK295.out 3).trans rfl, (blk_cell BK295.out 4).trans rfl, (blk_cell BK295.out 5).trans rfl, (blk_cell BK295.out 6).trans rfl, (blk_cell BK295.out 7).trans rfl, (blk_cell BK295.out 8).trans rfl⟩ (fun hHeld => ?_)
              clear hK K
              refine norm_ (a' := ?_) ?_ ?_
              rotate_left
              ·show Act.put _ (some 36) _ = _
               simp only [Act.put, List.setIfInBounds_toArray, List.set_cons_zero, List.set_cons_succ, i64_w, i32_w]
               rfl
              exact norm_ (by first | (simp only [putAll, Act.put, List.setIfInBounds_toArray, List.set_cons_zero, List.set_cons_succ]; done) | (simp only [putAll, Act.put, List.setIfInBounds_toArray, List.set_cons_zero, List.set_cons_succ]; rfl)) (hJ3_7 () _ ⟨hHeld, (ru HO301.out), (ru HO304.out), (bu BK294.out), (bu BK295.out), (beu HB.out)⟩)
           ·skip
            rintro _ w38 ⟨hS_, h0_, h1_, h2_, h3_, h4_⟩; have n0_ : Aside0 (Kd.R (Kd.int .u8) 5 w38 w.heap.size (fun k_ => some k_ ≠ (v303 : Value).ownBlock) v300 t299) := ⟨h0_⟩; have n1_ : Aside0 (Kd.R (Kd.int .u8) 5 w38 w.heap.size (fun k_ => some k_ ≠ (v300 : Value).ownBlock) v303 t302) := ⟨h1_⟩; have n2_ : Aside0 (w38.heap[gb294]? = some (.cells #[.int .i64 a0_0, .int .i64 a0_1, .int .i64 a0_2, .int .i64 a0_3, .int .i64 a0_4, .string a0_5, .string a0_6, .string a0_7, .slice A0_8 l0_8.length c0_8] 31 (0, 0))) := ⟨h2_⟩; have n3_ : Aside0 (w38.heap[gb295]? = some (.cells #[.int .i64 a1_0, .int .i64 a1_1, .int .i64 a1_2, .int .i64 a1_3, .int .i64 a1_4, .string a1_5, .string a1_6, .string a1_7, .slice A1_8 l1_8.length c1_8] 31 (0, 0))) := ⟨h3_⟩; have n4_ : Aside0 (Below w.heap.size w w38) := ⟨h4_⟩; clear HO301 HO304 BK294 BK295 HB h0_ h1_ h2_ h3_ h4_; have HO301 := n0_; have HO304 := n1_; have BK294 := n2_; have BK295 := n3_; have HB := n4_; clear n0_ n1_ n2_ n3_ n4_; have hHeld : w38.cell? ⟨gb294, 0, none⟩ = some (.int .i64 a0_0) ∧ w38.cell? ⟨gb294, 1, none⟩ = some (.int .i64 a0_1) ∧ w38.cell? ⟨gb294, 2, none⟩ = some (.int .i64 a0_2) ∧ w38.cell? ⟨gb294, 3, none⟩ = some (.int .i64 a0_3) ∧ w38.cell? ⟨gb294, 4, none⟩ = some (.int .i64 a0_4) ∧ w38.cell? ⟨gb294, 5, none⟩ = some (.string a0_5) ∧ w38.cell? ⟨gb294, 6, none⟩ = some (.string a0_6) ∧ w38.cell? ⟨gb294, 7, none⟩ = some (.string a0_7) ∧ w38.cell? ⟨gb294, 8, none⟩ = some (.slice A0_8 l0_8.length c0_8) ∧ w38.cell? ⟨gb295, 0, none⟩ = some (.int .i64 a1_0) ∧ w38.cell? ⟨gb295, 1, none⟩ = some (.int .i64 a1_1) ∧ w38.cell? ⟨gb295, 2, none⟩ = some (.int .i64 a1_2) ∧ w38.cell? ⟨gb295, 3, none⟩ = some (.int .i64 a1_3) ∧ w38.cell? ⟨gb295, 4, none⟩ = some (.int .i64 a1_4) ∧ w38.cell? ⟨gb295, 5, none⟩ = some (.string a1_5) ∧ w38.cell? ⟨gb295, 6, none⟩ = some (.string a1_6) ∧ w38.cell? ⟨gb295, 7, none⟩ = some (.string a1_7) ∧ w38.cell? ⟨gb295, 8, none⟩ = some (.slice A1_8 l1_8.length c1_8) := hS_
            refine norm_ (a' := ?_) ?_ ?_
            rotate_left
            ·simp only [putAll, Act.put, List.setIfInBounds_toArray, List.set_cons_zero, List.set_cons_succ]
             rfl
            refine two_ (i := 3) (j := 7) (Ni := some 32) (Nj := some 36) #[true, true, true, true, false, true, true, false, false] #[true, true, true, false, false, true, true, true, false] rfl rfl rfl rfl (two_of HT_.out (by kernel_rfl)) (by decide) (by decide) (fun K hK => ?_) (fun K hK => ?_)
            ·skip
             have hcv39 := own_string (P := Tryd.prog) Tryd.underlying52 Tryd.underlying5 Tryd.underlying9 (Kd.own_of_R HO304.out)
             refine value_ (w1 := ?_) (v := ?_) (by rfl) rfl ?_ ?_
             rotate_left 2
             ·go_simp
              constructor
              ·rfl
              ·rfl
             clear hcv39
             refine hK.out _ _ ⟨(blk_cell BK294.out 0).trans rfl, (blk_cell BK294.out 1).trans rfl, (blk_cell BK294.out 2).trans rfl, (blk_cell BK294.out 3).trans rfl, (blk_cell BK294.out 4).trans rfl, (blk_cell BK294.out 5).trans rfl, (blk_cell BK294.out 6).trans rfl, (blk_cell BK294.out 7).trans rfl, (blk_cell BK294.out 8).trans rfl, (blk_cell BK295.out 0).trans rfl, (blk_cell BK295.out 1).trans rfl, (blk_cell BK295.out 2).trans rfl, (blk_cell BK295.out 3).trans rfl, (blk_cell BK295.out 4).trans rfl, (blk_cell BK295.out 5).trans rfl, (blk_cell BK295.out 6).trans rfl, (blk_cell BK295.out 7).trans rfl, (blk_cell BK295.out 8).trans rfl⟩ (fun hHeld => ?_)
             clear hK K
             refine norm_ (a' := ?_) ?_ ?_
             rotate_left
             ·show Act.put _ (some 32) _ = _
              simp only [Act.put, List.setIfInBounds_toArray, List.set_cons_zero, List.set_cons_succ, i64_w, i32_w]
              rfl
             refine pure_ (i := 4) (N := some 33) (v := ?_) (a' := ?_) (bs 9 127) rfl rfl (any_of HT_.out (by kernel_rfl)) (fun _ _ _ h => h) (Or.inl ⟨by rfl, ?_⟩) ?_ ?_
             rotate_left
             ·intro w'
              go_simp
              with_reducible rfl
             rotate_left
             ·simp only [Act.put, List.setIfInBounds_toArray, List.set_cons_zero, List.set_cons_succ, i64_w, i32_w]
              rfl
             exact norm_ (by first | (simp only [putAll, Act.put, List.setIfInBounds_toArray, List.set_cons_zero, List.set_cons_succ]; done) | (simp only [putAll, Act.put, List.setIfInBounds_toArray, List.set_cons_zero, List.set_cons_succ]; rfl)) (hJ1_3 () _ ⟨hHeld, (ru HO301.out), (ru HO304.out), (bu BK294.out), (bu BK295.out), (beu HB.out)⟩)
            ·skip
             refine goes_ Tryd.func18 (by kernel_rfl) rfl #[.agg #[.int .i64 a0_0, .int .i64 a0_1, .int .i64 a0_2, .int .i64 a0_3, .int .i64 a0_4, .string a0_5, .string a0_6, .string a0_7, .slice A0_8 l0_8.length c0_8], .agg #[.int .i64 a1_0, .int .i64 a1_1, .int .i64 a1_2, .int .i64 a1_3, .int .i64 a1_4, .string a1_5, .string a1_6, .string a1_7, .slice A1_8 l1_8.length c1_8]] (by rfl) rfl rfl ap1 ?_
             with_reducible refine (batch_Same.calls kj5 a0_0 a0_1 a0_2 a0_3 a0_4 a0_5 a0_6 a0_7 _ _ l0_8 a1_0 a1_1 a1_2 a1_3 a1_4 a1_5 a1_6 a1_7 _ _ l1_8 t305 _ ?side1 ?side2 ?side3 ?side4 A30.out).mono ?_
             (case side1 => exact cu (Kd.C_below HR0_8.out HB.out))
             (case side2 => exact HC0_8.out)
             (case side3 => exact cu (Kd.C_below HR1_8.out HB.out))
             (case side4 => exact HC1_8.out)
             rintro e w39 ⟨rfl, hb⟩
             refine ⟨_, rfl, ?_⟩
             have n0_ := Aside0.mk (Kd.R_below (ru HO301.out) hb); have n1_ := Aside0.mk (Kd.R_below (ru HO304.out) hb); have n2_ := Aside0.mk (blk_below (bu BK294.out) hb); have n3_ := Aside0.mk (blk_below (bu BK295.out) hb); have n4_ := Aside0.mk (below_step (beu HB.out) hb); clear HO301 HO304 BK294 BK295 HB; have HO301 := n0_; have HO304 := n1_; have BK294 := n2_; have BK295 := n3_; have HB := n4_; clear n0_ n1_ n2_ n3_ n4_
             (try clear hb)
             (try clear hb2)
             (try clear hk)
             (try clear hi)
             refine hK.out _ _ ⟨(blk_cell BK294.out 0).trans rfl, (blk_cell BK294.out 1).trans rfl, (blk_cell BK294.out 2).trans rfl, (blk_cell BK294.out 3).trans rfl, (blk_cell BK294.out 4).trans rfl, (blk_cell BK294.out 5).trans rfl, (blk_cell BK294.out 6).trans rfl, (blk_cell BK294.out 7).trans rfl, (blk_cell BK294.out 8).trans rfl, (blk_cell BK295.out 0).trans rfl, (blk_cell BK295.out 1).trans rfl, (blk_cell BK295.out 2).trans rfl, (blk_cell BK295.out 3).trans rfl, (blk_cell BK295.out 4).trans rfl, (blk_cell BK295.out 5).trans rfl, (blk_cell BK295.out 6).trans rfl, (blk_cell BK295.out 7).trans rfl, (blk_cell BK295.out 8).trans rfl⟩ (fun hHeld => ?_)
             clear hK K
             refine norm_ (a' := ?_) ?_ ?_
             rotate_left
             ·show Act.put _ (some 36) _ = _
              simp only [Act.put, List.setIfInBounds_toArray, List.set_cons_zero, List.set_cons_succ, i64_w, i32_w]
              rfl
             exact norm_ (by first | (simp only [putAll, Act.put, List.setIfInBounds_toArray, List.set_cons_zero, List.set_cons_succ]; done) | (simp only [putAll, Act.put, List.setIfInBounds_toArray, List.set_cons_zero, List.set_cons_succ]; rfl)) (hJ1_7 () _ ⟨hHeld, (ru HO301.out), (ru HO304.out), (bu BK294.out), (bu BK295.out), (beu HB.out)⟩)
          ·skip
           rintro _ w39 ⟨hS_, h0_, h1_, h2_, h3_, h4_⟩; have n0_ : Aside0 (Kd.R (Kd.int .u8) 5 w39 w.heap.size (fun k_ => some k_ ≠ (v303 : Value).ownBlock) v300 t299) := ⟨h0_⟩; have n1_ : Aside0 (Kd.R (Kd.int .u8) 5 w39 w.heap.size (fun k_ => some k_ ≠ (v300 : Value).ownBlock) v303 t302) := ⟨h1_⟩; have n2_ : Aside0 (w39.heap[gb294]? = some (.cells #[.int .i64 a0_0, .int .i64 a0_1, .int .i64 a0_2, .int .i64 a0_3, .int .i64 a0_4, .string a0_5, .string a0_6, .string a0_7, .slice A0_8 l0_8.length c0_8] 31 (0, 0))) := ⟨h2_⟩; have n3_ : Aside0 (w39.heap[gb295]? = some (.cells #[.int .i64 a1_0, .int .i64 a1_1, .int .i64 a1_2, .int .i64 a1_3, .int .i64 a1_4, .string a1_5, .string a1_6, .string a1_7, .slice A1_8 l1_8.length c1_8] 31 (0, 0))) := ⟨h3_⟩; have n4_ : Aside0 (Below w.heap.size w w39) := ⟨h4_⟩; clear HO301 HO304 BK294 BK295 HB h0_ h1_ h2_ h3_ h4_; have HO301 := n0_; have HO304 := n1_; have BK294 := n2_; have BK295 := n3_; have HB := n4_; clear n0_ n1_ n2_ n3_ n4_; have hHeld : w39.cell? ⟨gb294, 0, none⟩ = some (.int .i64 a0_0) ∧ w39.cell? ⟨gb294, 1, none⟩ = some (.int .i64 a0_1) ∧ w39.cell? ⟨gb294, 2, none⟩ = some (.int .i64 a0_2) ∧ w39.cell? ⟨gb294, 3, none⟩ = some (.int .i64 a0_3) ∧ w39.cell? ⟨gb294, 4, none⟩ = some (.int .i64 a0_4) ∧ w39.cell? ⟨gb294, 5, none⟩ = some (.string a0_5) ∧ w39.cell? ⟨gb294, 6, none⟩ = some (.string a0_6) ∧ w39.cell? ⟨gb294, 7, none⟩ = some (.string a0_7) ∧ w39.cell? ⟨gb294, 8, none⟩ = some (.slice A0_8 l0_8.length c0_8) ∧ w39.cell? ⟨gb295, 0, none⟩ = some (.int .i64 a1_0) ∧ w39.cell? ⟨gb295, 1, none⟩ = some (.int .i64 a1_1) ∧ w39.cell? ⟨gb295, 2, none⟩ = some (.int .i64 a1_2) ∧ w39.cell? ⟨gb295, 3, none⟩ = some (.int .i64 a1_3) ∧ w39.cell? ⟨gb295, 4, none⟩ = some (.int .i64 a1_4) ∧ w39.cell? ⟨gb295, 5, none⟩ = some (.string a1_5) ∧ w39.cell? ⟨gb295, 6, none⟩ = some (.string a1_6) ∧ w39.cell? ⟨gb295, 7, none⟩ = some (.string a1_7) ∧ w39.cell? ⟨gb295, 8, none⟩ = some (.slice A1_8 l1_8.length c1_8) := hS_
           refine norm_ (a' := ?_) ?_ ?_
           rotate_left
           ·simp only [putAll, Act.put, List.setIfInBounds_toArray, List.set_cons_zero, List.set_cons_succ]
            rfl
           refine one_ (i := 1) (N := some 30) (bs 9 239) rfl rfl (one_of HT_.out (by kernel_rfl)) (by decide) (fun K hK => ?_)
           have hcv40 := own_string (P := Tryd.prog) Tryd.underlying52 Tryd.underlying5 Tryd.underlying9 (Kd.own_of_R HO301.out)
           refine value_ (w1 := ?_) (v := ?_) (by rfl) rfl ?_ ?_
           rotate_left 2
           ·go_simp
            constructor
            ·rfl
            ·rfl
           clear hcv40
           refine hK.out _ _ ⟨(blk_cell BK294.out 0).trans rfl, (blk_cell BK294.out 1).trans rfl, (blk_cell BK294.out 2).trans rfl, (blk_cell BK294.out 3).trans rfl, (blk_cell BK294.out 4).trans rfl, (blk_cell BK294.out 5).trans rfl, (blk_cell BK294.out 6).trans rfl, (blk_cell BK294.out 7).trans rfl, (blk_cell BK294.out 8).trans rfl, (blk_cell BK295.out 0).trans rfl, (blk_cell BK295.out 1).trans rfl, (blk_cell BK295.out 2).trans rfl, (blk_cell BK295.out 3).trans rfl, (blk_cell BK295.out 4).trans rfl, (blk_cell BK295.out 5).trans rfl, (blk_cell BK295.out 6).trans rfl, (blk_cell BK295.out 7).trans rfl, (blk_cell BK295.out 8).trans rfl⟩ (fun hHeld => ?_)
           clear hK K
           refine norm_ (a' := ?_) ?_ ?_
           rotate_left
           ·show Act.put _ (some 30) _ = _
            simp only [Act.put, List.setIfInBounds_toArray, List.set_cons_zero, List.set_cons_succ, i64_w, i32_w]
            rfl
           refine pure_ (i := 4) (N := some 33) (v := ?_) (a' := ?_) (bs 9 255) rfl rfl (any_of HT_.out (by kernel_rfl)) (fun _ _ _ h => h) (Or.inl ⟨by rfl, ?_⟩) ?_ ?_
           rotate_left
           ·intro w'
            go_simp
            with_reducible rfl
           rotate_left
           ·simp only [Act.put, List.setIfInBounds_toArray, List.set_cons_zero, List.set_cons_succ, i64_w, i32_w]
            rfl
           exact norm_ (by first | (simp only [putAll, Act.put, List.setIfInBounds_toArray, List.set_cons_zero, List.set_cons_succ]; done) | (simp only [putAll, Act.put, List.setIfInBounds_toArray, List.set_cons_zero, List.set_cons_succ]; rfl)) (hJ1_3_7 () _ ⟨hHeld, (ru HO301.out), (ru HO304.out), (bu BK294.out), (bu BK295.out), (beu HB.out)⟩)
         ·skip
          rintro _ w39 ⟨hS_, h0_, h1_, h2_, h3_, h4_⟩; have n0_ : Aside0 (Kd.R (Kd.int .u8) 5 w39 w.heap.size (fun k_ => some k_ ≠ (v303 : Value).ownBlock) v300 t299) := ⟨h0_⟩; have n1_ : Aside0 (Kd.R (Kd.int .u8) 5 w39 w.heap.size (fun k_ => some k_ ≠ (v300 : Value).ownBlock) v303 t302) := ⟨h1_⟩; have n2_ : Aside0 (w39.heap[gb294]? = some (.cells #[.int .i64 a0_0, .int .i64 a0_1, .int .i64 a0_2, .int .i64 a0_3, .int .i64 a0_4, .string a0_5, .string a0_6, .string a0_7, .slice A0_8 l0_8.length c0_8] 31 (0, 0))) := ⟨h2_⟩; have n3_ : Aside0 (w39.heap[gb295]? = some (.cells #[.int .i64 a1_0, .int .i64 a1_1, .int .i64 a1_2, .int .i64 a1_3, .int .i64 a1_4, .string a1_5, .string a1_6, .string a1_7, .slice A1_8 l1_8.length c1_8] 31 (0, 0))) := ⟨h3_⟩; have n4_ : Aside0 (Below w.heap.size w w39) := ⟨h4_⟩; clear HO301 HO304 BK294 BK295 HB h0_ h1_ h2_ h3_ h4_; have HO301 := n0_; have HO304 := n1_; have BK294 := n2_; have BK295 := n3_; have HB := n4_; clear n0_ n1_ n2_ n3_ n4_; have hHeld : w39.cell? ⟨gb294, 0, none⟩ = some (.int .i64 a0_0) ∧ w39.cell? ⟨gb294, 1, none⟩ = some (.int .i64 a0_1) ∧ w39.cell? ⟨gb294, 2, none⟩ = some (.int .i64 a0_2) ∧ w39.cell? ⟨gb294, 3, none⟩ = some (.int .i64 a0_3) ∧ w39.cell? ⟨gb294, 4, none⟩ = some (.int .i64 a0_4) ∧ w39.cell? ⟨gb294, 5, none⟩ = some (.string a0_5) ∧ w39.cell? ⟨gb294, 6, none⟩ = some (.string a0_6) ∧ w39.cell? ⟨gb294, 7, none⟩ = some (.string a0_7) ∧ w39.cell? ⟨gb294, 8, none⟩ = some (.slice A0_8 l0_8.length c0_8) ∧ w39.cell? ⟨gb295, 0, none⟩ = some (.int .i64 a1_0) ∧ w39.cell? ⟨gb295, 1, none⟩ = some (.int .i64 a1_1) ∧ w39.cell? ⟨gb295, 2, none⟩ = some (.int .i64 a1_2) ∧ w39.cell? ⟨gb295, 3, none⟩ = some (.int .i64 a1_3) ∧ w39.cell? ⟨gb295, 4, none⟩ = some (.int .i64 a1_4) ∧ w39.cell? ⟨gb295, 5, none⟩ = some (.string a1_5) ∧ w39.cell? ⟨gb295, 6, none⟩ = some (.string a1_6) ∧ w39.cell? ⟨gb295, 7, none⟩ = some (.string a1_7) ∧ w39.cell? ⟨gb295, 8, none⟩ = some (.slice A1_8 l1_8.length c1_8) := hS_
          refine norm_ (a' := ?_) ?_ ?_
          rotate_left
          ·simp only [putAll, Act.put, List.setIfInBounds_toArray, List.set_cons_zero, List.set_cons_succ]
           rfl
          refine one_ (i := 3) (N := some 32) (bs 9 239) rfl rfl (one_of HT_.out (by kernel_rfl)) (by decide) (fun K hK => ?_)
          have hcv40 := own_string (P := Tryd.prog) Tryd.underlying52 Tryd.underlying5 Tryd.underlying9 (Kd.own_of_R HO304.out)
          refine value_ (w1 := ?_) (v := ?_) (by rfl) rfl ?_ ?_
          rotate_left 2
          ·go_simp
           constructor
           ·rfl
           ·rfl
          clear hcv40
          refine hK.out _ _ ⟨(blk_cell BK294.out 0).trans rfl, (blk_cell BK294.out 1).trans rfl, (blk_cell BK294.out 2).trans rfl, (blk_cell BK294.out 3).trans rfl, (blk_cell BK294.out 4).trans rfl, (blk_cell BK294.out 5).trans rfl, (blk_cell BK294.out 6).trans rfl, (blk_cell BK294.out 7).trans rfl, (blk_cell BK294.out 8).trans rfl, (blk_cell BK295.out 0).trans rfl, (blk_cell BK295.out 1).trans rfl, (blk_cell BK295.out 2).trans rfl, (blk_cell BK295.out 3).trans rfl, (blk_cell BK295.out 4).trans rfl, (blk_cell BK295.out 5).trans rfl, (blk_cell BK295.out 6).trans rfl, (blk_cell BK295.out 7).trans rfl, (blk_cell BK295.out 8).trans rfl⟩ (fun hHeld => ?_)
          clear hK K
          refine norm_ (a' := ?_) ?_ ?_
          rotate_left
          ·show Act.put _ (some 32) _ = _
           simp only [Act.put, List.setIfInBounds_toArray, List.set_cons_zero, List.set_cons_succ, i64_w, i32_w]
           rfl
          refine pure_ (i := 4) (N := some 33) (v := ?_) (a' := ?_) (bs 9 255) rfl rfl (any_of HT_.out (by kernel_rfl)) (fun _ _ _ h => h) (Or.inl ⟨by rfl, ?_⟩) ?_ ?_
          rotate_left
          ·intro w'
           go_simp
           with_reducible rfl
          rotate_left
          ·simp only [Act.put, List.setIfInBounds_toArray, List.set_cons_zero, List.set_cons_succ, i64_w, i32_w]
           rfl
          exact norm_ (by first | (simp only [putAll, Act.put, List.setIfInBounds_toArray, List.set_cons_zero, List.set_cons_succ]; done) | (simp only [putAll, Act.put, List.setIfInBounds_toArray, List.set_cons_zero, List.set_cons_succ]; rfl)) (hJ1_3_7 () _ ⟨hHeld, (ru HO301.out), (ru HO304.out), (bu BK294.out), (bu BK295.out), (beu HB.out)⟩)
        ·skip
         rintro _ w39 ⟨hS_, h0_, h1_, h2_, h3_, h4_⟩; have n0_ : Aside0 (Kd.R (Kd.int .u8) 5 w39 w.heap.size (fun k_ => some k_ ≠ (v303 : Value).ownBlock) v300 t299) := ⟨h0_⟩; have n1_ : Aside0 (Kd.R (Kd.int .u8) 5 w39 w.heap.size (fun k_ => some k_ ≠ (v300 : Value).ownBlock) v303 t302) := ⟨h1_⟩; have n2_ : Aside0 (w39.heap[gb294]? = some (.cells #[.int .i64 a0_0, .int .i64 a0_1, .int .i64 a0_2, .int .i64 a0_3, .int .i64 a0_4, .string a0_5, .string a0_6, .string a0_7, .slice A0_8 l0_8.length c0_8] 31 (0, 0))) := ⟨h2_⟩; have n3_ : Aside0 (w39.heap[gb295]? = some (.cells #[.int .i64 a1_0, .int .i64 a1_1, .int .i64 a1_2, .int .i64 a1_3, .int .i64 a1_4, .string a1_5, .string a1_6, .string a1_7, .slice A1_8 l1_8.length c1_8] 31 (0, 0))) := ⟨h3_⟩; have n4_ : Aside0 (Below w.heap.size w w39) := ⟨h4_⟩; clear HO301 HO304 BK294 BK295 HB h0_ h1_ h2_ h3_ h4_; have HO301 := n0_; have HO304 := n1_; have BK294 := n2_; have BK295 := n3_; have HB := n4_; clear n0_ n1_ n2_ n3_ n4_; have hHeld : w39.cell? ⟨gb294, 0, none⟩ = some (.int .i64 a0_0) ∧ w39.cell? ⟨gb294, 1, none⟩ = some (.int .i64 a0_1) ∧ w39.cell? ⟨gb294, 2, none⟩ = some (.int .i64 a0_2) ∧ w39.cell? ⟨gb294, 3, none⟩ = some (.int .i64 a0_3) ∧ w39.cell? ⟨gb294, 4, none⟩ = some (.int .i64 a0_4) ∧ w39.cell? ⟨gb294, 5, none⟩ = some (.string a0_5) ∧ w39.cell? ⟨gb294, 6, none⟩ = some (.string a0_6) ∧ w39.cell? ⟨gb294, 7, none⟩ = some (.string a0_7) ∧ w39.cell? ⟨gb294, 8, none⟩ = some (.slice A0_8 l0_8.length c0_8) ∧ w39.cell? ⟨gb295, 0, none⟩ = some (.int .i64 a1_0) ∧ w39.cell? ⟨gb295, 1, none⟩ = some (.int .i64 a1_1) ∧ w39.cell? ⟨gb295, 2, none⟩ = some (.int .i64 a1_2) ∧ w39.cell? ⟨gb295, 3, none⟩ = some (.int .i64 a1_3) ∧ w39.cell? ⟨gb295, 4, none⟩ = some (.int .i64 a1_4) ∧ w39.cell? ⟨gb295, 5, none⟩ = some (.string a1_5) ∧ w39.cell? ⟨gb295, 6, none⟩ = some (.string a1_6) ∧ w39.cell? ⟨gb295, 7, none⟩ = some (.string a1_7) ∧ w39.cell? ⟨gb295, 8, none⟩ = some (.slice A1_8 l1_8.length c1_8) := hS_
         refine norm_ (a' := ?_) ?_ ?_
         rotate_left
         ·simp only [putAll, Act.put, List.setIfInBounds_toArray, List.set_cons_zero, List.set_cons_succ]
          rfl
         refine one_ (i := 7) (N := some 36) (bs 9 255) rfl rfl (one_of HT_.out (by kernel_rfl)) (by decide) (fun K hK => ?_)
         refine goes_ Tryd.func18 (by kernel_rfl) rfl #[.agg #[.int .i64 a0_0, .int .i64 a0_1, .int .i64 a0_2, .int .i64 a0_3, .int .i64 a0_4, .string a0_5, .string a0_6, .string a0_7, .slice A0_8 l0_8.length c0_8], .agg #[.int .i64 a1_0, .int .i64 a1_1, .int .i64 a1_2, .int .i64 a1_3, .int .i64 a1_4, .string a1_5, .string a1_6, .string a1_7, .slice A1_8 l1_8.length c1_8]] (by rfl) rfl rfl ap1 ?_
         with_reducible refine (batch_Same.calls kj5 a0_0 a0_1 a0_2 a0_3 a0_4 a0_5 a0_6 a0_7 _ _ l0_8 a1_0 a1_1 a1_2 a1_3 a1_4 a1_5 a1_6 a1_7 _ _ l1_8 t305 _ ?side1 ?side2 ?side3 ?side4 A30.out).mono ?_
         (case side1 => exact cu (Kd.C_below HR0_8.out HB.out))
         (case side2 => exact HC0_8.out)
         (case side3 => exact cu (Kd.C_below HR1_8.out HB.out))
         (case side4 => exact HC1_8.out)
         rintro e w40 ⟨rfl, hb⟩
         refine ⟨_, rfl, ?_⟩
         have n0_ := Aside0.mk (Kd.R_below (ru HO301.out) hb); have n1_ := Aside0.mk (Kd.R_below (ru HO304.out) hb); have n2_ := Aside0.mk (blk_below (bu BK294.out) hb); have n3_ := Aside0.mk (blk_below (bu BK295.out) hb); have n4_ := Aside0.mk (below_step (beu HB.out) hb); clear HO301 HO304 BK294 BK295 HB; have HO301 := n0_; have HO304 := n1_; have BK294 := n2_; have BK295 := n3_; have HB := n4_; clear n0_ n1_ n2_ n3_ n4_
         (try clear hb)
         (try clear hb2)
         (try clear hk)
         (try clear hi)
         refine hK.out _ _ ⟨(blk_cell BK294.out 0).trans rfl, (blk_cell BK294.out 1).trans rfl, (blk_cell BK294.out 2).trans rfl, (blk_cell BK294.out 3).trans rfl, (blk_cell BK294.out 4).trans rfl, (blk_cell BK294.out 5).trans rfl, (blk_cell BK294.out 6).trans rfl, (blk_cell BK294.out 7).trans rfl, (blk_cell BK294.out 8).trans rfl, (blk_cell BK295.out 0).trans rfl, (blk_cell BK295.out 1).trans rfl, (blk_cell BK295.out 2).trans rfl, (blk_cell BK295.out 3).trans rfl, (blk_cell BK295.out 4).trans rfl, (blk_cell BK295.out 5).trans rfl, (blk_cell BK295.out 6).trans rfl, (blk_cell BK295.out 7).trans rfl, (blk_cell BK295.out 8).trans rfl⟩ (fun hHeld => ?_)
         clear hK K
         refine norm_ (a' := ?_) ?_ ?_
         rotate_left
         ·show Act.put _ (some 36) _ = _
          simp only [Act.put, List.setIfInBounds_toArray, List.set_cons_zero, List.set_cons_succ, i64_w, i32_w]
          rfl
         exact norm_ (by first | (simp only [putAll, Act.put, List.setIfInBounds_toArray, List.set_cons_zero, List.set_cons_succ]; done) | (simp only [putAll, Act.put, List.setIfInBounds_toArray, List.set_cons_zero, List.set_cons_succ]; rfl)) (hJ1_3_7 () _ ⟨hHeld, (ru HO301.out), (ru HO304.out), (bu BK294.out), (bu BK295.out), (beu HB.out)⟩)
       rintro _ w40 ⟨hS_, h0_, h1_, h2_, h3_, h4_⟩; have n0_ : Aside0 (Kd.R (Kd.int .u8) 5 w40 w.heap.size (fun k_ => some k_ ≠ (v303 : Value).ownBlock) v300 t299) := ⟨h0_⟩; have n1_ : Aside0 (Kd.R (Kd.int .u8) 5 w40 w.heap.size (fun k_ => some k_ ≠ (v300 : Value).ownBlock) v303 t302) := ⟨h1_⟩; have n2_ : Aside0 (w40.heap[gb294]? = some (.cells #[.int .i64 a0_0, .int .i64 a0_1, .int .i64 a0_2, .int .i64 a0_3, .int .i64 a0_4, .string a0_5, .string a0_6, .string a0_7, .slice A0_8 l0_8.length c0_8] 31 (0, 0))) := ⟨h2_⟩; have n3_ : Aside0 (w40.heap[gb295]? = some (.cells #[.int .i64 a1_0, .int .i64 a1_1, .int .i64 a1_2, .int .i64 a1_3, .int .i64 a1_4, .string a1_5, .string a1_6, .string a1_7, .slice A1_8 l1_8.length c1_8] 31 (0, 0))) := ⟨h3_⟩; have n4_ : Aside0 (Below w.heap.size w w40) := ⟨h4_⟩; clear HO301 HO304 BK294 BK295 HB h0_ h1_ h2_ h3_ h4_; have HO301 := n0_; have HO304 := n1_; have BK294 := n2_; have BK295 := n3_; have HB := n4_; clear n0_ n1_ n2_ n3_ n4_; have hHeld : w40.cell? ⟨gb294, 0, none⟩ = some (.int .i64 a0_0) ∧ w40.cell? ⟨gb294, 1, none⟩ = some (.int .i64 a0_1) ∧ w40.cell? ⟨gb294, 2, none⟩ = some (.int .i64 a0_2) ∧ w40.cell? ⟨gb294, 3, none⟩ = some (.int .i64 a0_3) ∧ w40.cell? ⟨gb294, 4, none⟩ = some (.int .i64 a0_4) ∧ w40.cell? ⟨gb294, 5, none⟩ = some (.string a0_5) ∧ w40.cell? ⟨gb294, 6, none⟩ = some (.string a0_6) ∧ w40.cell? ⟨gb294, 7, none⟩ = some (.string a0_7) ∧ w40.cell? ⟨gb294, 8, none⟩ = some (.slice A0_8 l0_8.length c0_8) ∧ w40.cell? ⟨gb295, 0, none⟩ = some (.int .i64 a1_0) ∧ w40.cell? ⟨gb295, 1, none⟩ = some (.int .i64 a1_1) ∧ w40.cell? ⟨gb295, 2, none⟩ = some (.int .i64 a1_2) ∧ w40.cell? ⟨gb295, 3, none⟩ = some (.int .i64 a1_3) ∧ w40.cell? ⟨gb295, 4, none⟩ = some (.int .i64 a1_4) ∧ w40.cell? ⟨gb295, 5, none⟩ = some (.string a1_5) ∧ w40.cell? ⟨gb295, 6, none⟩ = some (.string a1_6) ∧ w40.cell? ⟨gb295, 7, none⟩ = some (.string a1_7) ∧ w40.cell? ⟨gb295, 8, none⟩ = some (.slice A1_8 l1_8.length c1_8) := hS_
       refine norm_ (a' := ?_) ?_ ?_
       rotate_left
       ·simp only [putAll, Act.put, List.setIfInBounds_toArray, List.set_cons_zero, List.set_cons_succ]
        rfl
       refine pure_ (i := 8) (N := some 37) (v := ?_) (a' := ?_) (bs 9 511) rfl rfl (any_of HT_.out (by kernel_rfl)) (fun _ _ _ h => h) (Or.inl ⟨by rfl, ?_⟩) ?_ ?_
       rotate_left
       ·intro w'
        go_simp
        with_reducible rfl
       rotate_left
       ·simp only [Act.put, List.setIfInBounds_toArray, List.set_cons_zero, List.set_cons_succ, i64_w, i32_w]
        rfl
       refine done_ (done_of HT_.out (by kernel_rfl)) ?_
       obtain ⟨Ao41, co41, eo41⟩ := Kd.R_slice HO301.out; subst eo41
       try go_wp2
       go_ret
       exact ⟨ap4, beu HB.out⟩
      ·rw [if_neg c32] at H
       have c32b0 : decide ((t299.length : Int) ≤ a2) = false := decide_eq_false c32; clear c32
       by_cases c42 : 0 ≤ a2
       ·rw [if_pos c42] at H
        have c42b0 := eq_true c42; have c42b1 : decide (0 ≤ a2) = true := decide_eq_true c42; clear c42
        by_cases c43 : a2 ≤ (t299.length : Int)
        ·rw [if_pos c43] at H
         have c43b0 := eq_true c43; have c43b1 : decide (a2 ≤ (t299.length : Int)) = true := decide_eq_true c43; clear c43; obtain ⟨y306, hy306⟩ : ∃ y_ : List Int, y_ = (t299.take (a2 : Int).toNat) := ⟨_, rfl⟩
         replace H : ((packet_New.f y306).bind fun bt310 => ((batch_Take.f kj5 bt310.1 bt310.2).bind fun bt313 => (if bt313.2.2.2.2.2.2.2.2.2.1 = true then (some false) else ((batch_Same.f kj5 bt313.1 bt313.2.1 bt313.2.2.1 bt313.2.2.2.1 bt313.2.2.2.2.1 bt313.2.2.2.2.2.1 bt313.2.2.2.2.2.2.1 bt313.2.2.2.2.2.2.2.1 bt313.2.2.2.2.2.2.2.2.1 0 0 0 0 0 ⟨#[]⟩ ⟨#[]⟩ ⟨#[]⟩ ([] : List ByteArray)).bind fun t328 => (some t328))))) = some r := by first | (rw [hy306]; with_reducible exact H) | (have H2_ := (Option.bind_some _ _).symm.trans H; rw [hy306]; with_reducible exact H2_) | (have H2_ := (Option.bind_some _ _).symm.trans H; with_reducible exact H2_) | with_reducible exact H | (rw [hy306]; exact H) | exact H
         have Ny306 := Aside0.mk hy306; clear hy306; replace H := obm H; obtain ⟨⟨t310, t311⟩, A440, H⟩ := H; replace H : ((batch_Take.f kj5 t310 t311).bind fun bt313 => (if bt313.2.2.2.2.2.2.2.2.2.1 = true then (some false) else ((batch_Same.f kj5 bt313.1 bt313.2.1 bt313.2.2.1 bt313.2.2.2.1 bt313.2.2.2.2.1 bt313.2.2.2.2.2.1 bt313.2.2.2.2.2.2.1 bt313.2.2.2.2.2.2.2.1 bt313.2.2.2.2.2.2.2.2.1 0 0 0 0 0 ⟨#[]⟩ ⟨#[]⟩ ⟨#[]⟩ ([] : List ByteArray)).bind fun t328 => (some t328)))) = some r := H; have A44 := Aside0.mk A440; clear A440; replace H := obm H; obtain ⟨⟨t313, t314, t315, t316, t317, t318, t319, t320, t321, t324, t325, t326⟩, A450, H⟩ := H; replace H : (if t324 = true then (some false) else ((batch_Same.f kj5 t313 t314 t315 t316 t317 t318 t319 t320 t321 0 0 0 0 0 ⟨#[]⟩ ⟨#[]⟩ ⟨#[]⟩ ([] : List ByteArray)).bind fun t328 => (some t328))) = some r := H; have A45 := Aside0.mk A450; clear A450
         by_cases c46 : t324 = true
         ·subst c46
          have H1 : (some false) = some r := by rw [if_pos rfl] at H; exact H
          clear H; have H := H1; clear H1; obtain rfl := Option.some.inj H
          exact absurd HRT.out (by decide)
         ·replace c46 := Bool.eq_false_iff.mpr c46
          subst c46
          have H1 : ((batch_Same.f kj5 t313 t314 t315 t316 t317 t318 t319 t320 t321 0 0 0 0 0 ⟨#[]⟩ ⟨#[]⟩ ⟨#[]⟩ ([] : List ByteArray)).bind fun t328 => (some t328)) = some r := by rw [if_neg (show ¬ (false = true) by decide)] at H; exact H
          clear H; have H := H1; clear H1; replace H := obm H; obtain ⟨t328, A470, H⟩ := H; replace H : (some t328) = some r := H; have A47 := Aside0.mk A470; clear A470; obtain rfl := Option.some.inj H; simp only [Option.some.injEq, Prod.mk.injEq] at H; obtain ⟨rfl⟩ := H
          try go_wp2
          (try (rw [drewN_self wc]; generalize hq_ : World.drewN wc _ = wc; have _ := Aside0.mk (blk_at hq_ BK294.out); have _ := Aside0.mk (blk_at hq_ BK295.out); have _ := Aside0.mk (below_at hq_ HB.out); clear hq_ BK294 BK295 HB; rename_i BK294 BK295 HB))
          have n0_ := Aside0.mk (blk_drew BK294.out); have n1_ := Aside0.mk (blk_drew BK295.out); have n2_ := Aside0.mk (below_drew1 HB.out); clear BK294 BK295 HB; have BK294 := n0_; have BK295 := n1_; have HB := n2_; clear n0_ n1_ n2_
          refine start_ (n := 6) (S := fun w' => w'.cell? ⟨gb294, 0, none⟩ = some (.int .i64 a0_0) ∧ w'.cell? ⟨gb294, 1, none⟩ = some (.int .i64 a0_1) ∧ w'.cell? ⟨gb294, 2, none⟩ = some (.int .i64 a0_2) ∧ w'.cell? ⟨gb294, 3, none⟩ = some (.int .i64 a0_3) ∧ w'.cell? ⟨gb294, 4, none⟩ = some (.int .i64 a0_4) ∧ w'.cell? ⟨gb294, 5, none⟩ = some (.string a0_5) ∧ w'.cell? ⟨gb294, 6, none⟩ = some (.string a0_6) ∧ w'.cell? ⟨gb294, 7, none⟩ = some (.string a0_7) ∧ w'.cell? ⟨gb294, 8, none⟩ = some (.slice A0_8 l0_8.length c0_8) ∧ w'.cell? ⟨gb295, 0, none⟩ = some (.int .i64 a1_0) ∧ w'.cell? ⟨gb295, 1, none⟩ = some (.int .i64 a1_1) ∧ w'.cell? ⟨gb295, 2, none⟩ = some (.int .i64 a1_2) ∧ w'.cell? ⟨gb295, 3, none⟩ = some (.int .i64 a1_3) ∧ w'.cell? ⟨gb295, 4, none⟩ = some (.int .i64 a1_4) ∧ w'.cell? ⟨gb295, 5, none⟩ = some (.string a1_5) ∧ w'.cell? ⟨gb295, 6, none⟩ = some (.string a1_6) ∧ w'.cell? ⟨gb295, 7, none⟩ = some (.string a1_7) ∧ w'.cell? ⟨gb295, 8, none⟩ = some (.slice A1_8 l1_8.length c1_8)) (ds := []) #[false, false, false, false, false, false] (by kernel_rfl) rfl rfl ⟨(blk_cell BK294.out 0).trans rfl, (blk_cell BK294.out 1).trans rfl, (blk_cell BK294.out 2).trans rfl, (blk_cell BK294.out 3).trans rfl, (blk_cell BK294.out 4).trans rfl, (blk_cell BK294.out 5).trans rfl, (blk_cell BK294.out 6).trans rfl, (blk_cell BK294.out 7).trans rfl, (blk_cell BK294.out 8).trans rfl, (blk_cell BK295.out 0).trans rfl, (blk_cell BK295.out 1).trans rfl, (blk_cell BK295.out 2).trans rfl, (blk_cell BK295.out 3).trans rfl, (blk_cell BK295.out 4).trans rfl, (blk_cell BK295.out 5).trans rfl, (blk_cell BK295.out 6).trans rfl, (blk_cell BK295.out 7).trans rfl, (blk_cell BK295.out 8).trans rfl⟩ (fun hHeld => ?_)
          generalize wc.drew = w48 at BK294 BK295 HB hHeld ⊢
          refine take_ (i := 0) (N := some 25) (v := ?_) (a' := ?_) (bs 6 1) rfl rfl (by kernel_rfl) (fun _ _ _ h => h) (Or.inl ⟨by rfl, ?_⟩) hHeld ?_ ?_
          rotate_left
          ·rintro w' ⟨s0, s1, s2, s3, s4, s5, s6, s7, s8, s9, s10, s11, s12, s13, s14, s15, s16, s17⟩
           go_simp
           with_reducible rfl
          rotate_left
          ·simp only [Act.put, List.setIfInBounds_toArray, List.set_cons_zero, List.set_cons_succ, i64_w, i32_w]
           rfl
          refine take_ (i := 2) (N := some 27) (v := ?_) (a' := ?_) (bs 6 5) rfl rfl (by kernel_rfl) (fun _ _ _ h => h) (Or.inl ⟨by rfl, ?_⟩) hHeld ?_ ?_
          rotate_left
          ·rintro w' ⟨s0, s1, s2, s3, s4, s5, s6, s7, s8, s9, s10, s11, s12, s13, s14, s15, s16, s17⟩
           go_simp
           with_reducible rfl
          rotate_left
          ·simp only [Act.put, List.setIfInBounds_toArray, List.set_cons_zero, List.set_cons_succ, i64_w, i32_w]
           rfl
          refine one_ (i := 1) (N := some 26) (bs 6 7) rfl rfl (by kernel_rfl) (by decide) (fun K hK => ?_)
          refine goes_ Tryd.func28 (by kernel_rfl) rfl #[.slice none 0 0, .agg #[.int .i64 a0_0, .int .i64 a0_1, .int .i64 a0_2, .int .i64 a0_3, .int .i64 a0_4, .string a0_5, .string a0_6, .string a0_7, .slice A0_8 l0_8.length c0_8]] (by rfl) rfl rfl ap1 ?_
          refine (batch_Put.calls kj5 _ _ ([] : List Int) a0_0 a0_1 a0_2 a0_3 a0_4 a0_5 a0_6 a0_7 _ _ l0_8 t299 _ ?side1 ?side2 ?side3 ?side4 A28.out).mono ?_
          (case side1 => exact Kd.C_nil _ _)
          (case side2 => exact Nat.le_refl _)
          (case side3 => exact cu (Kd.C_below HR0_8.out HB.out))
          (case side4 => exact HC0_8.out)
          rintro e w49 ⟨v300, rfl, ho0, hb⟩
          refine ⟨_, rfl, ?_⟩
          have n0_ := Aside0.mk (Kd.R_lower ho0 (below_size (beu HB.out))); have n1_ := Aside0.mk (blk_below (bu BK294.out) hb); have n2_ := Aside0.mk (blk_below (bu BK295.out) hb); have n3_ := Aside0.mk (below_step (beu HB.out) hb); clear BK294 BK295 HB; have HO301 := n0_; have BK294 := n1_; have BK295 := n2_; have HB := n3_; clear n0_ n1_ n2_ n3_
          (try clear hb)
          (try clear hb2)
          (try clear hk)
          (try clear hi)
          (try clear ho0)
          refine hK.out _ _ ⟨(blk_cell BK294.out 0).trans rfl, (blk_cell BK294.out 1).trans rfl, (blk_cell BK294.out 2).trans rfl, (blk_cell BK294.out 3).trans rfl, (blk_cell BK294.out 4).trans rfl, (blk_cell BK294.out 5).trans rfl, (blk_cell BK294.out 6).trans rfl, (blk_cell BK294.out 7).trans rfl, (blk_cell BK294.out 8).trans rfl, (blk_cell BK295.out 0).trans rfl, (blk_cell BK295.out 1).trans rfl, (blk_cell BK295.out 2).trans rfl, (blk_cell BK295.out 3).trans rfl, (blk_cell BK295.out 4).trans rfl, (blk_cell BK295.out 5).trans rfl, (blk_cell BK295.out 6).trans rfl, (blk_cell BK295.out 7).trans rfl, (blk_cell BK295.out 8).trans rfl⟩ (fun hHeld => ?_)
          clear hK K
          refine norm_ (a' := ?_) ?_ ?_
          rotate_left
          ·show Act.put _ (some 26) _ = _
           simp only [Act.put, List.setIfInBounds_toArray, List.set_cons_zero, List.set_cons_succ, i64_w, i32_w]
           rfl
          refine one_ (i := 3) (N := some 28) (bs 6 15) rfl rfl (by kernel_rfl) (by decide) (fun K hK => ?_)
          refine goes_ Tryd.func28 (by kernel_rfl) rfl #[.slice none 0 0, .agg #[.int .i64 a1_0, .int .i64 a1_1, .int .i64 a1_2, .int .i64 a1_3, .int .i64 a1_4, .string a1_5, .string a1_6, .string a1_7, .slice A1_8 l1_8.length c1_8]] (by rfl) rfl rfl ap1 ?_
          refine (batch_Put.calls kj5 _ _ ([] : List Int) a1_0 a1_1 a1_2 a1_3 a1_4 a1_5 a1_6 a1_7 _ _ l1_8 t302 _ ?side1 ?side2 ?side3 ?side4 A29.out).mono ?_
          (case side1 => exact Kd.C_nil _ _)
          (case side2 => exact Nat.le_refl _)
          (case side3 => exact cu (Kd.C_below HR1_8.out HB.out))
          (case side4 => exact HC1_8.out)
          rintro e w50 ⟨v303, rfl, ho0, hb⟩
          refine ⟨_, rfl, ?_⟩
          have n0_ := Aside0.mk (Kd.R_elder' (ru HO301.out) (Kd.R_base ho0) hb); have n1_ := Aside0.mk (Kd.R_lower (Kd.R_new' ho0 (Kd.R_lt (ru HO301.out))) (below_size (beu HB.out))); have n2_ := Aside0.mk (blk_below (bu BK294.out) hb); have n3_ := Aside0.mk (blk_below (bu BK295.out) hb); have n4_ := Aside0.mk (below_step (beu HB.out) hb); clear HO301 BK294 BK295 HB; have HO301 := n0_; have HO304 := n1_; have BK294 := n2_; have BK295 := n3_; have HB := n4_; clear n0_ n1_ n2_ n3_ n4_
          (try clear hb)
          (try clear hb2)
          (try clear hk)
          (try clear hi)
          (try clear ho0)
          refine hK.out _ _ ⟨(blk_cell BK294.out 0).trans rfl, (blk_cell BK294.out 1).trans rfl, (blk_cell BK294.out 2).trans rfl, (blk_cell BK294.out 3).trans rfl, (blk_cell BK294.out 4).trans rfl, (blk_cell BK294.out 5).trans rfl, (blk_cell BK294.out 6).trans rfl, (blk_cell BK294.out 7).trans rfl, (blk_cell BK294.out 8).trans rfl, (blk_cell BK295.out 0).trans rfl, (blk_cell BK295.out 1).trans rfl, (blk_cell BK295.out 2).trans rfl, (blk_cell BK295.out 3).trans rfl, (blk_cell BK295.out 4).trans rfl, (blk_cell BK295.out 5).trans rfl, (blk_cell BK295.out 6).trans rfl, (blk_cell BK295.out 7).trans rfl, (blk_cell BK295.out 8).trans rfl⟩ (fun hHeld => ?_)
          clear hK K
          refine norm_ (a' := ?_) ?_ ?_
          rotate_left
          ·show Act.put _ (some 28) _ = _
           simp only [Act.put, List.setIfInBounds_toArray, List.set_cons_zero, List.set_cons_succ, i64_w, i32_w]
           rfl
          refine pure_ (i := 4) (N := some 7) (v := ?_) (a' := ?_) (bs 6 31) rfl rfl (by kernel_rfl) (fun _ _ _ h => h) (Or.inl ⟨by rfl, ?_⟩) ?_ ?_
          rotate_left
          ·intro w'
           go_simp
           with_reducible rfl
          rotate_left
          ·simp only [Act.put, List.setIfInBounds_toArray, List.set_cons_zero, List.set_cons_succ, i64_w, i32_w]
           rfl
          refine pure_ (i := 5) (N := some 8) (v := ?_) (a' := ?_) (bs 6 63) rfl rfl (by kernel_rfl) (fun _ _ _ h => h) (Or.inl ⟨by rfl, ?_⟩) ?_ ?_
          rotate_left
          ·intro w'
           go_simp
           with_reducible rfl
          rotate_left
          ·simp only [Act.put, List.setIfInBounds_toArray, List.set_cons_zero, List.set_cons_succ, i64_w, i32_w]
           rfl
          refine done_ (by kernel_rfl) ?_
          try go_wp2
          (try (rw [drewN_self w50]; generalize hq_ : World.drewN w50 _ = w50; have _ := Aside0.mk (show Kd.R _ _ w50 _ _ _ _ from by rw [← hq_]; exact Kd.R_drewN HO301.out _); have _ := Aside0.mk (show Kd.R _ _ w50 _ _ _ _ from by rw [← hq_]; exact Kd.R_drewN HO304.out _); have _ := Aside0.mk (blk_at hq_ BK294.out); have _ := Aside0.mk (blk_at hq_ BK295.out); have _ := Aside0.mk (below_at hq_ HB.out); clear hq_ HO301 HO304 BK294 BK295 HB; rename_i HO301 HO304 BK294 BK295 HB))
          have n0_ := Aside0.mk (Kd.R_drew HO301.out); have n1_ := Aside0.mk (Kd.R_drew HO304.out); have n2_ := Aside0.mk (blk_drew BK294.out); have n3_ := Aside0.mk (blk_drew BK295.out); have n4_ := Aside0.mk (below_drew1 HB.out); clear HO301 HO304 BK294 BK295 HB; have HO301 := n0_; have HO304 := n1_; have BK294 := n2_; have BK295 := n3_; have HB := n4_; clear n0_ n1_ n2_ n3_ n4_
          refine start_ (n := 9) (S := fun w' => w'.cell? ⟨gb294, 0, none⟩ = some (.int .i64 a0_0) ∧ w'.cell? ⟨gb294, 1, none⟩ = some (.int .i64 a0_1) ∧ w'.cell? ⟨gb294, 2, none⟩ = some (.int .i64 a0_2) ∧ w'.cell? ⟨gb294, 3, none⟩ = some (.int .i64 a0_3) ∧ w'.cell? ⟨gb294, 4, none⟩ = some (.int .i64 a0_4) ∧ w'.cell? ⟨gb294, 5, none⟩ = some (.string a0_5) ∧ w'.cell? ⟨gb294, 6, none⟩ = some (.string a0_6) ∧ w'.cell? ⟨gb294, 7, none⟩ = some (.string a0_7) ∧ w'.cell? ⟨gb294, 8, none⟩ = some (.slice A0_8 l0_8.length c0_8) ∧ w'.cell? ⟨gb295, 0, none⟩ = some (.int .i64 a1_0) ∧ w'.cell? ⟨gb295, 1, none⟩ = some (.int .i64 a1_1) ∧ w'.cell? ⟨gb295, 2, none⟩ = some (.int .i64 a1_2) ∧ w'.cell? ⟨gb295, 3, none⟩ = some (.int .i64 a1_3) ∧ w'.cell? ⟨gb295, 4, none⟩ = some (.int .i64 a1_4) ∧ w'.cell? ⟨gb295, 5, none⟩ = some (.string a1_5) ∧ w'.cell? ⟨gb295, 6, none⟩ = some (.string a1_6) ∧ w'.cell? ⟨gb295, 7, none⟩ = some (.string a1_7) ∧ w'.cell? ⟨gb295, 8, none⟩ = some (.slice A1_8 l1_8.length c1_8)) (ds := []) #[false, false, false, false, false, false, false, false, false] (by kernel_rfl) rfl rfl ⟨(blk_cell BK294.out 0).trans rfl, (blk_cell BK294.out 1).trans rfl, (blk_cell BK294.out 2).trans rfl, (blk_cell BK294.out 3).trans rfl, (blk_cell BK294.out 4).trans rfl, (blk_cell BK294.out 5).trans rfl, (blk_cell BK294.out 6).trans rfl, (blk_cell BK294.out 7).trans rfl, (blk_cell BK294.out 8).trans rfl, (blk_cell BK295.out 0).trans rfl, (blk_cell BK295.out 1).trans rfl, (blk_cell BK295.out 2).trans rfl, (blk_cell BK295.out 3).trans rfl, (blk_cell BK295.out 4).trans rfl, (blk_cell BK295.out 5).trans rfl, (blk_cell BK295.out 6).trans rfl, (blk_cell BK295.out 7).trans rfl, (blk_cell BK295.out 8).trans rfl⟩ (fun hHeld => ?_); refine with_tabW packhorselaw11_BatchCut.tab6 packhorselaw11_BatchCut.bits6 (fun HT_ HW_ => ?_)
          generalize w50.drew = w51 at HO301 HO304 BK294 BK295 HB hHeld ⊢
          refine pure_ (i := 0) (N := some 29) (v := ?_) (a' := ?_) (bs 9 1) rfl rfl (any_of HT_.out (by kernel_rfl)) (fun _ _ _ h => h) (Or.inl ⟨by rfl, ?_⟩) ?_ ?_
          rotate_left
          ·intro w'
           go_simp
           with_reducible rfl
          rotate_left
          ·simp only [Act.put, List.setIfInBounds_toArray, List.set_cons_zero, List.set_cons_succ, i64_w, i32_w]
           rfl
          refine pure_ (i := 2) (N := some 31) (v := ?_) (a' := ?_) (bs 9 5) rfl rfl (any_of HT_.out (by kernel_rfl)) (fun _ _ _ h => h) (Or.inl ⟨by rfl, ?_⟩) ?_ ?_
          rotate_left
          ·intro w'
           go_simp
           with_reducible rfl
          rotate_left
          ·simp only [Act.put, List.setIfInBounds_toArray, List.set_cons_zero, List.set_cons_succ, i64_w, i32_w]
           rfl
          refine take_ (i := 5) (N := some 34) (v := ?_) (a' := ?_) (bs 9 37) rfl rfl (take_ofW HT_.out HW_.out (by kernel_rfl)) (fun _ _ _ h => h) (Or.inl ⟨by rfl, ?_⟩) hHeld ?_ ?_
          rotate_left
          ·rintro w' ⟨s0, s1, s2, s3, s4, s5, s6, s7, s8, s9, s10, s11, s12, s13, s14, s15, s16, s17⟩
           go_simp
           with_reducible rfl
          rotate_left
          ·simp only [Act.put, List.setIfInBounds_toArray, List.set_cons_zero, List.set_cons_succ, i64_w, i32_w]
           rfl
          refine take_ (i := 6) (N := some 35) (v := ?_) (a' := ?_) (bs 9 101) rfl rfl (take_ofW HT_.out HW_.out (by kernel_rfl)) (fun _ _ _ h => h) (Or.inl ⟨by rfl, ?_⟩) hHeld ?_ ?_
          rotate_left
          ·rintro w' ⟨s0, s1, s2, s3, s4, s5, s6, s7, s8, s9, s10, s11, s12, s13, s14, s15, s16, s17⟩
           go_simp
           with_reducible rfl
          rotate_left
          ·simp only [Act.put, List.setIfInBounds_toArray, List.set_cons_zero, List.set_cons_succ, i64_w, i32_w]
           rfl
          refine join_ (σ := Unit) 1 #[true, true, true, true, true, true, true, true, false] (fun s_ => [(30, .string (strOfNums t299)), (32, .string (strOfNums t302)), (36, .bool t305), (33, .bool ((strOfNums t299).toList == (strOfNums t302).toList))]) (fun s_ w' => (w'.cell? ⟨gb294, 0, none⟩ = some (.int .i64 a0_0) ∧ w'.cell? ⟨gb294, 1, none⟩ = some (.int .i64 a0_1) ∧ w'.cell? ⟨gb294, 2, none⟩ = some (.int .i64 a0_2) ∧ w'.cell? ⟨gb294, 3, none⟩ = some (.int .i64 a0_3) ∧ w'.cell? ⟨gb294, 4, none⟩ = some (.int .i64 a0_4) ∧ w'.cell? ⟨gb294, 5, none⟩ = some (.string a0_5) ∧ w'.cell? ⟨gb294, 6, none⟩ = some (.string a0_6) ∧ w'.cell? ⟨gb294, 7, none⟩ = some (.string a0_7) ∧ w'.cell? ⟨gb294, 8, none⟩ = some (.slice A0_8 l0_8.length c0_8) ∧ w'.cell? ⟨gb295, 0, none⟩ = some (.int .i64 a1_0) ∧ w'.cell? ⟨gb295, 1, none⟩ = some (.int .i64 a1_1) ∧ w'.cell? ⟨gb295, 2, none⟩ = some (.int .i64 a1_2) ∧ w'.cell? ⟨gb295, 3, none⟩ = some (.int .i64 a1_3) ∧ w'.cell? ⟨gb295, 4, none⟩ = some (.int .i64 a1_4) ∧ w'.cell? ⟨gb295, 5, none⟩ = some (.string a1_5) ∧ w'.cell? ⟨gb295, 6, none⟩ = some (.string a1_6) ∧ w'.cell? ⟨gb295, 7, none⟩ = some (.string a1_7) ∧ w'.cell? ⟨gb295, 8, none⟩ = some (.slice A1_8 l1_8.length c1_8)) ∧ (Kd.R (Kd.int .u8) 5 w' w.heap.size (fun k_ => some k_ ≠ (v303 : Value).ownBlock) v300 t299) ∧ (Kd.R (Kd.int .u8) 5 w' w.heap.size (fun k_ => some k_ ≠ (v300 : Value).ownBlock) v303 t302) ∧ (w'.heap[gb294]? = some (.cells #[.int .i64 a0_0, .int .i64 a0_1, .int .i64 a0_2, .int .i64 a0_3, .int .i64 a0_4, .string a0_5, .string a0_6, .string a0_7, .slice A0_8 l0_8.length c0_8] 31 (0, 0))) ∧ (w'.heap[gb295]? = some (.cells #[.int .i64 a1_0, .int .i64 a1_1, .int .i64 a1_2, .int .i64 a1_3, .int .i64 a1_4, .string a1_5, .string a1_6, .string a1_7, .slice A1_8 l1_8.length c1_8] 31 (0, 0))) ∧ (Below w.heap.size w w')) ?_ ?_
          rotate_left
          ·intro hJ1_3_7
           refine join_ (σ := Unit) 2 #[true, true, true, true, true, true, true, false, false] (fun s_ => [(30, .string (strOfNums t299)), (32, .string (strOfNums t302)), (33, .bool ((strOfNums t299).toList == (strOfNums t302).toList))]) (fun s_ w' => (w'.cell? ⟨gb294, 0, none⟩ = some (.int .i64 a0_0) ∧ w'.cell? ⟨gb294, 1, none⟩ = some (.int .i64 a0_1) ∧ w'.cell? ⟨gb294, 2, none⟩ = some (.int .i64 a0_2) ∧ w'.cell? ⟨gb294, 3, none⟩ = some (.int .i64 a0_3) ∧ w'.cell? ⟨gb294, 4, none⟩ = some (.int .i64 a0_4) ∧ w'.cell? ⟨gb294, 5, none⟩ = some (.string a0_5) ∧ w'.cell? ⟨gb294, 6, none⟩ = some (.string a0_6) ∧ w'.cell? ⟨gb294, 7, none⟩ = some (.string a0_7) ∧ w'.cell? ⟨gb294, 8, none⟩ = some (.slice A0_8 l0_8.length c0_8) ∧ w'.cell? ⟨gb295, 0, none⟩ = some (.int .i64 a1_0) ∧ w'.cell? ⟨gb295, 1, none⟩ = some (.int .i64 a1_1) ∧ w'.cell? ⟨gb295, 2, none⟩ = some (.int .i64 a1_2) ∧ w'.cell? ⟨gb295, 3, none⟩ = some (.int .i64 a1_3) ∧ w'.cell? ⟨gb295, 4, none⟩ = some (.int .i64 a1_4) ∧ w'.cell? ⟨gb295, 5, none⟩ = some (.string a1_5) ∧ w'.cell? ⟨gb295, 6, none⟩ = some (.string a1_6) ∧ w'.cell? ⟨gb295, 7, none⟩ = some (.string a1_7) ∧ w'.cell? ⟨gb295, 8, none⟩ = some (.slice A1_8 l1_8.length c1_8)) ∧ (Kd.R (Kd.int .u8) 5 w' w.heap.size (fun k_ => some k_ ≠ (v303 : Value).ownBlock) v300 t299) ∧ (Kd.R (Kd.int .u8) 5 w' w.heap.size (fun k_ => some k_ ≠ (v300 : Value).ownBlock) v303 t302) ∧ (w'.heap[gb294]? = some (.cells #[.int .i64 a0_0, .int .i64 a0_1, .int .i64 a0_2, .int .i64 a0_3, .int .i64 a0_4, .string a0_5, .string a0_6, .string a0_7, .slice A0_8 l0_8.length c0_8] 31 (0, 0))) ∧ (w'.heap[gb295]? = some (.cells #[.int .i64 a1_0, .int .i64 a1_1, .int .i64 a1_2, .int .i64 a1_3, .int .i64 a1_4, .string a1_5, .string a1_6, .string a1_7, .slice A1_8 l1_8.length c1_8] 31 (0, 0))) ∧ (Below w.heap.size w w')) ?_ ?_
           rotate_left
           ·intro hJ1_3
            refine join_ (σ := Unit) 3 #[true, true, true, false, false, true, true, true, false] (fun s_ => [(30, .string (strOfNums t299)), (36, .bool t305)]) (fun s_ w' => (w'.cell? ⟨gb294, 0, none⟩ = some (.int .i64 a0_0) ∧ w'.cell? ⟨gb294, 1, none⟩ = some (.int .i64 a0_1) ∧ w'.cell? ⟨gb294, 2, none⟩ = some (.int .i64 a0_2) ∧ w'.cell? ⟨gb294, 3, none⟩ = some (.int .i64 a0_3) ∧ w'.cell? ⟨gb294, 4, none⟩ = some (.int .i64 a0_4) ∧ w'.cell? ⟨gb294, 5, none⟩ = some (.string a0_5) ∧ w'.cell? ⟨gb294, 6, none⟩ = some (.string a0_6) ∧ w'.cell? ⟨gb294, 7, none⟩ = some (.string a0_7) ∧ w'.cell? ⟨gb294, 8, none⟩ = some (.slice A0_8 l0_8.length c0_8) ∧ w'.cell? ⟨gb295, 0, none⟩ = some (.int .i64 a1_0) ∧ w'.cell? ⟨gb295, 1, none⟩ = some (.int .i64 a1_1) ∧ w'.cell? ⟨gb295, 2, none⟩ = some (.int .i64 a1_2) ∧ w'.cell? ⟨gb295, 3, none⟩ = some (.int .i64 a1_3) ∧ w'.cell? ⟨gb295, 4, none⟩ = some (.int .i64 a1_4) ∧ w'.cell? ⟨gb295, 5, none⟩ = some (.string a1_5) ∧ w'.cell? ⟨gb295, 6, none⟩ = some (.string a1_6) ∧ w'.cell? ⟨gb295, 7, none⟩ = some (.string a1_7) ∧ w'.cell? ⟨gb295, 8, none⟩ = some (.slice A1_8 l1_8.length c1_8)) ∧ (Kd.R (Kd.int .u8) 5 w' w.heap.size (fun k_ => some k_ ≠ (v303 : Value).ownBlock) v300 t299) ∧ (Kd.R (Kd.int .u8) 5 w' w.heap.size (fun k_ => some k_ ≠ (v300 : Value).ownBlock) v303 t302) ∧ (w'.heap[gb294]? = some (.cells #[.int .i64 a0_0, .int .i64 a0_1, .int .i64 a0_2, .int .i64 a0_3, .int .i64 a0_4, .string a0_5, .string a0_6, .string a0_7, .slice A0_8 l0_8.length c0_8] 31 (0, 0))) ∧ (w'.heap[gb295]? = some (.cells #[.int .i64 a1_0, .int .i64 a1_1, .int .i64 a1_2, .int .i64 a1_3, .int .i64 a1_4, .string a1_5, .string a1_6, .string a1_7, .slice A1_8 l1_8.length c1_8] 31 (0, 0))) ∧ (Below w.heap.size w w')) ?_ ?_
            rotate_left
            ·intro hJ1_7
             refine join_ (σ := Unit) 3 #[true, false, true, true, false, true, true, true, false] (fun s_ => [(32, .string (strOfNums t302)), (36, .bool t305)]) (fun s_ w' => (w'.cell? ⟨gb294, 0, none⟩ = some (.int .i64 a0_0) ∧ w'.cell? ⟨gb294, 1, none⟩ = some (.int .i64 a0_1) ∧ w'.cell? ⟨gb294, 2, none⟩ = some (.int .i64 a0_2) ∧ w'.cell? ⟨gb294, 3, none⟩ = some (.int .i64 a0_3) ∧ w'.cell? ⟨gb294, 4, none⟩ = some (.int .i64 a0_4) ∧ w'.cell? ⟨gb294, 5, none⟩ = some (.string a0_5) ∧ w'.cell? ⟨gb294, 6, none⟩ = some (.string a0_6) ∧ w'.cell? ⟨gb294, 7, none⟩ = some (.string a0_7) ∧ w'.cell? ⟨gb294, 8, none⟩ = some (.slice A0_8 l0_8.length c0_8) ∧ w'.cell? ⟨gb295, 0, none⟩ = some (.int .i64 a1_0) ∧ w'.cell? ⟨gb295, 1, none⟩ = some (.int .i64 a1_1) ∧ w'.cell? ⟨gb295, 2, none⟩ = some (.int .i64 a1_2) ∧ w'.cell? ⟨gb295, 3, none⟩ = some (.int .i64 a1_3) ∧ w'.cell? ⟨gb295, 4, none⟩ = some (.int .i64 a1_4) ∧ w'.cell? ⟨gb295, 5, none⟩ = some (.string a1_5) ∧ w'.cell? ⟨gb295, 6, none⟩ = some (.string a1_6) ∧ w'.cell? ⟨gb295, 7, none⟩ = some (.string a1_7) ∧ w'.cell? ⟨gb295, 8, none⟩ = some (.slice A1_8 l1_8.length c1_8)) ∧ (Kd.R (Kd.int .u8) 5 w' w.heap.size (fun k_ => some k_ ≠ (v303 : Value).ownBlock) v300 t299) ∧ (Kd.R (Kd.int .u8) 5 w' w.heap.size (fun k_ => some k_ ≠ (v300 : Value).ownBlock) v303 t302) ∧ (w'.heap[gb294]? = some (.cells #[.int .i64 a0_0, .int .i64 a0_1, .int .i64 a0_2, .int .i64 a0_3, .int .i64 a0_4, .string a0_5, .string a0_6, .string a0_7, .slice A0_8 l0_8.length c0_8] 31 (0, 0))) ∧ (w'.heap[gb295]? = some (.cells #[.int .i64 a1_0, .int .i64 a1_1, .int .i64 a1_2, .int .i64 a1_3, .int .i64 a1_4, .string a1_5, .string a1_6, .string a1_7, .slice A1_8 l1_8.length c1_8] 31 (0, 0))) ∧ (Below w.heap.size w w')) ?_ ?_
             rotate_left
             ·intro hJ3_7
              refine join_ (σ := Unit) 4 #[true, true, true, false, false, true, true, false, false] (fun s_ => [(30, .string (strOfNums t299))]) (fun s_ w' => (w'.cell? ⟨gb294, 0, none⟩ = some (.int .i64 a0_0) ∧ w'.cell? ⟨gb294, 1, none⟩ = some (.int .i64 a0_1) ∧ w'.cell? ⟨gb294, 2, none⟩ = some (.int .i64 a0_2) ∧ w'.cell? ⟨gb294, 3, none⟩ = some (.int .i64 a0_3) ∧ w'.cell? ⟨gb294, 4, none⟩ = some (.int .i64 a0_4) ∧ w'.cell? ⟨gb294, 5, none⟩ = some (.string a0_5) ∧ w'.cell? ⟨gb294, 6, none⟩ = some (.string a0_6) ∧ w'.cell? ⟨gb294, 7, none⟩ = some (.string a0_7) ∧ w'.cell? ⟨gb294, 8, none⟩ = some (.slice A0_8 l0_8.length c0_8) ∧ w'.cell? ⟨gb295, 0, none⟩ = some (.int .i64 a1_0) ∧ w'.cell? ⟨gb295, 1, none⟩ = some (.int .i64 a1_1) ∧ w'.cell? ⟨gb295, 2, none⟩ = some (.int .i64 a1_2) ∧ w'.cell? ⟨gb295, 3, none⟩ = some (.int .i64 a1_3) ∧ w'.cell? ⟨gb295, 4, none⟩ = some (.int .i64 a1_4) ∧ w'.cell? ⟨gb295, 5, none⟩ = some (.string a1_5) ∧ w'.cell? ⟨gb295, 6, none⟩ = some (.string a1_6) ∧ w'.cell? ⟨gb295, 7, none⟩ = some (.string a1_7) ∧ w'.cell? ⟨gb295, 8, none⟩ = some (.slice A1_8 l1_8.length c1_8)) ∧ (Kd.R (Kd.int .u8) 5 w' w.heap.size (fun k_ => some k_ ≠ (v303 : Value).ownBlock) v300 t299) ∧ (Kd.R (Kd.int .u8) 5 w' w.heap.size (fun k_ => some k_ ≠ (v300 : Value).ownBlock) v303 t302) ∧ (w'.heap[gb294]? = some (.cells #[.int .i64 a0_0, .int .i64 a0_1, .int .i64 a0_2, .int .i64 a0_3, .int .i64 a0_4, .string a0_5, .string a0_6, .string a0_7, .slice A0_8 l0_8.length c0_8] 31 (0, 0))) ∧ (w'.heap[gb295]? = some (.cells #[.int .i64 a1_0, .int .i64 a1_1, .int .i64 a1_2, .int .i64 a1_3, .int .i64 a1_4, .string a1_5, .string a1_6, .string a1_7, .slice A1_8 l1_8.length c1_8] 31 (0, 0))) ∧ (Below w.heap.size w w')) ?_ ?_
              rotate_left
              ·intro hJ1
               refine join_ (σ := Unit) 4 #[true, false, true, true, false, true, true, false, false] (fun s_ => [(32, .string (strOfNums t302))]) (fun s_ w' => (w'.cell? ⟨gb294, 0, none⟩ = some (.int .i64 a0_0) ∧ w'.cell? ⟨gb294, 1, none⟩ = some (.int .i64 a0_1) ∧ w'.cell? ⟨gb294, 2, none⟩ = some (.int .i64 a0_2) ∧ w'.cell? ⟨gb294, 3, none⟩ = some (.int .i64 a0_3) ∧ w'.cell? ⟨gb294, 4, none⟩ = some (.int .i64 a0_4) ∧ w'.cell? ⟨gb294, 5, none⟩ = some (.string a0_5) ∧ w'.cell? ⟨gb294, 6, none⟩ = some (.string a0_6) ∧ w'.cell? ⟨gb294, 7, none⟩ = some (.string a0_7) ∧ w'.cell? ⟨gb294, 8, none⟩ = some (.slice A0_8 l0_8.length c0_8) ∧ w'.cell? ⟨gb295, 0, none⟩ = some (.int .i64 a1_0) ∧ w'.cell? ⟨gb295, 1, none⟩ = some (.int .i64 a1_1) ∧ w'.cell? ⟨gb295, 2, none⟩ = some (.int .i64 a1_2) ∧ w'.cell? ⟨gb295, 3, none⟩ = some (.int .i64 a1_3) ∧ w'.cell? ⟨gb295, 4, none⟩ = some (.int .i64 a1_4) ∧ w'.cell? ⟨gb295, 5, none⟩ = some (.string a1_5) ∧ w'.cell? ⟨gb295, 6, none⟩ = some (.string a1_6) ∧ w'.cell? ⟨gb295, 7, none⟩ = some (.string a1_7) ∧ w'.cell? ⟨gb295, 8, none⟩ = some (.slice A1_8 l1_8.length c1_8)) ∧ (Kd.R (Kd.int .u8) 5 w' w.heap.size (fun k_ => some k_ ≠ (v303 : Value).ownBlock) v300 t299) ∧ (Kd.R (Kd.int .u8) 5 w' w.heap.size (fun k_ => some k_ ≠ (v300 : Value).ownBlock) v303 t302) ∧ (w'.heap[gb294]? = some (.cells #[.int .i64 a0_0, .int .i64 a0_1, .int .i64 a0_2, .int .i64 a0_3, .int .i64 a0_4, .string a0_5, .string a0_6, .string a0_7, .slice A0_8 l0_8.length c0_8] 31 (0, 0))) ∧ (w'.heap[gb295]? = some (.cells #[.int .i64 a1_0, .int .i64 a1_1, .int .i64 a1_2, .int .i64 a1_3, .int .i64 a1_4, .string a1_5, .string a1_6, .string a1_7, .slice A1_8 l1_8.length c1_8] 31 (0, 0))) ∧ (Below w.heap.size w w')) ?_ ?_
               rotate_left
               ·intro hJ3
                refine join_ (σ := Unit) 4 #[true, false, true, false, false, true, true, true, false] (fun s_ => [(36, .bool t305)]) (fun s_ w' => (w'.cell? ⟨gb294, 0, none⟩ = some (.int .i64 a0_0) ∧ w'.cell? ⟨gb294, 1, none⟩ = some (.int .i64 a0_1) ∧ w'.cell? ⟨gb294, 2, none⟩ = some (.int .i64 a0_2) ∧ w'.cell? ⟨gb294, 3, none⟩ = some (.int .i64 a0_3) ∧ w'.cell? ⟨gb294, 4, none⟩ = some (.int .i64 a0_4) ∧ w'.cell? ⟨gb294, 5, none⟩ = some (.string a0_5) ∧ w'.cell? ⟨gb294, 6, none⟩ = some (.string a0_6) ∧ w'.cell? ⟨gb294, 7, none⟩ = some (.string a0_7) ∧ w'.cell? ⟨gb294, 8, none⟩ = some (.slice A0_8 l0_8.length c0_8) ∧ w'.cell? ⟨gb295, 0, none⟩ = some (.int .i64 a1_0) ∧ w'.cell? ⟨gb295, 1, none⟩ = some (.int .i64 a1_1) ∧ w'.cell? ⟨gb295, 2, none⟩ = some (.int .i64 a1_2) ∧ w'.cell? ⟨gb295, 3, none⟩ = some (.int .i64 a1_3) ∧ w'.cell? ⟨gb295, 4, none⟩ = some (.int .i64 a1_4) ∧ w'.cell? ⟨gb295, 5, none⟩ = some (.string a1_5) ∧ w'.cell? ⟨gb295, 6, none⟩ = some (.string a1_6) ∧ w'.cell? ⟨gb295, 7, none⟩ = some (.string a1_7) ∧ w'.cell? ⟨gb295, 8, none⟩ = some (.slice A1_8 l1_8.length c1_8)) ∧ (Kd.R (Kd.int .u8) 5 w' w.heap.size (fun k_ => some k_ ≠ (v303 : Value).ownBlock) v300 t299) ∧ (Kd.R (Kd.int .u8) 5 w' w.heap.size (fun k_ => some k_ ≠ (v300 : Value).ownBlock) v303 t302) ∧ (w'.heap[gb294]? = some (.cells #[.int .i64 a0_0, .int .i64 a0_1, .int .i64 a0_2, .int .i64 a0_3, .int .i64 a0_4, .string a0_5, .string a0_6, .string a0_7, .slice A0_8 l0_8.length c0_8] 31 (0, 0))) ∧ (w'.heap[gb295]? = some (.cells #[.int .i64 a1_0, .int .i64 a1_1, .int .i64 a1_2, .int .i64 a1_3, .int .i64 a1_4, .string a1_5, .string a1_6, .string a1_7, .slice A1_8 l1_8.length c1_8] 31 (0, 0))) ∧ (Below w.heap.size w w')) ?_ ?_
                rotate_left
                ·intro hJ7
                 refine three_ (i := 1) (j := 3) (k := 7) (Ni := some 30) (Nj := some 32) (Nk := some 36) #[true, true, true, false, false, true, true, false, false] #[true, false, true, true, false, true, true, false, false] #[true, false, true, false, false, true, true, true, false] rfl rfl rfl rfl rfl rfl (three_of HT_.out (by kernel_rfl)) (by decide) (by decide) (by decide) (fun K hK => ?_) (fun K hK => ?_) (fun K hK => ?_)
                 ·skip
                  have hcv52 := own_string (P := Tryd.prog) Tryd.underlying52 Tryd.underlying5 Tryd.underlying9 (Kd.own_of_R HO301.out)
                  refine value_ (w1 := ?_) (v := ?_) (by rfl) rfl ?_ ?_
                  rotate_left 2
                  ·go_simp
                   constructor
                   ·rfl
                   ·rfl
                  clear hcv52
                  refine hK.out _ _ ⟨(blk_cell BK294.out 0).trans rfl, (blk_cell BK294.out 1).trans rfl, (blk_cell BK294.out 2).trans rfl, (blk_cell BK294.out 3).trans rfl, (blk_cell BK294.out 4).trans rfl, (blk_cell BK294.out 5).trans rfl, (blk_cell BK294.out 6).trans rfl, (blk_cell BK294.out 7).trans rfl, (blk_cell BK294.out 8).trans rfl, (blk_cell BK295.out 0).trans rfl, (blk_cell BK295.out 1).trans rfl, (blk_cell BK295.out 2).trans rfl, (blk_cell BK295.out 3).trans rfl, (blk_cell BK295.out 4).trans rfl, (blk_cell BK295.out 5).trans rfl, (blk_cell BK295.out 6).trans rfl, (blk_cell BK295.out 7).trans rfl, (blk_cell BK295.out 8).trans rfl⟩ (fun hHeld => ?_)
                  clear hK K
                  refine norm_ (a' := ?_) ?_ ?_
                  rotate_left
                  ·show Act.put _ (some 30) _ = _
                   simp only [Act.put, List.setIfInBounds_toArray, List.set_cons_zero, List.set_cons_succ, i64_w, i32_w]
                   rfl
                  exact norm_ (by first | (simp only [putAll, Act.put, List.setIfInBounds_toArray, List.set_cons_zero, List.set_cons_succ]; done) | (simp only [putAll, Act.put, List.setIfInBounds_toArray, List.set_cons_zero, List.set_cons_succ]; rfl)) (hJ1 () _ ⟨hHeld, (ru (Kd.R_mono HO301.out (fun _ hk => by first | exact hk.2 | exact trivial))), (ru (Kd.R_mono HO304.out (fun _ hk => by first | exact hk.2 | exact trivial))), (bu BK294.out), (bu BK295.out), (beu HB.out)⟩)
                 ·skip
                  have hcv52 := own_string (P := Tryd.prog) Tryd.underlying52 Tryd.underlying5 Tryd.underlying9 (Kd.own_of_R HO304.out)
                  refine value_ (w1 := ?_) (v := ?_) (by rfl) rfl ?_ ?_
                  rotate_left 2
                  ·go_simp
                   constructor
                   ·rfl
                   ·rfl
                  clear hcv52
                  refine hK.out _ _ ⟨(blk_cell BK294.out 0).trans rfl, (blk_cell BK294.out 1).trans rfl, (blk_cell BK294.out 2).trans rfl, (blk_cell BK294.out 3).trans rfl, (blk_cell BK294.out 4).trans rfl, (blk_cell BK294.out 5).trans rfl, (blk_cell BK294.out 6).trans rfl, (blk_cell BK294.out 7).trans rfl, (blk_cell BK294.out 8).trans rfl, (blk_cell BK295.out 0).trans rfl, (blk_cell BK295.out 1).trans rfl, (blk_cell BK295.out 2).trans rfl, (blk_cell BK295.out 3).trans rfl, (blk_cell BK295.out 4).trans rfl, (blk_cell BK295.out 5).trans rfl, (blk_cell BK295.out 6).trans rfl, (blk_cell BK295.out 7).trans rfl, (blk_cell BK295.out 8).trans rfl⟩ (fun hHeld => ?_)
                  clear hK K
                  refine norm_ (a' := ?_) ?_ ?_
                  rotate_left
                  ·show Act.put _ (some 32) _ = _
                   simp only [Act.put, List.setIfInBounds_toArray, List.set_cons_zero, List.set_cons_succ, i64_w, i32_w]
                   rfl
                  exact norm_ (by first | (simp only [putAll, Act.put, List.setIfInBounds_toArray, List.set_cons_zero, List.set_cons_succ]; done) | (simp only [putAll, Act.put, List.setIfInBounds_toArray, List.set_cons_zero, List.set_cons_succ]; rfl)) (hJ3 () _ ⟨hHeld, (ru (Kd.R_mono HO301.out (fun _ hk => by first | exact hk.2 | exact trivial))), (ru (Kd.R_mono HO304.out (fun _ hk => by first | exact hk.2 | exact trivial))), (bu BK294.out), (bu BK295.out), (beu HB.out)⟩)
                 ·skip
                  refine goes_ Tryd.func18 (by kernel_rfl) rfl #[.agg #[.int .i64 a0_0, .int .i64 a0_1, .int .i64 a0_2, .int .i64 a0_3, .int .i64 a0_4, .string a0_5, .string a0_6, .string a0_7, .slice A0_8 l0_8.length c0_8], .agg #[.int .i64 a1_0, .int .i64 a1_1, .int .i64 a1_2, .int .i64 a1_3, .int .i64 a1_4, .string a1_5, .string a1_6, .string a1_7, .slice A1_8 l1_8.length c1_8]] (by rfl) rfl rfl ap1 ?_
                  with_reducible refine (batch_Same.calls kj5 a0_0 a0_1 a0_2 a0_3 a0_4 a0_5 a0_6 a0_7 _ _ l0_8 a1_0 a1_1 a1_2 a1_3 a1_4 a1_5 a1_6 a1_7 _ _ l1_8 t305 _ ?side1 ?side2 ?side3 ?side4 A30.out).mono ?_
                  (case side1 => exact cu (Kd.C_below HR0_8.out HB.out))
                  (case side2 => exact HC0_8.out)
                  (case side3 => exact cu (Kd.C_below HR1_8.out HB.out))
                  (case side4 => exact HC1_8.out)
                  rintro e w52 ⟨rfl, hb⟩
                  refine ⟨_, rfl, ?_⟩
                  have n0_ := Aside0.mk (Kd.R_below (ru HO301.out) hb); have n1_ := Aside0.mk (Kd.R_below (ru HO304.out) hb); have n2_ := Aside0.mk (blk_below (bu BK294.out) hb); have n3_ := Aside0.mk (blk_below (bu BK295.out) hb); have n4_ := Aside0.mk (below_step (beu HB.out) hb); clear HO301 HO304 BK294 BK295 HB; have HO301 := n0_; have HO304 := n1_; have BK294 := n2_; have BK295 := n3_; have HB := n4_; clear n0_ n1_ n2_ n3_ n4_
                  (try clear hb)
                  (try clear hb2)
                  (try clear hk)
                  (try clear hi)
                  refine hK.out _ _ ⟨(blk_cell BK294.out 0).trans rfl, (blk_cell BK294.out 1).trans rfl, (blk_cell BK294.out 2).trans rfl, (blk_cell BK294.out 3).trans rfl, (blk_cell BK294.out 4).trans rfl, (blk_cell BK294.out 5).trans rfl, (blk_cell BK294.out 6).trans rfl, (blk_cell BK294.out 7).trans rfl, (blk_cell BK294.out 8).trans rfl, (blk_cell BK295.out 0).trans rfl, (blk_cell BK295.out 1).trans rfl, (blk_cell BK295.out 2).trans rfl, (blk_cell BK295.out 3).trans rfl, (blk_cell BK295.out 4).trans rfl, (blk_cell BK295.out 5).trans rfl, (blk_cell BK295.out 6).trans rfl, (blk_cell BK295.out 7).trans rfl, (blk_cell BK295.out 8).trans rfl⟩ (fun hHeld => ?_)
                  clear hK K
                  refine norm_ (a' := ?_) ?_ ?_
                  rotate_left
                  ·show Act.put _ (some 36) _ = _
                   simp only [Act.put, List.setIfInBounds_toArray, List.set_cons_zero, List.set_cons_succ, i64_w, i32_w]
                   rfl
                  exact norm_ (by first | (simp only [putAll, Act.put, List.setIfInBounds_toArray, List.set_cons_zero, List.set_cons_succ]; done) | (simp only [putAll, Act.put, List.setIfInBounds_toArray, List.set_cons_zero, List.set_cons_succ]; rfl)) (hJ7 () _ ⟨hHeld, (ru (Kd.R_mono HO301.out (fun _ hk => by first | exact hk.2 | exact trivial))), (ru (Kd.R_mono HO304.out (fun _ hk => by first | exact hk.2 | exact trivial))), (bu BK294.out), (bu BK295.out), (beu HB.out)⟩)
                ·skip
                 rintro _ w53 ⟨hS_, h0_, h1_, h2_, h3_, h4_⟩; have n0_ : Aside0 (Kd.R (Kd.int .u8) 5 w53 w.heap.size (fun k_ => some k_ ≠ (v303 : Value).ownBlock) v300 t299) := ⟨h0_⟩; have n1_ : Aside0 (Kd.R (Kd.int .u8) 5 w53 w.heap.size (fun k_ => some k_ ≠ (v300 : Value).ownBlock) v303 t302) := ⟨h1_⟩; have n2_ : Aside0 (w53.heap[gb294]? = some (.cells #[.int .i64 a0_0, .int .i64 a0_1, .int .i64 a0_2, .int .i64 a0_3, .int .i64 a0_4, .string a0_5, .string a0_6, .string a0_7, .slice A0_8 l0_8.length c0_8] 31 (0, 0))) := ⟨h2_⟩; have n3_ : Aside0 (w53.heap[gb295]? = some (.cells #[.int .i64 a1_0, .int .i64 a1_1, .int .i64 a1_2, .int .i64 a1_3, .int .i64 a1_4, .string a1_5, .string a1_6, .string a1_7, .slice A1_8 l1_8.length c1_8] 31 (0, 0))) := ⟨h3_⟩; have n4_ : Aside0 (Below w.heap.size w w53) := ⟨h4_⟩; clear HO301 HO304 BK294 BK295 HB h0_ h1_ h2_ h3_ h4_; have HO301 := n0_; have HO304 := n1_; have BK294 := n2_; have BK295 := n3_; have HB := n4_; clear n0_ n1_ n2_ n3_ n4_; have hHeld : w53.cell? ⟨gb294, 0, none⟩ = some (.int .i64 a0_0) ∧ w53.cell? ⟨gb294, 1, none⟩ = some (.int .i64 a0_1) ∧ w53.cell? ⟨gb294, 2, none⟩ = some (.int .i64 a0_2) ∧ w53.cell? ⟨gb294, 3, none⟩ = some (.int .i64 a0_3) ∧ w53.cell? ⟨gb294, 4, none⟩ = some (.int .i64 a0_4) ∧ w53.cell? ⟨gb294, 5, none⟩ = some (.string a0_5) ∧ w53.cell? ⟨gb294, 6, none⟩ = some (.string a0_6) ∧ w53.cell? ⟨gb294, 7, none⟩ = some (.string a0_7) ∧ w53.cell? ⟨gb294, 8, none⟩ = some (.slice A0_8 l0_8.length c0_8) ∧ w53.cell? ⟨gb295, 0, none⟩ = some (.int .i64 a1_0) ∧ w53.cell? ⟨gb295, 1, none⟩ = some (.int .i64 a1_1) ∧ w53.cell? ⟨gb295, 2, none⟩ = some (.int .i64 a1_2) ∧ w53.cell? ⟨gb295, 3, none⟩ = some (.int .i64 a1_3) ∧ w53.cell? ⟨gb295, 4, none⟩ = some (.int .i64 a1_4) ∧ w53.cell? ⟨gb295, 5, none⟩ = some (.string a1_5) ∧ w53.cell? ⟨gb295, 6, none⟩ = some (.string a1_6) ∧ w53.cell? ⟨gb295, 7, none⟩ = some (.string a1_7) ∧ w53.cell? ⟨gb295, 8, none⟩ = some (.slice A1_8 l1_8.length c1_8) := hS_
                 refine norm_ (a' := ?_) ?_ ?_
                 rotate_left
                 ·simp only [putAll, Act.put, List.setIfInBounds_toArray, List.set_cons_zero, List.set_cons_succ]
                  rfl
                 refine two_ (i := 1) (j := 3) (Ni := some 30) (Nj := some 32) #[true, true, true, false, false, true, true, true, false] #[true, false, true, true, false, true, true, true, false] rfl rfl rfl rfl (two_of HT_.out (by kernel_rfl)) (by decide) (by decide) (fun K hK => ?_) (fun K hK => ?_)
                 ·skip
                  have hcv54 := own_string (P := Tryd.prog) Tryd.underlying52 Tryd.underlying5 Tryd.underlying9 (Kd.own_of_R HO301.out)
                  refine value_ (w1 := ?_) (v := ?_) (by rfl) rfl ?_ ?_
                  rotate_left 2
                  ·go_simp
                   constructor
                   ·rfl
                   ·rfl
                  clear hcv54
                  refine hK.out _ _ ⟨(blk_cell BK294.out 0).trans rfl, (blk_cell BK294.out 1).trans rfl, (blk_cell BK294.out 2).trans rfl, (blk_cell BK294.out 3).trans rfl, (blk_cell BK294.out 4).trans rfl, (blk_cell BK294.out 5).trans rfl, (blk_cell BK294.out 6).trans rfl, (blk_cell BK294.out 7).trans rfl, (blk_cell BK294.out 8).trans rfl, (blk_cell BK295.out 0).trans rfl, (blk_cell BK295.out 1).trans rfl, (blk_cell BK295.out 2).trans rfl, (blk_cell BK295.out 3).trans rfl, (blk_cell BK295.out 4).trans rfl, (blk_cell BK295.out 5).trans rfl, (blk_cell BK295.out 6).trans rfl, (blk_cell BK295.out 7).trans rfl, (blk_cell BK295.out 8).trans rfl⟩ (fun hHeld => ?_)
                  clear hK K
                  refine norm_ (a' := ?_) ?_ ?_
                  rotate_left
                  ·show Act.put _ (some 30) _ = _
                   simp only [Act.put, List.setIfInBounds_toArray, List.set_cons_zero, List.set_cons_succ, i64_w, i32_w]
                   rfl
                  exact norm_ (by first | (simp only [putAll, Act.put, List.setIfInBounds_toArray, List.set_cons_zero, List.set_cons_succ]; done) | (simp only [putAll, Act.put, List.setIfInBounds_toArray, List.set_cons_zero, List.set_cons_succ]; rfl)) (hJ1_7 () _ ⟨hHeld, (ru HO301.out), (ru HO304.out), (bu BK294.out), (bu BK295.out), (beu HB.out)⟩)
                 ·skip
                  have hcv54 := own_string (P := Tryd.prog) Tryd.underlying52 Tryd.underlying5 Tryd.underlying9 (Kd.own_of_R HO304.out)
                  refine value_ (w1 := ?_) (v := ?_) (by rfl) rfl ?_ ?_
                  rotate_left 2
                  ·go_simp
                   constructor
                   ·rfl
                   ·rfl
                  clear hcv54
                  refine hK.out _ _ ⟨(blk_cell BK294.out 0).trans rfl, (blk_cell BK294.out 1).trans rfl, (blk_cell BK294.out 2).trans rfl, (blk_cell BK294.out 3).trans rfl, (blk_cell BK294.out 4).trans rfl, (blk_cell BK294.out 5).trans rfl, (blk_cell BK294.out 6).trans rfl, (blk_cell BK294.out 7).trans rfl, (blk_cell BK294.out 8).trans rfl, (blk_cell BK295.out 0).trans rfl, (blk_cell BK295.out 1).trans rfl, (blk_cell BK295.out 2).trans rfl, (blk_cell BK295.out 3).trans rfl, (blk_cell BK295.out 4).trans rfl, (blk_cell BK295.out 5).trans rfl, (blk_cell BK295.out 6).trans rfl, (blk_cell BK295.out 7).trans rfl, (blk_cell BK295.out 8).trans rfl⟩ (fun hHeld => ?_)
                  clear hK K
                  refine norm_ (a' := ?_) ?_ ?_
                  rotate_left
                  ·show Act.put _ (some 32) _ = _
                   simp only [Act.put, List.setIfInBounds_toArray, List.set_cons_zero, List.set_cons_succ, i64_w, i32_w]
                   rfl
                  exact norm_ (by first | (simp only [putAll, Act.put, List.setIfInBounds_toArray, List.set_cons_zero, List.set_cons_succ]; done) | (simp only [putAll, Act.put, List.setIfInBounds_toArray, List.set_cons_zero, List.set_cons_succ]; rfl)) (hJ3_7 () _ ⟨hHeld, (ru HO301.out), (ru HO304.out), (bu BK294.out), (bu BK295.out), (beu HB.out)⟩)
               ·skip
                rintro _ w53 ⟨hS_, h0_, h1_, h2_, h3_, h4_⟩; have n0_ : Aside0 (Kd.R (Kd.int .u8) 5 w53 w.heap.size (fun k_ => some k_ ≠ (v303 : Value).ownBlock) v300 t299) := ⟨h0_⟩; have n1_ : Aside0 (Kd.R (Kd.int .u8) 5 w53 w.heap.size (fun k_ => some k_ ≠ (v300 : Value).ownBlock) v303 t302) := ⟨h1_⟩; have n2_ : Aside0 (w53.heap[gb294]? = some (.cells #[.int .i64 a0_0, .int .i64 a0_1, .int .i64 a0_2, .int .i64 a0_3, .int .i64 a0_4, .string a0_5, .string a0_6, .string a0_7, .slice A0_8 l0_8.length c0_8] 31 (0, 0))) := ⟨h2_⟩; have n3_ : Aside0 (w53.heap[gb295]? = some (.cells #[.int .i64 a1_0, .int .i64 a1_1, .int .i64 a1_2, .int .i64 a1_3, .int .i64 a1_4, .string a1_5, .string a1_6, .string a1_7, .slice A1_8 l1_8.length c1_8] 31 (0, 0))) := ⟨h3_⟩; have n4_ : Aside0 (Below w.heap.size w w53) := ⟨h4_⟩; clear HO301 HO304 BK294 BK295 HB h0_ h1_ h2_ h3_ h4_; have HO301 := n0_; have HO304 := n1_; have BK294 := n2_; have BK295 := n3_; have HB := n4_; clear n0_ n1_ n2_ n3_ n4_; have hHeld : w53.cell? ⟨gb294, 0, none⟩ = some (.int .i64 a0_0) ∧ w53.cell? ⟨gb294, 1, none⟩ = some (.int .i64 a0_1) ∧ w53.cell? ⟨gb294, 2, none⟩ = some (.int .i64 a0_2) ∧ w53.cell? ⟨gb294, 3, none⟩ = some (.int .i64 a0_3) ∧ w53.cell? ⟨gb294, 4, none⟩ = some (.int .i64 a0_4) ∧ w53.cell? ⟨gb294, 5, none⟩ = some (.string a0_5) ∧ w53.cell? ⟨gb294, 6, none⟩ = some (.string a0_6) ∧ w53.cell? ⟨gb294, 7, none⟩ = some (.string a0_7) ∧ w53.cell? ⟨gb294, 8, none⟩ = some (.slice A0_8 l0_8.length c0_8) ∧ w53.cell? ⟨gb295, 0, none⟩ = some (.int .i64 a1_0) ∧ w53.cell? ⟨gb295, 1, none⟩ = some (.int .i64 a1_1) ∧ w53.cell? ⟨gb295, 2, none⟩ = some (.int .i64 a1_2) ∧ w53.cell? ⟨gb295, 3, none⟩ = some (.int .i64 a1_3) ∧ w53.cell? ⟨gb295, 4, none⟩ = some (.int .i64 a1_4) ∧ w53.cell? ⟨gb295, 5, none⟩ = some (.string a1_5) ∧ w53.cell? ⟨gb295, 6, none⟩ = some (.string a1_6) ∧ w53.cell? ⟨gb295, 7, none⟩ = some (.string a1_7) ∧ w53.cell? ⟨gb295, 8, none⟩ = some (.slice A1_8 l1_8.length c1_8) := hS_
                refine norm_ (a' := ?_) ?_ ?_
                rotate_left
                ·simp only [putAll, Act.put, List.setIfInBounds_toArray, List.set_cons_zero, List.set_cons_succ]
                 rfl
                refine two_ (i := 1) (j := 7) (Ni := some 30) (Nj := some 36) #[true, true, true, true, false, true, true, false, false] #[true, false, true, true, false, true, true, true, false] rfl rfl rfl rfl (two_of HT_.out (by kernel_rfl)) (by decide) (by decide) (fun K hK => ?_) (fun K hK => ?_)
                ·skip
                 have hcv54 := own_string (P := Tryd.prog) Tryd.underlying52 Tryd.underlying5 Tryd.underlying9 (Kd.own_of_R HO301.out)
                 refine value_ (w1 := ?_) (v := ?_) (by rfl) rfl ?_ ?_
                 rotate_left 2
                 ·go_simp
                  constructor
                  ·rfl
                  ·rfl
                 clear hcv54
                 refine hK.out _ _ ⟨(blk_cell BK294.out 0).trans rfl, (blk_cell BK294.out 1).trans rfl, (blk_cell BK294.out 2).trans rfl, (blk_cell BK294.out 3).trans rfl, (blk_cell BK294.out 4).trans rfl, (blk_cell BK294.out 5).trans rfl, (blk_cell BK294.out 6).trans rfl, (blk_cell BK294.out 7).trans rfl, (blk_cell BK294.out 8).trans rfl, (blk_cell BK295.out 0).trans rfl, (blk_cell BK295.out 1).trans rfl, (blk_cell BK295.out 2).trans rfl, (blk_cell BK295.out 3).trans rfl, (blk_cell BK295.out 4).trans rfl, (blk_cell BK295.out 5).trans rfl, (blk_cell BK295.out 6).trans rfl, (blk_cell BK295.out 7).trans rfl, (blk_cell BK295.out 8).trans rfl⟩ (fun hHeld => ?_)
                 clear hK K
                 refine norm_ (a' := ?_) ?_ ?_
                 rotate_left
                 ·show Act.put _ (some 30) _ = _
                  simp only [Act.put, List.setIfInBounds_toArray, List.set_cons_zero, List.set_cons_succ, i64_w, i32_w]
                  rfl
                 refine pure_ (i := 4) (N := some 33) (v := ?_) (a' := ?_) (bs 9 127) rfl rfl (any_of HT_.out (by kernel_rfl)) (fun _ _ _ h => h) (Or.inl ⟨by rfl, ?_⟩) ?_ ?_
                 rotate_left
                 ·intro w'
                  go_simp
                  with_reducible rfl
                 rotate_left
                 ·simp only [Act.put, List.setIfInBounds_toArray, List.set_cons_zero, List.set_cons_succ, i64_w, i32_w]
                  rfl
                 exact norm_ (by first | (simp only [putAll, Act.put, List.setIfInBounds_toArray, List.set_cons_zero, List.set_cons_succ]; done) | (simp only [putAll, Act.put, List.setIfInBounds_toArray, List.set_cons_zero, List.set_cons_succ]; rfl)) (hJ1_3 () _ ⟨hHeld, (ru HO301.out), (ru HO304.out), (bu BK294.out), (bu BK295.out), (beu HB.out)⟩)
                ·skip
                 refine goes_ Tryd.func18 (by kernel_rfl) rfl #[.agg #[.int .i64 a0_0, .int .i64 a0_1, .int .i64 a0_2, .int .i64 a0_3, .int .i64 a0_4, .string a0_5, .string a0_6, .string a0_7, .slice A0_8 l0_8.length c0_8], .agg #[.int .i64 a1_0, .int .i64 a1_1, .int .i64 a1_2, .int .i64 a1_3, .int .i64 a1_4, .string a1_5, .string a1_6, .string a1_7, .slice A1_8 l1_8.length c1_8]] (by rfl) rfl rfl ap1 ?_
                 with_reducible refine (batch_Same.calls kj5 a0_0 a0_1 a0_2 a0_3 a0_4 a0_5 a0_6 a0_7 _ _ l0_8 a1_0 a1_1 a1_2 a1_3 a1_4 a1_5 a1_6 a1_7 _ _ l1_8 t305 _ ?side1 ?side2 ?side3 ?side4 A30.out).mono ?_
                 (case side1 => exact cu (Kd.C_below HR0_8.out HB.out))
                 (case side2 => exact HC0_8.out)
                 (case side3 => exact cu (Kd.C_below HR1_8.out HB.out))
                 (case side4 => exact HC1_8.out)
                 rintro e w54 ⟨rfl, hb⟩
                 refine ⟨_, rfl, ?_⟩
                 have n0_ := Aside0.mk (Kd.R_below (ru HO301.out) hb); have n1_ := Aside0.mk (Kd.R_below (ru HO304.out) hb); have n2_ := Aside0.mk (blk_below (bu BK294.out) hb); have n3_ := Aside0.mk (blk_below (bu BK295.out) hb); have n4_ := Aside0.mk (below_step (beu HB.out) hb); clear HO301 HO304 BK294 BK295 HB; have HO301 := n0_; have HO304 := n1_; have BK294 := n2_; have BK295 := n3_; have HB := n4_; clear n0_ n1_ n2_ n3_ n4_
                 (try clear hb)
                 (try clear hb2)
                 (try clear hk)
                 (try clear hi)
                 refine hK.out _ _ ⟨(blk_cell BK294.out 0).trans rfl, (blk_cell BK294.out 1).trans rfl, (blk_cell BK294.out 2).trans rfl, (blk_cell BK294.out 3).trans rfl, (blk_cell BK294.out 4).trans rfl, (blk_cell BK294.out 5).trans rfl, (blk_cell BK294.out 6).trans rfl, (blk_cell BK294.out 7).trans rfl, (blk_cell BK294.out 8).trans rfl, (blk_cell BK295.out 0).trans rfl, (blk_cell BK295.out 1).trans rfl, (blk_cell BK295.out 2).trans rfl, (blk_cell BK295.out 3).trans rfl, (blk_cell BK295.out 4).trans rfl, (blk_cell BK295.out 5).trans rfl, (blk_cell BK295.out 6).trans rfl, (blk_cell BK295.out 7).trans rfl, (blk_cell BK295.out 8).trans rfl⟩ (fun hHeld => ?_)
                 clear hK K
                 refine norm_ (a' := ?_) ?_ ?_
                 rotate_left
                 ·show Act.put _ (some 36) _ = _
                  simp only [Act.put, List.setIfInBounds_toArray, List.set_cons_zero, List.set_cons_succ, i64_w, i32_w]
                  rfl
                 exact norm_ (by first | (simp only [putAll, Act.put, List.setIfInBounds_toArray, List.set_cons_zero, List.set_cons_succ]; done) | (simp only [putAll, Act.put, List.setIfInBounds_toArray, List.set_cons_zero, List.set_cons_succ]; rfl)) (hJ3_7 () _ ⟨hHeld, (ru HO301.out), (ru HO304.out), (bu BK294.out), (bu BK295.out), (beu HB.out)⟩)
              ·skip
               rintro _ w53 ⟨hS_, h0_, h1_, h2_, h3_, h4_⟩; have n0_ : Aside0 (Kd.R (Kd.int .u8) 5 w53 w.heap.size (fun k_ => some k_ ≠ (v303 : Value).ownBlock) v300 t299) := ⟨h0_⟩; have n1_ : Aside0 (Kd.R (Kd.int .u8) 5 w53 w.heap.size (fun k_ => some k_ ≠ (v300 : Value).ownBlock) v303 t302) := ⟨h1_⟩; have n2_ : Aside0 (w53.heap[gb294]? = some (.cells #[.int .i64 a0_0, .int .i64 a0_1, .int .i64 a0_2, .int .i64 a0_3, .int .i64 a0_4, .string a0_5, .string a0_6, .string a0_7, .slice A0_8 l0_8.length c0_8] 31 (0, 0))) := ⟨h2_⟩; have n3_ : Aside0 (w53.heap[gb295]? = some (.cells #[.int .i64 a1_0, .int .i64 a1_1, .int .i64 a1_2, .int .i64 a1_3, .int .i64 a1_4, .string a1_5, .string a1_6, .string a1_7, .slice A1_8 l1_8.length c1_8] 31 (0, 0))) := ⟨h3_⟩; have n4_ : Aside0 (Below w.heap.size w w53) := ⟨h4_⟩; clear HO301 HO304 BK294 BK295 HB h0_ h1_ h2_ h3_ h4_; have HO301 := n0_; have HO304 := n1_; have BK294 := n2_; have BK295 := n3_; have HB := n4_; clear n0_ n1_ n2_ n3_ n4_; have hHeld : w53.cell? ⟨gb294, 0, none⟩ = some (.int .i64 a0_0) ∧ w53.cell? ⟨gb294, 1, none⟩ = some (.int .i64 a0_1) ∧ w53.cell? ⟨gb294, 2, none⟩ = some (.int .i64 a0_2) ∧ w53.cell? ⟨gb294, 3, none⟩ = some (.int .i64 a0_3) ∧ w53.cell? ⟨gb294, 4, none⟩ = some (.int .i64 a0_4) ∧ w53.cell? ⟨gb294, 5, none⟩ = some (.string a0_5) ∧ w53.cell? ⟨gb294, 6, none⟩ = some (.string a0_6) ∧ w53.cell? ⟨gb294, 7, none⟩ = some (.string a0_7) ∧ w53.cell? ⟨gb294, 8, none⟩ = some (.slice A0_8 l0_8.length c0_8) ∧ w53.cell? ⟨gb295, 0, none⟩ = some (.int .i64 a1_0) ∧ w53.cell? ⟨gb295, 1, none⟩ = some (.int .i64 a1_1) ∧ w53.cell? ⟨gb295, 2, none⟩ = some (.int .i64 a1_2) ∧ w53.cell? ⟨gb295, 3, none⟩ = some (.int .i64 a1_3) ∧ w53.cell? ⟨gb295, 4, none⟩ = some (.int .i64 a1_4) ∧ w53.cell? ⟨gb295, 5, none⟩ = some (.string a1_5) ∧ w53.cell? ⟨gb295, 6, none⟩ = some (.string a1_6) ∧ w53.cell? ⟨gb295, 7, none⟩ = some (.string a1_7) ∧ w53.cell? ⟨gb295, 8, none⟩ = some (.slice A1_8 l1_8.length c1_8) := hS_
               refine norm_ (a' := ?_) ?_ ?_
               rotate_left
               ·simp only [putAll, Act.put, List.setIfInBounds_toArray, List.set_cons_zero, List.set_cons_succ]
                rfl
               refine two_ (i := 3) (j := 7) (Ni := some 32) (Nj := some 36) #[true, true, true, true, false, true, true, false, false] #[true, true, true, false, false, true, true, true, false] rfl rfl rfl rfl (two_of HT_.out (by kernel_rfl)) (by decide) (by decide) (fun K hK => ?_) (fun K hK => ?_)
               ·skip
                have hcv54 := own_string (P := Tryd.prog) Tryd.underlying52 Tryd.underlying5 Tryd.underlying9 (Kd.own_of_R HO304.out)
                refine value_ (w1 := ?_) (v := ?_) (by rfl) rfl ?_ ?_
                rotate_left 2
                ·go_simp
                 constructor
                 ·rfl
                 ·rfl
                clear hcv54
                refine hK.out _ _ ⟨(blk_cell BK294.out 0).trans rfl, (blk_cell BK294.out 1).trans rfl, (blk_cell BK294.out 2).trans rfl, (blk_cell BK294.out 3).trans rfl, (blk_cell BK294.out 4).trans rfl, (blk_cell BK294.out 5).trans rfl, (blk_cell BK294.out 6).trans rfl, (blk_cell BK294.out 7).trans rfl, (blk_cell BK294.out 8).trans rfl, (blk_cell BK295.out 0).trans rfl, (blk_cell BK295.out 1).trans rfl, (blk_cell BK295.out 2).trans rfl, (blk_cell BK295.out 3).trans rfl, (blk_cell BK295.out 4).trans rfl, (blk_cell BK295.out 5).trans rfl, (blk_cell BK295.out 6).trans rfl, (blk_cell BK295.out 7).trans rfl, (blk_cell BK295.out 8).trans rfl⟩ (fun hHeld => ?_)
                clear hK K
                refine norm_ (a' := ?_) ?_ ?_
                rotate_left
                ·show Act.put _ (some 32) _ = _
                 simp only [Act.put, List.setIfInBounds_toArray, List.set_cons_zero, List.set_cons_succ, i64_w, i32_w]
                 rfl
                refine pure_ (i := 4) (N := some 33) (v := ?_) (a' := ?_) (bs 9 127) rfl rfl (any_of HT_.out (by kernel_rfl)) (fun _ _ _ h => h) (Or.inl ⟨by rfl, ?_⟩) ?_ ?_
                rotate_left
                ·intro w'
                 go_simp
                 with_reducible rfl
                rotate_left
                ·simp only [Act.put, List.setIfInBounds_toArray, List.set_cons_zero, List.set_cons_succ, i64_w, i32_w]
                 rfl
                exact norm_ (by first | (simp only [putAll, Act.put, List.setIfInBounds_toArray, List.set_cons_zero, List.set_cons_succ]; done) | (simp only [putAll, Act.put, List.setIfInBounds_toArray, List.set_cons_zero, List.set_cons_succ]; rfl)) (hJ1_3 () _ ⟨hHeld, (ru HO301.out), (ru HO304.out), (bu BK294.out), (bu BK295.out), (beu HB.out)⟩)
               ·skip
                refine goes_ Tryd.func18 (by kernel_rfl) rfl #[.agg #[.int .i64 a0_0, .int .i64 a0_1, .int .i64 a0_2, .int .i64 a0_3, .int .i64 a0_4, .string a0_5, .string a0_6, .string a0_7, .slice A0_8 l0_8.length c0_8], .agg #[.int .i64 a1_0, .int .i64 a1_1, .int .i64 a1_2, .int .i64 a1_3, .int .i64 a1_4, .string a1_5, .string a1_6, .string a1_7, .slice A1_8 l1_8.length c1_8]] (by rfl) rfl rfl ap1 ?_
                with_reducible refine (batch_Same.calls kj5 a0_0 a0_1 a0_2 a0_3 a0_4 a0_5 a0_6 a0_7 _ _ l0_8 a1_0 a1_1 a1_2 a1_3 a1_4 a1_5 a1_6 a1_7 _ _ l1_8 t305 _ ?side1 ?side2 ?side3 ?side4 A30.out).mono ?_
                (case side1 => exact cu (Kd.C_below HR0_8.out HB.out))
                (case side2 => exact HC0_8.out)
                (case side3 => exact cu (Kd.C_below HR1_8.out HB.out))
                (case side4 => exact HC1_8.out)
                rintro e w54 ⟨rfl, hb⟩
                refine ⟨_, rfl, ?_⟩
                have n0_ := Aside0.mk (Kd.R_below (ru HO301.out) hb); have n1_ := Aside0.mk (Kd.R_below (ru HO304.out) hb); have n2_ := Aside0.mk (blk_below (bu BK294.out) hb); have n3_ := Aside0.mk (blk_below (bu BK295.out) hb); have n4_ := Aside0.mk (below_step (beu HB.out) hb); clear HO301 HO304 BK294 BK295 HB; have HO301 := n0_; have HO304 := n1_; have BK294 := n2_; have BK295 := n3_; have HB := n4_; clear n0_ n1_ n2_ n3_ n4_
                (try clear hb)
                (try clear hb2)
                (try clear hk)
                (try clear hi)
                refine hK.out _ _ ⟨(blk_cell BK294.out 0).trans rfl, (blk_cell BK294.out 1).trans rfl, (blk_cell BK294.out 2).trans rfl, (blk_cell BK294.out 3).trans rfl, (blk_cell BK294.out 4).trans rfl, (blk_cell BK294.out 5).trans rfl, (blk_cell BK294.out 6).trans rfl, (blk_cell BK294.out 7).trans rfl, (blk_cell BK294.out 8).trans rfl, (blk_cell BK295.out 0).trans rfl, (blk_cell BK295.out 1).trans rfl, (blk_cell BK295.out 2).trans rfl, (blk_cell BK295.out 3).trans rfl, (blk_cell BK295.out 4).trans rfl, (blk_cell BK295.out 5).trans rfl, (blk_cell BK295.out 6).trans rfl, (blk_cell BK295.out 7).trans rfl, (blk_cell BK295.out 8).trans rfl⟩ (fun hHeld => ?_)
                clear hK K
                refine norm_ (a' := ?_) ?_ ?_
                rotate_left
                ·show Act.put _ (some 36) _ = _
                 simp only [Act.put, List.setIfInBounds_toArray, List.set_cons_zero, List.set_cons_succ, i64_w, i32_w]
                 rfl
                exact norm_ (by first | (simp only [putAll, Act.put, List.setIfInBounds_toArray, List.set_cons_zero, List.set_cons_succ]; done) | (simp only [putAll, Act.put, List.setIfInBounds_toArray, List.set_cons_zero, List.set_cons_succ]; rfl)) (hJ1_7 () _ ⟨hHeld, (ru HO301.out), (ru HO304.out), (bu BK294.out), (bu BK295.out), (beu HB.out)⟩)
             ·skip
              rintro _ w54 ⟨hS_, h0_, h1_, h2_, h3_, h4_⟩; have n0_ : Aside0 (Kd.R (Kd.int .u8) 5 w54 w.heap.size (fun k_ => some k_ ≠ (v303 : Value).ownBlock) v300 t299) := ⟨h0_⟩; have n1_ : Aside0 (Kd.R (Kd.int .u8) 5 w54 w.heap.size (fun k_ => some k_ ≠ (v300 : Value).ownBlock) v303 t302) := ⟨h1_⟩; have n2_ : Aside0 (w54.heap[gb294]? = some (.cells #[.int .i64 a0_0, .int .i64 a0_1, .int .i64 a0_2, .int .i64 a0_3, .int .i64 a0_4, .string a0_5, .string a0_6, .string a0_7, .slice A0_8 l0_8.length c0_8] 31 (0, 0))) := ⟨h2_⟩; have n3_ : Aside0 (w54.heap[gb295]? = some (.cells #[.int .i64 a1_0, .int .i64 a1_1, .int .i64 a1_2, .int .i64 a1_3, .int .i64 a1_4, .string a1_5, .string a1_6, .string a1_7, .slice A1_8 l1_8.length c1_8] 31 (0, 0))) := ⟨h3_⟩; have n4_ : Aside0 (Below w.heap.size w w54) := ⟨h4_⟩; clear HO301 HO304 BK294 BK295 HB h0_ h1_ h2_ h3_ h4_; have HO301 := n0_; have HO304 := n1_; have BK294 := n2_; have BK295 := n3_; have HB := n4_; clear n0_ n1_ n2_ n3_ n4_; have hHeld : w54.cell? ⟨gb294, 0, none⟩ = some (.int .i64 a0_0) ∧ w54.cell? ⟨gb294, 1, none⟩ = some (.int .i64 a0_1) ∧ w54.cell? ⟨gb294, 2, none⟩ = some (.int .i64 a0_2) ∧ w54.cell? ⟨gb294, 3, none⟩ = some (.int .i64 a0_3) ∧ w54.cell? ⟨gb294, 4, none⟩ = some (.int .i64 a0_4) ∧ w54.cell? ⟨gb294, 5, none⟩ = some (.string a0_5) ∧ w54.cell? ⟨gb294, 6, none⟩ = some (.string a0_6) ∧ w54.cell? ⟨gb294, 7, none⟩ = some (.string a0_7) ∧ w54.cell? ⟨gb294, 8, none⟩ = some (.slice A0_8 l0_8.length c0_8) ∧ w54.cell? ⟨gb295, 0, none⟩ = some (.int .i64 a1_0) ∧ w54.cell? ⟨gb295, 1, none⟩ = some (.int .i64 a1_1) ∧ w54.cell? ⟨gb295, 2, none⟩ = some (.int .i64 a1_2) ∧ w54.cell? ⟨gb295, 3, none⟩ = some (.int .i64 a1_3) ∧ w54.cell? ⟨gb295, 4, none⟩ = some (.int .i64 a1_4) ∧ w54.cell? ⟨gb295, 5, none⟩ = some (.string a1_5) ∧ w54.cell? ⟨gb295, 6, none⟩ = some (.string a1_6) ∧ w54.cell? ⟨gb295, 7, none⟩ = some (.string a1_7) ∧ w54.cell? ⟨gb295, 8, none⟩ = some (.slice A1_8 l1_8.length c1_8) := hS_
              refine norm_ (a' := ?_) ?_ ?_
              rotate_left
              ·simp only [putAll, Act.put, List.setIfInBounds_toArray, List.set_cons_zero, List.set_cons_succ]
               rfl
              refine one_ (i := 1) (N := some 30) (bs 9 239) rfl rfl (one_of HT_.out (by kernel_rfl)) (by decide) (fun K hK => ?_)
              have hcv55 := own_string (P := Tryd.prog) Tryd.underlying52 Tryd.underlying5 Tryd.underlying9 (Kd.own_of_R HO301.out)
              refine value_ (w1 := ?_) (v := ?_) (by rfl) rfl ?_ ?_
              rotate_left 2
              ·go_simp
               constructor
               ·rfl
               ·rfl
              clear hcv55
              refine hK.out _ _ ⟨(blk_cell BK294.out 0).trans rfl, (blk_cell BK294.out 1).trans rfl, (blk_cell BK294.out 2).trans rfl, (blk_cell BK294.out 3).trans rfl, (blk_cell BK294.out 4).trans rfl, (blk_cell BK294.out 5).trans rfl, (blk_cell BK294.out 6).trans rfl, (blk_cell BK294.out 7).trans rfl, (blk_cell BK294.out 8).trans rfl, (blk_cell BK295.out 0).trans rfl, (blk_cell BK295.out 1).trans rfl, (blk_cell BK295.out 2).trans rfl, (blk_cell BK295.out 3).trans rfl, (blk_cell BK295.out 4).trans rfl, (blk_cell BK295.out 5).trans rfl, (blk_cell BK295.out 6).trans rfl, (blk_cell BK295.out 7).trans rfl, (blk_cell BK295.out 8).trans rfl⟩ (fun hHeld => ?_)
              clear hK K
              refine norm_ (a' := ?_) ?_ ?_
              rotate_left
              ·show Act.put _ (some 30) _ = _
               simp only [Act.put, List.setIfInBounds_toArray, List.set_cons_zero, List.set_cons_succ, i64_w, i32_w]
               rfl
              refine pure_ (i := 4) (N := some 33) (v := ?_) (a' := ?_) (bs 9 255) rfl rfl (any_of HT_.out (by kernel_rfl)) (fun _ _ _ h => h) (Or.inl ⟨by rfl, ?_⟩) ?_ ?_
              rotate_left
              ·intro w'
               go_simp
               with_reducible rfl
              rotate_left
              ·simp only [Act.put, List.setIfInBounds_toArray, List.set_cons_zero, List.set_cons_succ, i64_w, i32_w]
               rfl
              exact norm_ (by first | (simp only [putAll, Act.put, List.setIfInBounds_toArray, List.set_cons_zero, List.set_cons_succ]; done) | (simp only [putAll, Act.put, List.setIfInBounds_toArray, List.set_cons_zero, List.set_cons_succ]; rfl)) (hJ1_3_7 () _ ⟨hHeld, (ru HO301.out), (ru HO304.out), (bu BK294.out), (bu BK295.out), (beu HB.out)⟩)
            ·skip
             rintro _ w54 ⟨hS_, h0_, h1_, h2_, h3_, h4_⟩; have n0_ : Aside0 (Kd.R (Kd.int .u8) 5 w54 w.heap.size (fun k_ => some k_ ≠ (v303 : Value).ownBlock) v300 t299) := ⟨h0_⟩; have n1_ : Aside0 (Kd.R (Kd.int .u8) 5 w54 w.heap.size (fun k_ => some k_ ≠ (v300 : Value).ownBlock) v303 t302) := ⟨h1_⟩; have n2_ : Aside0 (w54.heap[gb294]? = some (.cells #[.int .i64 a0_0, .int .i64 a0_1, .int .i64 a0_2, .int .i64 a0_3, .int .i64 a0_4, .string a0_5, .string a0_6, .string a0_7, .slice A0_8 l0_8.length c0_8] 31 (0, 0))) := ⟨h2_⟩; have n3_ : Aside0 (w54.heap[gb295]? = some (.cells #[.int .i64 a1_0, .int .i64 a1_1, .int .i64 a1_2, .int .i64 a1_3, .int .i64 a1_4, .string a1_5, .string a1_6, .string a1_7, .slice A1_8 l1_8.length c1_8] 31 (0, 0))) := ⟨h3_⟩; have n4_ : Aside0 (Below w.heap.size w w54) := ⟨h4_⟩; clear HO301 HO304 BK294 BK295 HB h0_ h1_ h2_ h3_ h4_; have HO301 := n0_; have HO304 := n1_; have BK294 := n2_; have BK295 := n3_; have HB := n4_; clear n0_ n1_ n2_ n3_ n4_; have hHeld : w54.cell? ⟨gb294, 0, none⟩ = some (.int .i64 a0_0) ∧ w54.cell? ⟨gb294, 1, none⟩ = some (.int .i64 a0_1) ∧ w54.cell? ⟨gb294, 2, none⟩ = some (.int .i64 a0_2) ∧ w54.cell? ⟨gb294, 3, none⟩ = some (.int .i64 a0_3) ∧ w54.cell? ⟨gb294, 4, none⟩ = some (.int .i64 a0_4) ∧ w54.cell? ⟨gb294, 5, none⟩ = some (.string a0_5) ∧ w54.cell? ⟨gb294, 6, none⟩ = some (.string a0_6) ∧ w54.cell? ⟨gb294, 7, none⟩ = some (.string a0_7) ∧ w54.cell? ⟨gb294, 8, none⟩ = some (.slice A0_8 l0_8.length c0_8) ∧ w54.cell? ⟨gb295, 0, none⟩ = some (.int .i64 a1_0) ∧ w54.cell? ⟨gb295, 1, none⟩ = some (.int .i64 a1_1) ∧ w54.cell? ⟨gb295, 2, none⟩ = some (.int .i64 a1_2) ∧ w54.cell? ⟨gb295, 3, none⟩ = some (.int .i64 a1_3) ∧ w54.cell? ⟨gb295, 4, none⟩ = some (.int .i64 a1_4) ∧ w54.cell? ⟨gb295, 5, none⟩ = some (.string a1_5) ∧ w54.cell? ⟨gb295, 6, none⟩ = some (.string a1_6) ∧ w54.cell? ⟨gb295, 7, none⟩ = some (.string a1_7) ∧ w54.cell? ⟨gb295, 8, none⟩ = some (.slice A1_8 l1_8.length c1_8) := hS_
             refine norm_ (a' := ?_) ?_ ?_
             rotate_left
             ·simp only [putAll, Act.put, List.setIfInBounds_toArray, List.set_cons_zero, List.set_cons_succ]
              rfl
             refine one_ (i := 3) (N := some 32) (bs 9 239) rfl rfl (one_of HT_.out (by kernel_rfl)) (by decide) (fun K hK => ?_)
             have hcv55 := own_string (P := Tryd.prog) Tryd.underlying52 Tryd.underlying5 Tryd.underlying9 (Kd.own_of_R HO304.out)
             refine value_ (w1 := ?_) (v := ?_) (by rfl) rfl ?_ ?_
             rotate_left 2
             ·go_simp
              constructor
              ·rfl
              ·rfl
             clear hcv55
             refine hK.out _ _ ⟨(blk_cell BK294.out 0).trans rfl, (blk_cell BK294.out 1).trans rfl, (blk_cell BK294.out 2).trans rfl, (blk_cell BK294.out 3).trans rfl, (blk_cell BK294.out 4).trans rfl, (blk_cell BK294.out 5).trans rfl, (blk_cell BK294.out 6).trans rfl, (blk_cell BK294.out 7).trans rfl, (blk_cell BK294.out 8).trans rfl, (blk_cell BK295.out 0).trans rfl, (blk_cell BK295.out 1).trans rfl, (blk_cell BK295.out 2).trans rfl, (blk_cell BK295.out 3).trans rfl, (blk_cell BK295.out 4).trans rfl, (blk_cell BK295.out 5).trans rfl, (blk_cell BK295.out 6).trans rfl, (blk_cell BK295.out 7).trans rfl, (blk_cell BK295.out 8).trans rfl⟩ (fun hHeld => ?_)
             clear hK K
             refine norm_ (a' := ?_) ?_ ?_
             rotate_left
             ·show Act.put _ (some 32) _ = _
              simp only [Act.put, List.setIfInBounds_toArray, List.set_cons_zero, List.set_cons_succ, i64_w, i32_w]
              rfl
             refine pure_ (i := 4) (N := some 33) (v := ?_) (a' := ?_) (bs 9 255) rfl rfl (any_of HT_.out (by kernel_rfl)) (fun _ _ _ h => h) (Or.inl ⟨by rfl, ?_⟩) ?_ ?_
             rotate_left
             ·intro w'
              go_simp
              with_reducible rfl
             rotate_left
             ·simp only [Act.put, List.setIfInBounds_toArray, List.set_cons_zero, List.set_cons_succ, i64_w, i32_w]
              rfl
             exact norm_ (by first | (simp only [putAll, Act.put, List.setIfInBounds_toArray, List.set_cons_zero, List.set_cons_succ]; done) | (simp only [putAll, Act.put, List.setIfInBounds_toArray, List.set_cons_zero, List.set_cons_succ]; rfl)) (hJ1_3_7 () _ ⟨hHeld, (ru HO301.out), (ru HO304.out), (bu BK294.out), (bu BK295.out), (beu HB.out)⟩)
           ·skip
            rintro _ w54 ⟨hS_, h0_, h1_, h2_, h3_, h4_⟩; have n0_ : Aside0 (Kd.R (Kd.int .u8) 5 w54 w.heap.size (fun k_ => some k_ ≠ (v303 : Value).ownBlock) v300 t299) := ⟨h0_⟩; have n1_ : Aside0 (Kd.R (Kd.int .u8) 5 w54 w.heap.size (fun k_ => some k_ ≠ (v300 : Value).ownBlock) v303 t302) := ⟨h1_⟩; have n2_ : Aside0 (w54.heap[gb294]? = some (.cells #[.int .i64 a0_0, .int .i64 a0_1, .int .i64 a0_2, .int .i64 a0_3, .int .i64 a0_4, .string a0_5, .string a0_6, .string a0_7, .slice A0_8 l0_8.length c0_8] 31 (0, 0))) := ⟨h2_⟩; have n3_ : Aside0 (w54.heap[gb295]? = some (.cells #[.int .i64 a1_0, .int .i64 a1_1, .int .i64 a1_2, .int .i64 a1_3, .int .i64 a1_4, .string a1_5, .string a1_6, .string a1_7, .slice A1_8 l1_8.length c1_8] 31 (0, 0))) := ⟨h3_⟩; have n4_ : Aside0 (Below w.heap.size w w54) := ⟨h4_⟩; clear HO301 HO304 BK294 BK295 HB h0_ h1_ h2_ h3_ h4_; have HO301 := n0_; have HO304 := n1_; have BK294 := n2_; have BK295 := n3_; have HB := n4_; clear n0_ n1_ n2_ n3_ n4_; have hHeld : w54.cell? ⟨gb294, 0, none⟩ = some (.int .i64 a0_0) ∧ w54.cell? ⟨gb294, 1, none⟩ = some (.int .i64 a0_1) ∧ w54.cell? ⟨gb294, 2, none⟩ = some (.int .i64 a0_2) ∧ w54.cell? ⟨gb294, 3, none⟩ = some (.int .i64 a0_3) ∧ w54.cell? ⟨gb294, 4, none⟩ = some (.int .i64 a0_4) ∧ w54.cell? ⟨gb294, 5, none⟩ = some (.string a0_5) ∧ w54.cell? ⟨gb294, 6, none⟩ = some (.string a0_6) ∧ w54.cell? ⟨gb294, 7, none⟩ = some (.string a0_7) ∧ w54.cell? ⟨gb294, 8, none⟩ = some (.slice A0_8 l0_8.length c0_8) ∧ w54.cell? ⟨gb295, 0, none⟩ = some (.int .i64 a1_0) ∧ w54.cell? ⟨gb295, 1, none⟩ = some (.int .i64 a1_1) ∧ w54.cell? ⟨gb295, 2, none⟩ = some (.int .i64 a1_2) ∧ w54.cell? ⟨gb295, 3, none⟩ = some (.int .i64 a1_3) ∧ w54.cell? ⟨gb295, 4, none⟩ = some (.int .i64 a1_4) ∧ w54.cell? ⟨gb295, 5, none⟩ = some (.string a1_5) ∧ w54.cell? ⟨gb295, 6, none⟩ = some (.string a1_6) ∧ w54.cell? ⟨gb295, 7, none⟩ = some (.string a1_7) ∧ w54.cell? ⟨gb295, 8, none⟩ = some (.slice A1_8 l1_8.length c1_8) := hS_
            refine norm_ (a' := ?_) ?_ ?_
            rotate_left
            ·simp only [putAll, Act.put, List.setIfInBounds_toArray, List.set_cons_zero, List.set_cons_succ]
             rfl
            refine one_ (i := 7) (N := some 36) (bs 9 255) rfl rfl (one_of HT_.out (by kernel_rfl)) (by decide) (fun K hK => ?_)
            refine goes_ Tryd.func18 (by kernel_rfl) rfl #[.agg #[.int .i64 a0_0, .int .i64 a0_1, .int .i64 a0_2, .int .i64 a0_3, .int .i64 a0_4, .string a0_5, .string a0_6, .string a0_7, .slice A0_8 l0_8.length c0_8], .agg #[.int .i64 a1_0, .int .i64 a1_1, .int .i64 a1_2, .int .i64 a1_3, .int .i64 a1_4, .string a1_5, .string a1_6, .string a1_7, .slice A1_8 l1_8.length c1_8]] (by rfl) rfl rfl ap1 ?_
            with_reducible refine (batch_Same.calls kj5 a0_0 a0_1 a0_2 a0_3 a0_4 a0_5 a0_6 a0_7 _ _ l0_8 a1_0 a1_1 a1_2 a1_3 a1_4 a1_5 a1_6 a1_7 _ _ l1_8 t305 _ ?side1 ?side2 ?side3 ?side4 A30.out).mono ?_
            (case side1 => exact cu (Kd.C_below HR0_8.out HB.out))
            (case side2 => exact HC0_8.out)
            (case side3 => exact cu (Kd.C_below HR1_8.out HB.out))
            (case side4 => exact HC1_8.out)
            rintro e w55 ⟨rfl, hb⟩
            refine ⟨_, rfl, ?_⟩
            have n0_ := Aside0.mk (Kd.R_below (ru HO301.out) hb); have n1_ := Aside0.mk (Kd.R_below (ru HO304.out) hb); have n2_ := Aside0.mk (blk_below (bu BK294.out) hb); have n3_ := Aside0.mk (blk_below (bu BK295.out) hb); have n4_ := Aside0.mk (below_step (beu HB.out) hb); clear HO301 HO304 BK294 BK295 HB; have HO301 := n0_; have HO304 := n1_; have BK294 := n2_; have BK295 := n3_; have HB := n4_; clear n0_ n1_ n2_ n3_ n4_
            (try clear hb)
            (try clear hb2)
            (try clear hk)
            (try clear hi)
            refine hK.out _ _ ⟨(blk_cell BK294.out 0).trans rfl, (blk_cell BK294.out 1).trans rfl, (blk_cell BK294.out 2).trans rfl, (blk_cell BK294.out 3).trans rfl, (blk_cell BK294.out 4).trans rfl, (blk_cell BK294.out 5).trans rfl, (blk_cell BK294.out 6).trans rfl, (blk_cell BK294.out 7).trans rfl, (blk_cell BK294.out 8).trans rfl, (blk_cell BK295.out 0).trans rfl, (blk_cell BK295.out 1).trans rfl, (blk_cell BK295.out 2).trans rfl, (blk_cell BK295.out 3).trans rfl, (blk_cell BK295.out 4).trans rfl, (blk_cell BK295.out 5).trans rfl, (blk_cell BK295.out 6).trans rfl, (blk_cell BK295.out 7).trans rfl, (blk_cell BK295.out 8).trans rfl⟩ (fun hHeld => ?_)
            clear hK K
            refine norm_ (a' := ?_) ?_ ?_
            rotate_left
            ·show Act.put _ (some 36) _ = _
             simp only [Act.put, List.setIfInBounds_toArray, List.set_cons_zero, List.set_cons_succ, i64_w, i32_w]
             rfl
            exact norm_ (by first | (simp only [putAll, Act.put, List.setIfInBounds_toArray, List.set_cons_zero, List.set_cons_succ]; done) | (simp only [putAll, Act.put, List.setIfInBounds_toArray, List.set_cons_zero, List.set_cons_succ]; rfl)) (hJ1_3_7 () _ ⟨hHeld, (ru HO301.out), (ru HO304.out), (bu BK294.out), (bu BK295.out), (beu HB.out)⟩)
          rintro _ w55 ⟨hS_, h0_, h1_, h2_, h3_, h4_⟩; have n0_ : Aside0 (Kd.R (Kd.int .u8) 5 w55 w.heap.size (fun k_ => some k_ ≠ (v303 : Value).ownBlock) v300 t299) := ⟨h0_⟩; have n1_ : Aside0 (Kd.R (Kd.int .u8) 5 w55 w.heap.size (fun k_ => some k_ ≠ (v300 : Value).ownBlock) v303 t302) := ⟨h1_⟩; have n2_ : Aside0 (w55.heap[gb294]? = some (.cells #[.int .i64 a0_0, .int .i64 a0_1, .int .i64 a0_2, .int .i64 a0_3, .int .i64 a0_4, .string a0_5, .string a0_6, .string a0_7, .slice A0_8 l0_8.length c0_8] 31 (0, 0))) := ⟨h2_⟩; have n3_ : Aside0 (w55.heap[gb295]? = some (.cells #[.int .i64 a1_0, .int .i64 a1_1, .int .i64 a1_2, .int .i64 a1_3, .int .i64 a1_4, .string a1_5, .string a1_6, .string a1_7, .slice A1_8 l1_8.length c1_8] 31 (0, 0))) := ⟨h3_⟩; have n4_ : Aside0 (Below w.heap.size w w55) := ⟨h4_⟩; clear HO301 HO304 BK294 BK295 HB h0_ h1_ h2_ h3_ h4_; have HO301 := n0_; have HO304 := n1_; have BK294 := n2_; have BK295 := n3_; have HB := n4_; clear n0_ n1_ n2_ n3_ n4_; have hHeld : w55.cell? ⟨gb294, 0, none⟩ = some (.int .i64 a0_0) ∧ w55.cell? ⟨gb294, 1, none⟩ = some (.int .i64 a0_1) ∧ w55.cell? ⟨gb294, 2, none⟩ = some (.int .i64 a0_2) ∧ w55.cell? ⟨gb294, 3, none⟩ = some (.int .i64 a0_3) ∧ w55.cell? ⟨gb294, 4, none⟩ = some (.int .i64 a0_4) ∧ w55.cell? ⟨gb294, 5, none⟩ = some (.string a0_5) ∧ w55.cell? ⟨gb294, 6, none⟩ = some (.string a0_6) ∧ w55.cell? ⟨gb294, 7, none⟩ = some (.string a0_7) ∧ w55.cell? ⟨gb294, 8, none⟩ = some (.slice A0_8 l0_8.length c0_8) ∧ w55.cell? ⟨gb295, 0, none⟩ = some (.int .i64 a1_0) ∧ w55.cell? ⟨gb295, 1, none⟩ = some (.int .i64 a1_1) ∧ w55.cell? ⟨gb295, 2, none⟩ = some (.int .i64 a1_2) ∧ w55.cell? ⟨gb295, 3, none⟩ = some (.int .i64 a1_3) ∧ w55.cell? ⟨gb295, 4, none⟩ = some (.int .i64 a1_4) ∧ w55.cell? ⟨gb295, 5, none⟩ = some (.string a1_5) ∧ w55.cell? ⟨gb295, 6, none⟩ = some (.string a1_6) ∧ w55.cell? ⟨gb295, 7, none⟩ = some (.string a1_7) ∧ w55.cell? ⟨gb295, 8, none⟩ = some (.slice A1_8 l1_8.length c1_8) := hS_
          refine norm_ (a' := ?_) ?_ ?_
          rotate_left
          ·simp only [putAll, Act.put, List.setIfInBounds_toArray, List.set_cons_zero, List.set_cons_succ]
           rfl
          refine pure_ (i := 8) (N := some 37) (v := ?_) (a' := ?_) (bs 9 511) rfl rfl (any_of HT_.out (by kernel_rfl)) (fun _ _ _ h => h) (Or.inl ⟨by rfl, ?_⟩) ?_ ?_
          rotate_left
          ·intro w'
           go_simp
           with_reducible rfl
          rotate_left
          ·simp only [Act.put, List.setIfInBounds_toArray, List.set_cons_zero, List.set_cons_succ, i64_w, i32_w]
           rfl
          refine done_ (done_of HT_.out (by kernel_rfl)) ?_
          obtain ⟨Ao56, co56, eo56⟩ := Kd.R_slice HO301.out; subst eo56; have q57 : (a2 : Int) ≤ ((t299.length : Int) : Int) := of_decide_eq_true ap2; obtain ⟨i057, hi057, _, hsz57, _⟩ := info_parts info5; have hroom57 : t299.length ≤ co56 := (Kd.R_reads' HO301.out).2.1; have hC57 : Kd.C (Kd.int .u8) _ Ao56 t299.length t299 := (Kd.R_reads' HO301.out).2.2; have hcut57 := cut_to (P := Tryd.prog) 52 5 .i64 Tryd.underlying52 hi057 Ao56 t299.length co56 a2 (of_decide_eq_true ap2) q57 hroom57; have hr57 := Kd.C_take (m := (a2 : Int).toNat) hC57 (by omega); have hy57 : y306.length = (a2 : Int).toNat := (by rw [Ny306.out, List.length_take]; omega); rw [← Ny306.out] at hr57; rw [← hy57] at hcut57; have HR309 := Aside0.mk hr57; have HC309 := Aside0.mk (show y306.length ≤ co56 from by omega); clear hr57 hC57 hroom57 hi057 hsz57; have KY57 := Aside0.mk hy57; clear hy57; have KL57 := Aside0.mk (show (a2 : Int).toNat ≤ t299.length from by omega); replace q57 := eq_true q57
          try go_wp2_with (first | ((with_reducible refine gate_callee (f := 26) rfl ?_); refine goesL_ (some 46) rfl rfl Tryd.func26 (by kernel_rfl) rfl #[.slice Ao56 y306.length co56] rfl ap1 ?_; (with_reducible refine (packet_New.calls _ _ y306 t310 t311 w _ ?side1 ?side2 ?side3 A44.out).mono ?_); (case side1 => exact beu HB.out); (case side2 => repeat (first | exact (by repeat (first | (with_reducible exact HR309.out) | (with_reducible refine Kd.C_alloc ?_ _) | (with_reducible refine Kd.C_drewN ?_ _) | (with_reducible refine Kd.C_drew ?_) | exact HR309.out)) | (with_reducible refine Kd.C_alloc ?_ _) | (with_reducible refine Kd.C_drewN ?_ _) | (with_reducible refine Kd.C_drew ?_))); (case side3 => exact HC309.out); rintro e w58 ⟨g312, rfl, hi, hb, hb2⟩; refine ⟨_, rfl, ?_⟩; have _ := Aside0.mk (Kd.R_below (ru HO301.out) hb2); have _ := Aside0.mk (Kd.R_below (ru HO304.out) hb2); have _ := Aside0.mk (blk_below (bu BK294.out) hb2); have _ := Aside0.mk (blk_below (bu BK295.out) hb2); have _ := Aside0.mk (Kd.C_below (by repeat (first | (with_reducible exact HR309.out) | (with_reducible refine Kd.C_alloc ?_ _) | (with_reducible refine Kd.C_drewN ?_ _) | (with_reducible refine Kd.C_drew ?_) | exact HR309.out)) hb2); have _ := Aside0.mk (hb); have _ := Aside0.mk (hi); have _ := Aside0.mk (JS80.ne_blk hi (blk_below (bu BK294.out) hb2) (by decide)); have _ := Aside0.mk (Ne.symm (JS80.ne_blk hi (blk_below (bu BK294.out) hb2) (by decide))); have _ := Aside0.mk (JS80.ne_blk hi (blk_below (bu BK295.out) hb2) (by decide)); have _ := Aside0.mk (Ne.symm (JS80.ne_blk hi (blk_below (bu BK295.out) hb2) (by decide))); clear HO301 HO304 BK294 BK295 HR309 HB; rename_i HO301 HO304 BK294 BK295 HR309 HB HI312 NB312_294 NB294_312 NB312_295 NB295_312; (try clear hb); (try clear hb2); (try clear hk); (try clear hi)) | ((with_reducible refine gate_callee (f := 25) rfl ?_); refine goesL_ (some 47) rfl rfl Tryd.func25 (by kernel_rfl) rfl #[.pointer (some ⟨g312, 0, none⟩)] rfl ap1 ?_; (with_reducible refine (batch_Take.callsJ kj5 g312 t310 t311 t313 t314 t315 t316 t317 t318 t319 t320 t321 false t325 t326 w _ ?side1 ?side2 ?side3 A45.out).mono ?_); (case side1 => exact JS80.u HI312.out); (case side2 => exact beg (JS80.ge HI312.out) HB.out); (case side3 => first | exact HT.out | exact Tabs.below HT.out (beg (JS80.ge HI312.out) HB.out)); rintro e w59 ⟨v322, rfl, ho0, hi, hb, hk⟩; refine ⟨_, rfl, ?_⟩; have _ := Aside0.mk (KeepBut.blk hk (bu BK294.out) NB294_312.out (by simp)); have _ := Aside0.mk (KeepBut.blk hk (bu BK295.out) NB295_312.out (by simp)); have _ := Aside0.mk (Kd.R_mono (Kd.R_keep (JS80.apart (show JS80 w _ g312 t310 t311 from JS80.u HI312.out) (ru HO301.out) (by decide)) hk (fun _ h => h.2)) (fun _ h => h.1)); have _ := Aside0.mk (Kd.R_mono (Kd.R_keep (JS80.apart (show JS80 w _ g312 t310 t311 from JS80.u HI312.out) (ru HO304.out) (by decide)) hk (fun _ h => h.2)) (fun _ h => h.1)); have _ := Aside0.mk (Kd.R_lower ho0 (below_size (beg (JS80.ge HI312.out) HB.out))); have _ := Aside0.mk (hb); have _ := Aside0.mk (hi); clear BK294 BK295 HO301 HO304 HB HI312; rename_i BK294 BK295 HO301 HO304 HO323 HB HI312; (try clear hb); (try clear hb2); (try clear hk); (try clear hi); (try clear ho0)) | ((with_reducible refine gate_dst (N := 9) rfl ?_); refine box_event ?hg (N := 9) ?hd (cs := #[.int .i64 0, .int .i64 0, .int .i64 0, .int .i64 0, .int .i64 0, .string ⟨#[]⟩, .string ⟨#[]⟩, .string ⟨#[]⟩, .slice none 0 0]) (t := 31) ?hr ?_; (case hd => rfl); (case hg => rfl); (case hr => first | (go_simp; done) | (go_simp; rfl)); intro gb327 hg w60 hbox hb; have _ := Aside0.mk (Kd.R_below (ru HO301.out) hb); have _ := Aside0.mk (Kd.R_below (ru HO304.out) hb); have _ := Aside0.mk (Kd.R_below (ru HO323.out) hb); have _ := Aside0.mk (blk_below (bu BK294.out) hb); have _ := Aside0.mk (blk_below (bu BK295.out) hb); have _ := Aside0.mk (JS80.below (JS80.u HI312.out) hb); have _ := Aside0.mk (below_step (beg (JS80.ge HI312.out) HB.out) hb); have _ := Aside0.mk (hbox); have _ := Aside0.mk ((by rw [hg]; exact (below_size (beg (JS80.ge HI312.out) HB.out)) : w.heap.size ≤ gb327)); have _ := Aside0.mk ((by rw [hg]; exact (below_size (beg (JS80.ge HI312.out) HB.out)) : w.heap.size ≤ gb327)); have _ := Aside0.mk (nb1 hg BK294.out : gb294 ≠ gb327); have _ := Aside0.mk (nb2 hg BK294.out : gb327 ≠ gb294); have _ := Aside0.mk (nb1 hg BK295.out : gb295 ≠ gb327); have _ := Aside0.mk (nb2 hg BK295.out : gb327 ≠ gb295); have _ := Aside0.mk ((by rw [hg]; exact (JS80.lt (show JS80 w _ g312 t325 t326 from JS80.u HI312.out)) : g312 < gb327)); have _ := Aside0.mk ((by rw [hg]; exact Nat.ne_of_lt (JS80.lt (show JS80 w _ g312 t325 t326 from JS80.u HI312.out)) : g312 ≠ gb327)); have _ := Aside0.mk ((by rw [hg]; exact Nat.ne_of_gt (JS80.lt (show JS80 w _ g312 t325 t326 from JS80.u HI312.out)) : gb327 ≠ g312)); clear HO301 HO304 HO323 BK294 BK295 HI312 HB; rename_i HO301 HO304 HO323 BK294 BK295 HI312 HB BK327 GW327 GE327 NB294_327 NB327_294 NB295_327 NB327_295 NG312_327 NB312_327 NB327_312; clear hb hbox hg; have hnb61 := NB327_294.out; have hnc61 := NB294_327.out; have hnb62 := NB327_295.out; have hnc62 := NB295_327.out; have hnb63 := NB327_312.out; have hnc63 := NB312_327.out; obtain ⟨hcz64_0, hcz64_1, hcz64_2, hcz64_3, hcz64_4, hcz64_5, hcz64_6, hcz64_7, hcz64_8⟩ := cells9 BK327.out; obtain ⟨hfz64_0, hfz64_1, hfz64_2, hfz64_3, hfz64_4, hfz64_5, hfz64_6, hfz64_7, hfz64_8⟩ := frozens9 BK327.out; obtain ⟨Ao65, co65, eo65⟩ := Kd.R_slice HO323.out; subst eo65) | (go_at_call 18; (refine (batch_Same.calls kj5 t313 t314 t315 t316 t317 t318 t319 t320 _ _ t321 0 0 0 0 0 ⟨#[]⟩ ⟨#[]⟩ ⟨#[]⟩ _ _ ([] : List ByteArray) t328 _ ?side1 ?side2 ?side3 ?side4 A47.out).mono ?_); (case side1 => refine (Kd.R_reads' (e := 9) (base := w.heap.size) (ok := fun k_ => True) (n := t321.length) (c := co65) ?_).2.2; exact (ru (Kd.R_mono (Kd.R_far (p := ⟨gb327, 8, none⟩) (Kd.R_far (p := ⟨gb327, 7, none⟩) (Kd.R_far (p := ⟨gb327, 6, none⟩) (Kd.R_far (p := ⟨gb327, 5, none⟩) (Kd.R_far (p := ⟨gb327, 4, none⟩) (Kd.R_far (p := ⟨gb327, 3, none⟩) (Kd.R_far (p := ⟨gb327, 2, none⟩) (Kd.R_far (p := ⟨gb327, 1, none⟩) (Kd.R_far (p := ⟨gb327, 0, none⟩) (Kd.R_types HO323.out BK327.out (by decide)) (fun _ hk => hk.2) (.int .i64 t313)) (fun _ hk => hk.2) (.int .i64 t314)) (fun _ hk => hk.2) (.int .i64 t315)) (fun _ hk => hk.2) (.int .i64 t316)) (fun _ hk => hk.2) (.int .i64 t317)) (fun _ hk => hk.2) (.string t318)) (fun _ hk => hk.2) (.string t319)) (fun _ hk => hk.2) (.string t320)) (fun _ hk => hk.2) (.slice Ao65 t321.length co65)) (fun _ h_ => h_.1)))); (case side2 => exact (Kd.R_reads' HO323.out).2.1); (case side3 => exact Kd.C_nil _ _); (case side4 => exact Nat.le_refl _); rintro e w66 ⟨rfl, hb⟩; have _ := Aside0.mk (Kd.R_below (ru (Kd.R_mono (Kd.R_far (p := ⟨gb327, 8, none⟩) (Kd.R_far (p := ⟨gb327, 7, none⟩) (Kd.R_far (p := ⟨gb327, 6, none⟩) (Kd.R_far (p := ⟨gb327, 5, none⟩) (Kd.R_far (p := ⟨gb327, 4, none⟩) (Kd.R_far (p := ⟨gb327, 3, none⟩) (Kd.R_far (p := ⟨gb327, 2, none⟩) (Kd.R_far (p := ⟨gb327, 1, none⟩) (Kd.R_far (p := ⟨gb327, 0, none⟩) (Kd.R_types HO301.out BK327.out (by decide)) (fun _ hk => hk.2) (.int .i64 t313)) (fun _ hk => hk.2) (.int .i64 t314)) (fun _ hk => hk.2) (.int .i64 t315)) (fun _ hk => hk.2) (.int .i64 t316)) (fun _ hk => hk.2) (.int .i64 t317)) (fun _ hk => hk.2) (.string t318)) (fun _ hk => hk.2) (.string t319)) (fun _ hk => hk.2) (.string t320)) (fun _ hk => hk.2) (.slice Ao65 t321.length co65)) (fun _ h_ => h_.1))) hb); have _ := Aside0.mk (Kd.R_below (ru (Kd.R_mono (Kd.R_far (p := ⟨gb327, 8, none⟩) (Kd.R_far (p := ⟨gb327, 7, none⟩) (Kd.R_far (p := ⟨gb327, 6, none⟩) (Kd.R_far (p := ⟨gb327, 5, none⟩) (Kd.R_far (p := ⟨gb327, 4, none⟩) (Kd.R_far (p := ⟨gb327, 3, none⟩) (Kd.R_far (p := ⟨gb327, 2, none⟩) (Kd.R_far (p := ⟨gb327, 1, none⟩) (Kd.R_far (p := ⟨gb327, 0, none⟩) (Kd.R_types HO304.out BK327.out (by decide)) (fun _ hk => hk.2) (.int .i64 t313)) (fun _ hk => hk.2) (.int .i64 t314)) (fun _ hk => hk.2) (.int .i64 t315)) (fun _ hk => hk.2) (.int .i64 t316)) (fun _ hk => hk.2) (.int .i64 t317)) (fun _ hk => hk.2) (.string t318)) (fun _ hk => hk.2) (.string t319)) (fun _ hk => hk.2) (.string t320)) (fun _ hk => hk.2) (.slice Ao65 t321.length co65)) (fun _ h_ => h_.1))) hb); have _ := Aside0.mk (Kd.R_below (ru (Kd.R_mono (Kd.R_far (p := ⟨gb327, 8, none⟩) (Kd.R_far (p := ⟨gb327, 7, none⟩) (Kd.R_far (p := ⟨gb327, 6, none⟩) (Kd.R_far (p := ⟨gb327, 5, none⟩) (Kd.R_far (p := ⟨gb327, 4, none⟩) (Kd.R_far (p := ⟨gb327, 3, none⟩) (Kd.R_far (p := ⟨gb327, 2, none⟩) (Kd.R_far (p := ⟨gb327, 1, none⟩) (Kd.R_far (p := ⟨gb327, 0, none⟩) (Kd.R_types HO323.out BK327.out (by decide)) (fun _ hk => hk.2) (.int .i64 t313)) (fun _ hk => hk.2) (.int .i64 t314)) (fun _ hk => hk.2) (.int .i64 t315)) (fun _ hk => hk.2) (.int .i64 t316)) (fun _ hk => hk.2) (.int .i64 t317)) (fun _ hk => hk.2) (.string t318)) (fun _ hk => hk.2) (.string t319)) (fun _ hk => hk.2) (.string t320)) (fun _ hk => hk.2) (.slice Ao65 t321.length co65)) (fun _ h_ => h_.1))) hb); have _ := Aside0.mk (blk_below (g := gb294) (o := .cells #[.int .i64 a0_0, .int .i64 a0_1, .int .i64 a0_2, .int .i64 a0_3, .int .i64 a0_4, .string a0_5, .string a0_6, .string a0_7, .slice A0_8 l0_8.length c0_8] 31 (0, 0)) (by (with_reducible repeat (first | refine blk_drewN ?_ _ | refine blk_drew ?_ | refine blk_alloc ?_ _)); refine blk_far ?_ NB294_327.out _; (with_reducible repeat (first | refine blk_drewN ?_ _ | refine blk_drew ?_ | refine blk_alloc ?_ _)); refine blk_far ?_ NB294_327.out _; (with_reducible repeat (first | refine blk_drewN ?_ _ | refine blk_drew ?_ | refine blk_alloc ?_ _)); refine blk_far ?_ NB294_327.out _; (with_reducible repeat (first | refine blk_drewN ?_ _ | refine blk_drew ?_ | refine blk_alloc ?_ _)); refine blk_far ?_ NB294_327.out _; (with_reducible repeat (first | refine blk_drewN ?_ _ | refine blk_drew ?_ | refine blk_alloc ?_ _)); refine blk_far ?_ NB294_327.out _; (with_reducible repeat (first | refine blk_drewN ?_ _ | refine blk_drew ?_ | refine blk_alloc ?_ _)); refine blk_far ?_ NB294_327.out _; (with_reducible repeat (first | refine blk_drewN ?_ _ | refine blk_drew ?_ | refine blk_alloc ?_ _)); refine blk_far ?_ NB294_327.out _; (with_reducible repeat (first | refine blk_drewN ?_ _ | refine blk_drew ?_ | refine blk_alloc ?_ _)); refine blk_far ?_ NB294_327.out _; (with_reducible repeat (first | refine blk_drewN ?_ _ | refine blk_drew ?_ | refine blk_alloc ?_ _)); refine blk_far ?_ NB294_327.out _; (with_reducible repeat (first | refine blk_drewN ?_ _ | refine blk_drew ?_ | refine blk_alloc ?_ _)); exact BK294.out) hb); have _ := Aside0.mk (blk_below (g := gb295) (o := .cells #[.int .i64 a1_0, .int .i64 a1_1, .int .i64 a1_2, .int .i64 a1_3, .int .i64 a1_4, .string a1_5, .string a1_6, .string a1_7, .slice A1_8 l1_8.length c1_8] 31 (0, 0)) (by (with_reducible repeat (first | refine blk_drewN ?_ _ | refine blk_drew ?_ | refine blk_alloc ?_ _)); refine blk_far ?_ NB295_327.out _; (with_reducible repeat (first | refine blk_drewN ?_ _ | refine blk_drew ?_ | refine blk_alloc ?_ _)); refine blk_far ?_ NB295_327.out _; (with_reducible repeat (first | refine blk_drewN ?_ _ | refine blk_drew ?_ | refine blk_alloc ?_ _)); refine blk_far ?_ NB295_327.out _; (with_reducible repeat (first | refine blk_drewN ?_ _ | refine blk_drew ?_ | refine blk_alloc ?_ _)); refine blk_far ?_ NB295_327.out _; (with_reducible repeat (first | refine blk_drewN ?_ _ | refine blk_drew ?_ | refine blk_alloc ?_ _)); refine blk_far ?_ NB295_327.out _; (with_reducible repeat (first | refine blk_drewN ?_ _ | refine blk_drew ?_ | refine blk_alloc ?_ _)); refine blk_far ?_ NB295_327.out _; (with_reducible repeat (first | refine blk_drewN ?_ _ | refine blk_drew ?_ | refine blk_alloc ?_ _)); refine blk_far ?_ NB295_327.out _; (with_reducible repeat (first | refine blk_drewN ?_ _ | refine blk_drew ?_ | refine blk_alloc ?_ _)); refine blk_far ?_ NB295_327.out _; (with_reducible repeat (first | refine blk_drewN ?_ _ | refine blk_drew ?_ | refine blk_alloc ?_ _)); refine blk_far ?_ NB295_327.out _; (with_reducible repeat (first | refine blk_drewN ?_ _ | refine blk_drew ?_ | refine blk_alloc ?_ _)); exact BK295.out) hb); have _ := Aside0.mk (JS80.below (show JS80 w (((((((((w60.setCell ⟨gb327, 0, none⟩ (.int .i64 t313)).setCell ⟨gb327, 1, none⟩ (.int .i64 t314)).setCell ⟨gb327, 2, none⟩ (.int .i64 t315)).setCell ⟨gb327, 3, none⟩ (.int .i64 t316)).setCell ⟨gb327, 4, none⟩ (.int .i64 t317)).setCell ⟨gb327, 5, none⟩ (.string t318)).setCell ⟨gb327, 6, none⟩ (.string t319)).setCell ⟨gb327, 7, none⟩ (.string t320)).setCell ⟨gb327, 8, none⟩ (.slice Ao65 t321.length co65)) g312 t325 t326 from JS80.u HI312.out) hb); have _ := Aside0.mk (blk_below (g := gb327) (o := .cells #[.int .i64 t313, .int .i64 t314, .int .i64 t315, .int .i64 t316, .int .i64 t317, .string t318, .string t319, .string t320, .slice Ao65 t321.length co65] 31 (0, 0)) (by (with_reducible repeat (first | refine blk_drewN ?_ _ | refine blk_drew ?_ | refine blk_alloc ?_ _)); refine blk_put (cs := #[.int .i64 t313, .int .i64 t314, .int .i64 t315, .int .i64 t316, .int .i64 t317, .string t318, .string t319, .string t320, .slice none 0 0]) ?_ 8 _ rfl; (with_reducible repeat (first | refine blk_drewN ?_ _ | refine blk_drew ?_ | refine blk_alloc ?_ _)); refine blk_put (cs := #[.int .i64 t313, .int .i64 t314, .int .i64 t315, .int .i64 t316, .int .i64 t317, .string t318, .string t319, .string ⟨#[]⟩, .slice none 0 0]) ?_ 7 _ rfl; (with_reducible repeat (first | refine blk_drewN ?_ _ | refine blk_drew ?_ | refine blk_alloc ?_ _)); refine blk_put (cs := #[.int .i64 t313, .int .i64 t314, .int .i64 t315, .int .i64 t316, .int .i64 t317, .string t318, .string ⟨#[]⟩, .string ⟨#[]⟩, .slice none 0 0]) ?_ 6 _ rfl; (with_reducible repeat (first | refine blk_drewN ?_ _ | refine blk_drew ?_ | refine blk_alloc ?_ _)); refine blk_put (cs := #[.int .i64 t313, .int .i64 t314, .int .i64 t315, .int .i64 t316, .int .i64 t317, .string ⟨#[]⟩, .string ⟨#[]⟩, .string ⟨#[]⟩, .slice none 0 0]) ?_ 5 _ rfl; (with_reducible repeat (first | refine blk_drewN ?_ _ | refine blk_drew ?_ | refine blk_alloc ?_ _)); refine blk_put (cs := #[.int .i64 t313, .int .i64 t314, .int .i64 t315, .int .i64 t316, .int .i64 0, .string ⟨#[]⟩, .string ⟨#[]⟩, .string ⟨#[]⟩, .slice none 0 0]) ?_ 4 _ rfl; (with_reducible repeat (first | refine blk_drewN ?_ _ | refine blk_drew ?_ | refine blk_alloc ?_ _)); refine blk_put (cs := #[.int .i64 t313, .int .i64 t314, .int .i64 t315, .int .i64 0, .int .i64 0, .string ⟨#[]⟩, .string ⟨#[]⟩, .string ⟨#[]⟩, .slice none 0 0]) ?_ 3 _ rfl; (with_reducible repeat (first | refine blk_drewN ?_ _ | refine blk_drew ?_ | refine blk_alloc ?_ _)); refine blk_put (cs := #[.int .i64 t313, .int .i64 t314, .int .i64 0, .int .i64 0, .int .i64 0, .string ⟨#[]⟩, .string ⟨#[]⟩, .string ⟨#[]⟩, .slice none 0 0]) ?_ 2 _ rfl; (with_reducible repeat (first | refine blk_drewN ?_ _ | refine blk_drew ?_ | refine blk_alloc ?_ _)); refine blk_put (cs := #[.int .i64 t313, .int .i64 0, .int .i64 0, .int .i64 0, .int .i64 0, .string ⟨#[]⟩, .string ⟨#[]⟩, .string ⟨#[]⟩, .slice none 0 0]) ?_ 1 _ rfl; (with_reducible repeat (first | refine blk_drewN ?_ _ | refine blk_drew ?_ | refine blk_alloc ?_ _)); refine blk_put (cs := #[.int .i64 0, .int .i64 0, .int .i64 0, .int .i64 0, .int .i64 0, .string ⟨#[]⟩, .string ⟨#[]⟩, .string ⟨#[]⟩, .slice none 0 0]) ?_ 0 _ rfl; (with_reducible repeat (first | refine blk_drewN ?_ _ | refine blk_drew ?_ | refine blk_alloc ?_ _)); exact BK327.out) hb); have _ := Aside0.mk (below_step (beg (JS80.ge HI312.out) HB.out) hb); clear HO301 HO304 HO323 BK294 BK295 HI312 BK327 HB; rename_i HO301 HO304 HO323 BK294 BK295 HI312 BK327 HB; (try clear hb); (try clear hb2); (try clear hk); (try clear hi)))
          go_ret
          exact ⟨ap4, beg (JS80.ge HI312.out) HB.out⟩
        ·rw [if_neg c43] at H
         exact absurd H (by simp)
       ·rw [if_neg c42] at H
        exact absurd H (by simp)
 ·replace c5 := Bool.eq_false_iff.mpr c5
  subst c5
  have H1 : (some false) = some r := by rw [if_neg (show ¬ (false = true) by decide)] at H; exact H
  clear H; have H := H1; clear H1; obtain rfl := Option.some.inj H
  exact absurd HRT.out (by decide)
end Go.Proofs.YtapfpdjcbeiibaaDoor.PAll
