
import Derived.Test.YtmcdbjcbfjnfoaaDoorQOrderBytesPAllx0
import Derived.Test.YtmcdbjcbfjnfoaaDoorQOrderBytesPAllx4
import Derived.Test.YtmcdbjcbfjnfoaaDoorQOrderBytesPAllx5
import Derived.Test.YtmcdbjcbfjnfoaaDoorQOrderBytesPAllx6
namespace Go.Proofs.YtmcdbjcbfjnfoaaDoor.PAll
open Go.RowKit Go.Proofs.YtmcdbjcbfjnfoaaDoorW.PrintWords Go.Proofs.YtmcdbjcbfjnfoaaDoorW.PrintLast Go.Proofs.YtmcdbjcbfjnfoaaDoorW.PrintMore
attribute [local go_sem] max2_int max_two
set_option linter.unusedVariables false
set_option linter.unusedSimpArgs false
def packhorselaw10_OrderApart.j0 : Nat → Bool → ByteArray → List (S52) → ByteArray → ByteArray → ByteArray → Int → Int → Bool → Int → Int → ByteArray → List (S52) → ByteArray → ByteArray → ByteArray → Int → Int → Bool → Int → Int → Option (Bool)
 | 0, _, _, _, _, _, _, _, _, _, _, _, _, _, _, _, _, _, _, _, _, _ => none
 | k + 1, x17, x254000, x254001, x254002, x254003, x254004, x254005, x254006, x254007, x254008, x254009, x255000, x255001, x255002, x255003, x255004, x255005, x255006, x255007, x255008, x255009 => if x17 = true then (some true) else ((order_Put.f k ([] : List Int) x254000 x254001 x254002 x254003 x254004 x254005 x254006 x254007 x254008 x254009).bind fun t258 => ((order_Put.f k ([] : List Int) x255000 x255001 x255002 x255003 x255004 x255005 x255006 x255007 x255008 x255009).bind fun t261 => (if ((strOfNums t258).size : Int) ≤ ((strOfNums t261).size : Int) then (if 0 ≤ ((strOfNums t258).size : Int) then ((order_Same.f k x254000 x254001 x254002 x254003 x254004 x254005 x254006 x254007 x254008 x254009 x255000 x255001 x255002 x255003 x255004 x255005 x255006 x255007 x255008 x255009).bind fun t264 => (if ((((strOfNums t261).extract 0 (((strOfNums t258).size : Int) : Int).toNat).toList == (strOfNums t258).toList) == t264) = true then ((order_Same.f k x254000 x254001 x254002 x254003 x254004 x254005 x254006 x254007 x254008 x254009 x255000 x255001 x255002 x255003 x255004 x255005 x255006 x255007 x255008 x255009).bind fun t265 => (some (((strOfNums t258).toList == (strOfNums t261).toList) == t265))) else (some false))) else (none)) else ((order_Same.f k x254000 x254001 x254002 x254003 x254004 x254005 x254006 x254007 x254008 x254009 x255000 x255001 x255002 x255003 x255004 x255005 x255006 x255007 x255008 x255009).bind fun t266 => (if (false == t266) = true then ((order_Same.f k x254000 x254001 x254002 x254003 x254004 x254005 x254006 x254007 x254008 x254009 x255000 x255001 x255002 x255003 x255004 x255005 x255006 x255007 x255008 x255009).bind fun t267 => (some (((strOfNums t258).toList == (strOfNums t261).toList) == t267))) else (some false))))))
def packhorselaw10_OrderApart.f (k : Nat) (a0_0 : ByteArray) (l0_1 : List (S52)) (a0_2 : ByteArray) (a0_3 : ByteArray) (a0_4 : ByteArray) (a0_5 : Int) (a0_6 : Int) (a0_7 : Bool) (a0_8 : Int) (a0_9 : Int) (a1_0 : ByteArray) (l1_1 : List (S52)) (a1_2 : ByteArray) (a1_3 : ByteArray) (a1_4 : ByteArray) (a1_5 : Int) (a1_6 : Int) (a1_7 : Bool) (a1_8 : Int) (a1_9 : Int) : Option (Bool) := (packhorselaw10_orderAlive.f k).bind fun t255 => (if t255 = true then ((order_Right.f k a0_0 l0_1 a0_2 a0_3 a0_4 a0_5 a0_6 a0_7 a0_8 a0_9).bind fun t256 => (if t256 = true then ((order_Right.f k a1_0 l1_1 a1_2 a1_3 a1_4 a1_5 a1_6 a1_7 a1_8 a1_9).bind fun t257 => (packhorselaw10_OrderApart.j0 k (!t257) a0_0 l0_1 a0_2 a0_3 a0_4 a0_5 a0_6 a0_7 a0_8 a0_9 a1_0 l1_1 a1_2 a1_3 a1_4 a1_5 a1_6 a1_7 a1_8 a1_9)) else (packhorselaw10_OrderApart.j0 k true a0_0 l0_1 a0_2 a0_3 a0_4 a0_5 a0_6 a0_7 a0_8 a0_9 a1_0 l1_1 a1_2 a1_3 a1_4 a1_5 a1_6 a1_7 a1_8 a1_9))) else (some false))
def packhorselaw10_OrderApart.T5 : Bool × List (List Nat × List Nat) := (true, [([], []), ([0], [0]), ([1], [1]), ([], []), ([3, 1], [3]), ([4], [4]), ([2, 4, 0, 1, 2], [2]), ([5, 6, 0, 1, 2, 3, 4, 5, 6], [5])])
def packhorselaw10_OrderApart.B5 : List Nat := [0, 1, 3, 0, 11, 27, 31, 127]
theorem packhorselaw10_OrderApart.tab5 : rtab .any (opsOf Tryd.f3 5) = packhorselaw10_OrderApart.T5 := by kernel_rfl
theorem packhorselaw10_OrderApart.bits5 : waitsOk packhorselaw10_OrderApart.T5.2 packhorselaw10_OrderApart.B5 = true := by kernel_rfl
set_option maxHeartbeats 8000000 in
set_option maxRecDepth 100000 in
theorem packhorselaw10_OrderApart.calls (k : Nat) (a0_0 : ByteArray) (A0_1 : Option Addr) (c0_1 : Nat) (l0_1 : List (S52)) (a0_2 : ByteArray) (a0_3 : ByteArray) (a0_4 : ByteArray) (a0_5 : Int) (a0_6 : Int) (a0_7 : Bool) (a0_8 : Int) (a0_9 : Int) (a1_0 : ByteArray) (A1_1 : Option Addr) (c1_1 : Nat) (l1_1 : List (S52)) (a1_2 : ByteArray) (a1_3 : ByteArray) (a1_4 : ByteArray) (a1_5 : Int) (a1_6 : Int) (a1_7 : Bool) (a1_8 : Int) (a1_9 : Int) (r : Bool) (w : World) (hr0_1 : Kd.C k52 w A0_1 l0_1.length l0_1) (hc0_1 : l0_1.length ≤ c0_1) (hr1_1 : Kd.C k52 w A1_1 l1_1.length l1_1) (hc1_1 : l1_1.length ≤ c1_1) (hT : Tabs w) (h : packhorselaw10_OrderApart.f k a0_0 l0_1 a0_2 a0_3 a0_4 a0_5 a0_6 a0_7 a0_8 a0_9 a1_0 l1_1 a1_2 a1_3 a1_4 a1_5 a1_6 a1_7 a1_8 a1_9 = some r) (hr_ : r = true) :
  Calls Tryd.prog 3 #[.agg #[.string a0_0, .slice A0_1 l0_1.length c0_1, .string a0_2, .string a0_3, .string a0_4, .int .i64 a0_5, .int .i64 a0_6, .bool a0_7, .int .i64 a0_8, .int .i64 a0_9], .agg #[.string a1_0, .slice A1_1 l1_1.length c1_1, .string a1_2, .string a1_3, .string a1_4, .int .i64 a1_5, .int .i64 a1_6, .bool a1_7, .int .i64 a1_8, .int .i64 a1_9]] w fun e w' => e = .returned (.bool r) ∧ Below w.heap.size w w' := by
 have hu28 := Tryd.underlying28; have HR0_1 := Aside0.mk hr0_1; have HC0_1 := Aside0.mk hc0_1; clear hr0_1 hc0_1; have HR1_1 := Aside0.mk hr1_1; have HC1_1 := Aside0.mk hc1_1; clear hr1_1 hc1_1; have HRT := Aside0.mk hr_; clear hr_; have HT := Aside0.mk hT; clear hT; have HB := Aside0.mk (Below.refl w.heap.size w); have H : ((packhorselaw10_orderAlive.f k).bind fun t255 => (if t255 = true then ((order_Right.f k a0_0 l0_1 a0_2 a0_3 a0_4 a0_5 a0_6 a0_7 a0_8 a0_9).bind fun t256 => (if t256 = true then ((order_Right.f k a1_0 l1_1 a1_2 a1_3 a1_4 a1_5 a1_6 a1_7 a1_8 a1_9).bind fun t257 => (packhorselaw10_OrderApart.j0 k (!t257) a0_0 l0_1 a0_2 a0_3 a0_4 a0_5 a0_6 a0_7 a0_8 a0_9 a1_0 l1_1 a1_2 a1_3 a1_4 a1_5 a1_6 a1_7 a1_8 a1_9)) else (packhorselaw10_OrderApart.j0 k true a0_0 l0_1 a0_2 a0_3 a0_4 a0_5 a0_6 a0_7 a0_8 a0_9 a1_0 l1_1 a1_2 a1_3 a1_4 a1_5 a1_6 a1_7 a1_8 a1_9))) else (some false))) = some r := h; clear h; replace H := obm H; obtain ⟨t255, A30, H⟩ := H; replace H : (if t255 = true then ((order_Right.f k a0_0 l0_1 a0_2 a0_3 a0_4 a0_5 a0_6 a0_7 a0_8 a0_9).bind fun t256 => (if t256 = true then ((order_Right.f k a1_0 l1_1 a1_2 a1_3 a1_4 a1_5 a1_6 a1_7 a1_8 a1_9).bind fun t257 => (packhorselaw10_OrderApart.j0 k (!t257) a0_0 l0_1 a0_2 a0_3 a0_4 a0_5 a0_6 a0_7 a0_8 a0_9 a1_0 l1_1 a1_2 a1_3 a1_4 a1_5 a1_6 a1_7 a1_8 a1_9)) else (packhorselaw10_OrderApart.j0 k true a0_0 l0_1 a0_2 a0_3 a0_4 a0_5 a0_6 a0_7 a0_8 a0_9 a1_0 l1_1 a1_2 a1_3 a1_4 a1_5 a1_6 a1_7 a1_8 a1_9))) else (some false)) = some r := H; have A3 := Aside0.mk A30; clear A30
 by_cases c4 : t255 = true
 ·subst c4
  have H1 : ((order_Right.f k a0_0 l0_1 a0_2 a0_3 a0_4 a0_5 a0_6 a0_7 a0_8 a0_9).bind fun t256 => (if t256 = true then ((order_Right.f k a1_0 l1_1 a1_2 a1_3 a1_4 a1_5 a1_6 a1_7 a1_8 a1_9).bind fun t257 => (packhorselaw10_OrderApart.j0 k (!t257) a0_0 l0_1 a0_2 a0_3 a0_4 a0_5 a0_6 a0_7 a0_8 a0_9 a1_0 l1_1 a1_2 a1_3 a1_4 a1_5 a1_6 a1_7 a1_8 a1_9)) else (packhorselaw10_OrderApart.j0 k true a0_0 l0_1 a0_2 a0_3 a0_4 a0_5 a0_6 a0_7 a0_8 a0_9 a1_0 l1_1 a1_2 a1_3 a1_4 a1_5 a1_6 a1_7 a1_8 a1_9))) = some r := by rw [if_pos rfl] at H; exact H
  clear H; have H := H1; clear H1; have HC5 := Aside0.mk H; clear H
  go_enter Tryd.func3, Tryd.ntmps3
  go_upto_region 3 with (first | ((with_reducible refine gate_dst (N := 2) rfl ?_); (try (refine gate_guard (by rfl) ?_; dsimp only)); refine box_event ?hg (N := 2) ?hd (cs := #[.string a0_0, .slice A0_1 l0_1.length c0_1, .string a0_2, .string a0_3, .string a0_4, .int .i64 a0_5, .int .i64 a0_6, .bool a0_7, .int .i64 a0_8, .int .i64 a0_9]) (t := 28) ?hr ?_; (case hd => rfl); (case hg => rfl); (case hr => first | (go_simp; done) | (go_simp; rfl)); intro gb253 hg w6 hbox hb; have _ := Aside0.mk (below_step (beu HB.out) hb); have _ := Aside0.mk (hbox); have _ := Aside0.mk ((by rw [hg]; exact (below_size (beu HB.out)) : w.heap.size ≤ gb253)); have _ := Aside0.mk ((by rw [hg]; exact (below_size (beu HB.out)) : w.heap.size ≤ gb253)); clear HB; rename_i HB BK253 GW253 GE253; clear hb hbox hg) | ((with_reducible refine gate_dst (N := 3) rfl ?_); (try (refine gate_guard (by rfl) ?_; dsimp only)); refine box_event ?hg (N := 3) ?hd (cs := #[.string a1_0, .slice A1_1 l1_1.length c1_1, .string a1_2, .string a1_3, .string a1_4, .int .i64 a1_5, .int .i64 a1_6, .bool a1_7, .int .i64 a1_8, .int .i64 a1_9]) (t := 28) ?hr ?_; (case hd => rfl); (case hg => rfl); (case hr => first | (go_simp; done) | (go_simp; rfl)); intro gb254 hg w7 hbox hb; have _ := Aside0.mk (blk_below (bu BK253.out) hb); have _ := Aside0.mk (below_step (beu HB.out) hb); have _ := Aside0.mk (hbox); have _ := Aside0.mk ((by rw [hg]; exact (below_size (beu HB.out)) : w.heap.size ≤ gb254)); have _ := Aside0.mk ((by rw [hg]; exact (below_size (beu HB.out)) : w.heap.size ≤ gb254)); have _ := Aside0.mk (nb1 hg BK253.out : gb253 ≠ gb254); have _ := Aside0.mk (nb2 hg BK253.out : gb254 ≠ gb253); clear BK253 HB; rename_i BK253 HB BK254 GW254 GE254 NB253_254 NB254_253; clear hb hbox hg) | ((with_reducible refine gate_callee (f := 9) rfl ?_); refine goesL_ (some 8) rfl rfl Tryd.func9 (by kernel_rfl) rfl #[] rfl ap1 ?_; (with_reducible refine (packhorselaw10_orderAlive.calls k  true _ ?side1 A3.out rfl).mono ?_); (case side1 => first | exact HT.out | exact Tabs.below HT.out (beu HB.out)); rintro e w8 ⟨rfl, hb⟩; refine ⟨_, rfl, ?_⟩; have _ := Aside0.mk (blk_below (bu BK253.out) hb); have _ := Aside0.mk (blk_below (bu BK254.out) hb); have _ := Aside0.mk (below_step (beu HB.out) hb); clear BK253 BK254 HB; rename_i BK253 BK254 HB; (try clear hb); (try clear hb2); (try clear hk); (try clear hi)))
  (try simp only [Act.put, List.setIfInBounds_toArray, List.set_cons_zero, List.set_cons_succ])
  go_cut [17] (fun v17 wc => ∃ (kq : Nat) (x17_4 : Bool), v17 = .bool x17_4 ∧ Aside0 (packhorselaw10_OrderApart.j0 kq x17_4 a0_0 l0_1 a0_2 a0_3 a0_4 a0_5 a0_6 a0_7 a0_8 a0_9 a1_0 l1_1 a1_2 a1_3 a1_4 a1_5 a1_6 a1_7 a1_8 a1_9 = some r) ∧ Aside0 (kq ≤ k) ∧ Aside0 (wc.heap[gb253]? = some (.cells #[.string a0_0, (.slice A0_1 l0_1.length c0_1), .string a0_2, .string a0_3, .string a0_4, .int .i64 a0_5, .int .i64 a0_6, .bool a0_7, .int .i64 a0_8, .int .i64 a0_9] 28 (0, 0))) ∧ Aside0 (wc.heap[gb254]? = some (.cells #[.string a1_0, (.slice A1_1 l1_1.length c1_1), .string a1_2, .string a1_3, .string a1_4, .int .i64 a1_5, .int .i64 a1_6, .bool a1_7, .int .i64 a1_8, .int .i64 a1_9] 28 (0, 0))) ∧ Aside0 (Below w.heap.size w wc))
  case first =>
   have H := HC5.out; clear HC5; replace H := obm H; obtain ⟨t256, A90, H⟩ := H; replace H : (if t256 = true then ((order_Right.f k a1_0 l1_1 a1_2 a1_3 a1_4 a1_5 a1_6 a1_7 a1_8 a1_9).bind fun t257 => (packhorselaw10_OrderApart.j0 k (!t257) a0_0 l0_1 a0_2 a0_3 a0_4 a0_5 a0_6 a0_7 a0_8 a0_9 a1_0 l1_1 a1_2 a1_3 a1_4 a1_5 a1_6 a1_7 a1_8 a1_9)) else (packhorselaw10_OrderApart.j0 k true a0_0 l0_1 a0_2 a0_3 a0_4 a0_5 a0_6 a0_7 a0_8 a0_9 a1_0 l1_1 a1_2 a1_3 a1_4 a1_5 a1_6 a1_7 a1_8 a1_9)) = some r := H; have A9 := Aside0.mk A90; clear A90
   by_cases c10 : t256 = true
   ·subst c10
    have H1 : ((order_Right.f k a1_0 l1_1 a1_2 a1_3 a1_4 a1_5 a1_6 a1_7 a1_8 a1_9).bind fun t257 => (packhorselaw10_OrderApart.j0 k (!t257) a0_0 l0_1 a0_2 a0_3 a0_4 a0_5 a0_6 a0_7 a0_8 a0_9 a1_0 l1_1 a1_2 a1_3 a1_4 a1_5 a1_6 a1_7 a1_8 a1_9)) = some r := by rw [if_pos rfl] at H; exact H
    clear H; have H := H1; clear H1; replace H := obm H; obtain ⟨t257, A110, H⟩ := H; replace H : (packhorselaw10_OrderApart.j0 k (!t257) a0_0 l0_1 a0_2 a0_3 a0_4 a0_5 a0_6 a0_7 a0_8 a0_9 a1_0 l1_1 a1_2 a1_3 a1_4 a1_5 a1_6 a1_7 a1_8 a1_9) = some r := H; have A11 := Aside0.mk A110; clear A110; have H' := Aside0.mk H; clear H; have hnb12 := NB253_254.out; have hnc12 := NB254_253.out; obtain ⟨hcz13_0, hcz13_1, hcz13_2, hcz13_3, hcz13_4, hcz13_5, hcz13_6, hcz13_7, hcz13_8, hcz13_9⟩ := cells10 BK253.out; obtain ⟨hfz13_0, hfz13_1, hfz13_2, hfz13_3, hfz13_4, hfz13_5, hfz13_6, hfz13_7, hfz13_8, hfz13_9⟩ := frozens10 BK253.out
    go_wp2_with (first | ((with_reducible refine gate_callee (f := 10) rfl ?_); refine goesL_ (some 11) rfl rfl Tryd.func10 (by kernel_rfl) rfl #[.agg #[.string a0_0, .slice A0_1 l0_1.length c0_1, .string a0_2, .string a0_3, .string a0_4, .int .i64 a0_5, .int .i64 a0_6, .bool a0_7, .int .i64 a0_8, .int .i64 a0_9]] rfl ap1 ?_; (with_reducible refine (order_Right.calls k a0_0 _ _ l0_1 a0_2 a0_3 a0_4 a0_5 a0_6 a0_7 a0_8 a0_9 true _ ?side1 ?side2 ?side3 A9.out).mono ?_); (case side1 => exact cu (Kd.C_below HR0_1.out HB.out)); (case side2 => exact HC0_1.out); (case side3 => first | exact HT.out | exact Tabs.below HT.out (beu HB.out)); rintro e w14 ⟨rfl, hb⟩; refine ⟨_, rfl, ?_⟩; have _ := Aside0.mk (blk_below (bu BK253.out) hb); have _ := Aside0.mk (blk_below (bu BK254.out) hb); have _ := Aside0.mk (below_step (beu HB.out) hb); clear BK253 BK254 HB; rename_i BK253 BK254 HB; (try clear hb); (try clear hb2); (try clear hk); (try clear hi); obtain ⟨hcz15_0, hcz15_1, hcz15_2, hcz15_3, hcz15_4, hcz15_5, hcz15_6, hcz15_7, hcz15_8, hcz15_9⟩ := cells10 BK254.out; obtain ⟨hfz15_0, hfz15_1, hfz15_2, hfz15_3, hfz15_4, hfz15_5, hfz15_6, hfz15_7, hfz15_8, hfz15_9⟩ := frozens10 BK254.out) | (go_at_call 10; (with_reducible refine (order_Right.calls k a1_0 _ _ l1_1 a1_2 a1_3 a1_4 a1_5 a1_6 a1_7 a1_8 a1_9 t257 _ ?side1 ?side2 ?side3 A11.out).mono ?_); (case side1 => exact cu (Kd.C_below HR1_1.out HB.out)); (case side2 => exact HC1_1.out); (case side3 => first | exact HT.out | exact Tabs.below HT.out (beu HB.out)); rintro e w16 ⟨rfl, hb⟩; have _ := Aside0.mk (blk_below (bu BK253.out) hb); have _ := Aside0.mk (blk_below (bu BK254.out) hb); have _ := Aside0.mk (below_step (beu HB.out) hb); clear BK253 BK254 HB; rename_i BK253 BK254 HB; (try clear hb); (try clear hb2); (try clear hk); (try clear hi)))
    go_meet
    case rel => exact ⟨_, (!t257), ap3, H', ⟨by first | omega | exact Nat.le_refl _⟩, ⟨by (with_reducible repeat (first | refine blk_drewN ?_ _ | refine blk_drew ?_ | refine blk_alloc ?_ _)); exact BK253.out⟩, ⟨by (with_reducible repeat (first | refine blk_drewN ?_ _ | refine blk_drew ?_ | refine blk_alloc ?_ _)); exact BK254.out⟩, ⟨beu HB.out⟩⟩
   ·replace c10 := Bool.eq_false_iff.mpr c10
    subst c10
    have H1 : (packhorselaw10_OrderApart.j0 k true a0_0 l0_1 a0_2 a0_3 a0_4 a0_5 a0_6 a0_7 a0_8 a0_9 a1_0 l1_1 a1_2 a1_3 a1_4 a1_5 a1_6 a1_7 a1_8 a1_9) = some r := by rw [if_neg (show ¬ (false = true) by decide)] at H; exact H
    clear H; have H := H1; clear H1; have H' := Aside0.mk H; clear H; have hnb17 := NB253_254.out; have hnc17 := NB254_253.out; obtain ⟨hcz18_0, hcz18_1, hcz18_2, hcz18_3, hcz18_4, hcz18_5, hcz18_6, hcz18_7, hcz18_8, hcz18_9⟩ := cells10 BK253.out; obtain ⟨hfz18_0, hfz18_1, hfz18_2, hfz18_3, hfz18_4, hfz18_5, hfz18_6, hfz18_7, hfz18_8, hfz18_9⟩ := frozens10 BK253.out
    go_wp2_with (first | ((with_reducible refine gate_callee (f := 10) rfl ?_); refine goesL_ (some 11) rfl rfl Tryd.func10 (by kernel_rfl) rfl #[.agg #[.string a0_0, .slice A0_1 l0_1.length c0_1, .string a0_2, .string a0_3, .string a0_4, .int .i64 a0_5, .int .i64 a0_6, .bool a0_7, .int .i64 a0_8, .int .i64 a0_9]] rfl ap1 ?_; (with_reducible refine (order_Right.calls k a0_0 _ _ l0_1 a0_2 a0_3 a0_4 a0_5 a0_6 a0_7 a0_8 a0_9 false _ ?side1 ?side2 ?side3 A9.out).mono ?_); (case side1 => exact cu (Kd.C_below HR0_1.out HB.out)); (case side2 => exact HC0_1.out); (case side3 => first | exact HT.out | exact Tabs.below HT.out (beu HB.out)); rintro e w19 ⟨rfl, hb⟩; refine ⟨_, rfl, ?_⟩; have _ := Aside0.mk (blk_below (bu BK253.out) hb); have _ := Aside0.mk (blk_below (bu BK254.out) hb); have _ := Aside0.mk (below_step (beu HB.out) hb); clear BK253 BK254 HB; rename_i BK253 BK254 HB; (try clear hb); (try clear hb2); (try clear hk); (try clear hi)))
    go_meet
    case rel => exact ⟨_, (true), ap3, H', ⟨by first | omega | exact Nat.le_refl _⟩, ⟨by (with_reducible repeat (first | refine blk_drewN ?_ _ | refine blk_drew ?_ | refine blk_alloc ?_ _)); exact BK253.out⟩, ⟨by (with_reducible repeat (first | refine blk_drewN ?_ _ | refine blk_drew ?_ | refine blk_alloc ?_ _)); exact BK254.out⟩, ⟨beu HB.out⟩⟩
  case rest =>
   clear HC5; (try clear c1); (try clear p2); (try clear c3); (try clear c4); (try clear c9); (try clear c10); (try clear c12); (try clear c17); (try clear hcz13_0); (try clear hcz13_1); (try clear hcz13_2); (try clear hcz13_3); (try clear hcz13_4); (try clear hcz13_5); (try clear hcz13_6); (try clear hcz13_7); (try clear hcz13_8); (try clear hcz13_9); (try clear hcz15_0); (try clear hcz15_1); (try clear hcz15_2); (try clear hcz15_3); (try clear hcz15_4); (try clear hcz15_5); (try clear hcz15_6); (try clear hcz15_7); (try clear hcz15_8); (try clear hcz15_9); (try clear hcz18_0); (try clear hcz18_1); (try clear hcz18_2); (try clear hcz18_3); (try clear hcz18_4); (try clear hcz18_5); (try clear hcz18_6); (try clear hcz18_7); (try clear hcz18_8); (try clear hcz18_9); (try clear hfz13_0); (try clear hfz13_1); (try clear hfz13_2); (try clear hfz13_3); (try clear hfz13_4); (try clear hfz13_5); (try clear hfz13_6); (try clear hfz13_7); (try clear hfz13_8); (try clear hfz13_9); (try clear hfz15_0); (try clear hfz15_1); (try clear hfz15_2); (try clear hfz15_3); (try clear hfz15_4); (try clear hfz15_5); (try clear hfz15_6); (try clear hfz15_7); (try clear hfz15_8); (try clear hfz15_9); (try clear hfz18_0); (try clear hfz18_1); (try clear hfz18_2); (try clear hfz18_3); (try clear hfz18_4); (try clear hfz18_5); (try clear hfz18_6); (try clear hfz18_7); (try clear hfz18_8); (try clear hfz18_9); obtain ⟨kq, x17_4, rfl, HA, HJ4, BK253, BK254, HB⟩ := hcut
   cases kq with
   | zero => exact absurd HA.out (by simp [packhorselaw10_OrderApart.j0])
   | succ kj4 =>
    have H := HA.out; clear HA; simp only [packhorselaw10_OrderApart.j0] at H
    by_cases c20 : x17_4 = true
    ·subst c20
     have H1 : (some true) = some r := by rw [if_pos rfl] at H; exact H
     clear H; have H := H1; clear H1; obtain rfl := Option.some.inj H; simp only [Option.some.injEq, Prod.mk.injEq] at H; obtain ⟨rfl⟩ := H
     go_wp2
     go_ret
     exact ⟨ap4, beu HB.out⟩
    ·replace c20 := Bool.eq_false_iff.mpr c20
     subst c20
     have H1 : ((order_Put.f kj4 ([] : List Int) a0_0 l0_1 a0_2 a0_3 a0_4 a0_5 a0_6 a0_7 a0_8 a0_9).bind fun t258 => ((order_Put.f kj4 ([] : List Int) a1_0 l1_1 a1_2 a1_3 a1_4 a1_5 a1_6 a1_7 a1_8 a1_9).bind fun t261 => (if ((strOfNums t258).size : Int) ≤ ((strOfNums t261).size : Int) then (if 0 ≤ ((strOfNums t258).size : Int) then ((order_Same.f kj4 a0_0 l0_1 a0_2 a0_3 a0_4 a0_5 a0_6 a0_7 a0_8 a0_9 a1_0 l1_1 a1_2 a1_3 a1_4 a1_5 a1_6 a1_7 a1_8 a1_9).bind fun t264 => (if ((((strOfNums t261).extract 0 (((strOfNums t258).size : Int) : Int).toNat).toList == (strOfNums t258).toList) == t264) = true then ((order_Same.f kj4 a0_0 l0_1 a0_2 a0_3 a0_4 a0_5 a0_6 a0_7 a0_8 a0_9 a1_0 l1_1 a1_2 a1_3 a1_4 a1_5 a1_6 a1_7 a1_8 a1_9).bind fun t265 => (some (((strOfNums t258).toList == (strOfNums t261).toList) == t265))) else (some false))) else (none)) else ((order_Same.f kj4 a0_0 l0_1 a0_2 a0_3 a0_4 a0_5 a0_6 a0_7 a0_8 a0_9 a1_0 l1_1 a1_2 a1_3 a1_4 a1_5 a1_6 a1_7 a1_8 a1_9).bind fun t266 => (if (false == t266) = true then ((order_Same.f kj4 a0_0 l0_1 a0_2 a0_3 a0_4 a0_5 a0_6 a0_7 a0_8 a0_9 a1_0 l1_1 a1_2 a1_3 a1_4 a1_5 a1_6 a1_7 a1_8 a1_9).bind fun t267 => (some (((strOfNums t258).toList == (strOfNums t261).toList) == t267))) else (some false)))))) = some r := by rw [if_neg (show ¬ (false = true) by decide)] at H; exact H
     clear H; have H := H1; clear H1; replace H := obm H; obtain ⟨t258, A210, H⟩ := H; replace H : ((order_Put.f kj4 ([] : List Int) a1_0 l1_1 a1_2 a1_3 a1_4 a1_5 a1_6 a1_7 a1_8 a1_9).bind fun t261 => (if ((strOfNums t258).size : Int) ≤ ((strOfNums t261).size : Int) then (if 0 ≤ ((strOfNums t258).size : Int) then ((order_Same.f kj4 a0_0 l0_1 a0_2 a0_3 a0_4 a0_5 a0_6 a0_7 a0_8 a0_9 a1_0 l1_1 a1_2 a1_3 a1_4 a1_5 a1_6 a1_7 a1_8 a1_9).bind fun t264 => (if ((((strOfNums t261).extract 0 (((strOfNums t258).size : Int) : Int).toNat).toList == (strOfNums t258).toList) == t264) = true then ((order_Same.f kj4 a0_0 l0_1 a0_2 a0_3 a0_4 a0_5 a0_6 a0_7 a0_8 a0_9 a1_0 l1_1 a1_2 a1_3 a1_4 a1_5 a1_6 a1_7 a1_8 a1_9).bind fun t265 => (some (((strOfNums t258).toList == (strOfNums t261).toList) == t265))) else (some false))) else (none)) else ((order_Same.f kj4 a0_0 l0_1 a0_2 a0_3 a0_4 a0_5 a0_6 a0_7 a0_8 a0_9 a1_0 l1_1 a1_2 a1_3 a1_4 a1_5 a1_6 a1_7 a1_8 a1_9).bind fun t266 => (if (false == t266) = true then ((order_Same.f kj4 a0_0 l0_1 a0_2 a0_3 a0_4 a0_5 a0_6 a0_7 a0_8 a0_9 a1_0 l1_1 a1_2 a1_3 a1_4 a1_5 a1_6 a1_7 a1_8 a1_9).bind fun t267 => (some (((strOfNums t258).toList == (strOfNums t261).toList) == t267))) else (some false))))) = some r := H; have A21 := Aside0.mk A210; clear A210; replace H := obm H; obtain ⟨t261, A220, H⟩ := H; replace H : (if ((strOfNums t258).size : Int) ≤ ((strOfNums t261).size : Int) then (if 0 ≤ ((strOfNums t258).size : Int) then ((order_Same.f kj4 a0_0 l0_1 a0_2 a0_3 a0_4 a0_5 a0_6 a0_7 a0_8 a0_9 a1_0 l1_1 a1_2 a1_3 a1_4 a1_5 a1_6 a1_7 a1_8 a1_9).bind fun t264 => (if ((((strOfNums t261).extract 0 (((strOfNums t258).size : Int) : Int).toNat).toList == (strOfNums t258).toList) == t264) = true then ((order_Same.f kj4 a0_0 l0_1 a0_2 a0_3 a0_4 a0_5 a0_6 a0_7 a0_8 a0_9 a1_0 l1_1 a1_2 a1_3 a1_4 a1_5 a1_6 a1_7 a1_8 a1_9).bind fun t265 => (some (((strOfNums t258).toList == (strOfNums t261).toList) == t265))) else (some false))) else (none)) else ((order_Same.f kj4 a0_0 l0_1 a0_2 a0_3 a0_4 a0_5 a0_6 a0_7 a0_8 a0_9 a1_0 l1_1 a1_2 a1_3 a1_4 a1_5 a1_6 a1_7 a1_8 a1_9).bind fun t266 => (if (false == t266) = true then ((order_Same.f kj4 a0_0 l0_1 a0_2 a0_3 a0_4 a0_5 a0_6 a0_7 a0_8 a0_9 a1_0 l1_1 a1_2 a1_3 a1_4 a1_5 a1_6 a1_7 a1_8 a1_9).bind fun t267 => (some (((strOfNums t258).toList == (strOfNums t261).toList) == t267))) else (some false)))) = some r := H; have A22 := Aside0.mk A220; clear A220
     by_cases c23 : ((strOfNums t258).size : Int) ≤ ((strOfNums t261).size : Int)
     ·rw [if_pos c23] at H
      have c23b0 : decide (((strOfNums t258).size : Int) ≤ ((strOfNums t261).size : Int)) = true := decide_eq_true c23; have c23b1 : decide ((strOfNums t258).size ≤ (strOfNums t261).size) = true := decide_eq_true (Int.ofNat_le.mp c23); clear c23
      by_cases c24 : 0 ≤ ((strOfNums t258).size : Int)
      ·rw [if_pos c24] at H
       have c24b0 := eq_true c24; have c24b1 : decide (0 ≤ ((strOfNums t258).size : Int)) = true := decide_eq_true c24; clear c24; have c25b0 := eq_true (of_decide_eq_true ap2 : ((strOfNums t258).size : Int) ≤ ((strOfNums t261).size : Int)); replace H := obm H; obtain ⟨t264, A260, H⟩ := H; replace H : (if ((((strOfNums t261).extract 0 (((strOfNums t258).size : Int) : Int).toNat).toList == (strOfNums t258).toList) == t264) = true then ((order_Same.f kj4 a0_0 l0_1 a0_2 a0_3 a0_4 a0_5 a0_6 a0_7 a0_8 a0_9 a1_0 l1_1 a1_2 a1_3 a1_4 a1_5 a1_6 a1_7 a1_8 a1_9).bind fun t265 => (some (((strOfNums t258).toList == (strOfNums t261).toList) == t265))) else (some false)) = some r := H; have A26 := Aside0.mk A260; clear A260
       by_cases c27 : ((((strOfNums t261).extract 0 (((strOfNums t258).size : Int) : Int).toNat).toList == (strOfNums t258).toList) == t264) = true
       ·rw [if_pos c27] at H
        have c27b0 : ((((strOfNums t261).extract 0 (((strOfNums t258).size : Int) : Int).toNat).toList == (strOfNums t258).toList) == t264) = true := c27
        (try (have c27b9 := c27b0; simp only [Int.toNat_natCast] at c27b9))
        (try (have c27b1 : decide ((((strOfNums t261).extract 0 (((strOfNums t258).size : Int) : Int).toNat).toList == (strOfNums t258).toList) = t264) = true := by simpa using c27))
        (try (have c27b2 : ((((strOfNums t261).extract 0 (((strOfNums t258).size : Int) : Int).toNat).toList == (strOfNums t258).toList) == t264) = true := by simpa using c27))
        clear c27; replace H := obm H; obtain ⟨t265, A280, H⟩ := H; replace H : (some (((strOfNums t258).toList == (strOfNums t261).toList) == t265)) = some r := H; have A28 := Aside0.mk A280; clear A280; obtain rfl := Option.some.inj H; simp only [Option.some.injEq, Prod.mk.injEq] at H; obtain ⟨rfl⟩ := H
        try go_wp2
        (try (rw [drewN_self wc]; generalize hq_ : World.drewN wc _ = wc; have _ := Aside0.mk (blk_at hq_ BK253.out); have _ := Aside0.mk (blk_at hq_ BK254.out); have _ := Aside0.mk (below_at hq_ HB.out); clear hq_ BK253 BK254 HB; rename_i BK253 BK254 HB))
        have n0_ := Aside0.mk (blk_drew BK253.out); have n1_ := Aside0.mk (blk_drew BK254.out); have n2_ := Aside0.mk (below_drew1 HB.out); clear BK253 BK254 HB; have BK253 := n0_; have BK254 := n1_; have HB := n2_; clear n0_ n1_ n2_
        refine start_ (n := 8) (S := fun w' => w'.cell? ⟨gb253, 0, none⟩ = some (.string a0_0) ∧ w'.cell? ⟨gb253, 1, none⟩ = some (.slice A0_1 l0_1.length c0_1) ∧ w'.cell? ⟨gb253, 2, none⟩ = some (.string a0_2) ∧ w'.cell? ⟨gb253, 3, none⟩ = some (.string a0_3) ∧ w'.cell? ⟨gb253, 4, none⟩ = some (.string a0_4) ∧ w'.cell? ⟨gb253, 5, none⟩ = some (.int .i64 a0_5) ∧ w'.cell? ⟨gb253, 6, none⟩ = some (.int .i64 a0_6) ∧ w'.cell? ⟨gb253, 7, none⟩ = some (.bool a0_7) ∧ w'.cell? ⟨gb253, 8, none⟩ = some (.int .i64 a0_8) ∧ w'.cell? ⟨gb253, 9, none⟩ = some (.int .i64 a0_9) ∧ w'.cell? ⟨gb254, 0, none⟩ = some (.string a1_0) ∧ w'.cell? ⟨gb254, 1, none⟩ = some (.slice A1_1 l1_1.length c1_1) ∧ w'.cell? ⟨gb254, 2, none⟩ = some (.string a1_2) ∧ w'.cell? ⟨gb254, 3, none⟩ = some (.string a1_3) ∧ w'.cell? ⟨gb254, 4, none⟩ = some (.string a1_4) ∧ w'.cell? ⟨gb254, 5, none⟩ = some (.int .i64 a1_5) ∧ w'.cell? ⟨gb254, 6, none⟩ = some (.int .i64 a1_6) ∧ w'.cell? ⟨gb254, 7, none⟩ = some (.bool a1_7) ∧ w'.cell? ⟨gb254, 8, none⟩ = some (.int .i64 a1_8) ∧ w'.cell? ⟨gb254, 9, none⟩ = some (.int .i64 a1_9)) (ds := []) #[false, false, false, false, false, false, false, false] (by kernel_rfl) rfl rfl ⟨(blk_cell BK253.out 0).trans rfl, (blk_cell BK253.out 1).trans rfl, (blk_cell BK253.out 2).trans rfl, (blk_cell BK253.out 3).trans rfl, (blk_cell BK253.out 4).trans rfl, (blk_cell BK253.out 5).trans rfl, (blk_cell BK253.out 6).trans rfl, (blk_cell BK253.out 7).trans rfl, (blk_cell BK253.out 8).trans rfl, (blk_cell BK253.out 9).trans rfl, (blk_cell BK254.out 0).trans rfl, (blk_cell BK254.out 1).trans rfl, (blk_cell BK254.out 2).trans rfl, (blk_cell BK254.out 3).trans rfl, (blk_cell BK254.out 4).trans rfl, (blk_cell BK254.out 5).trans rfl, (blk_cell BK254.out 6).trans rfl, (blk_cell BK254.out 7).trans rfl, (blk_cell BK254.out 8).trans rfl, (blk_cell BK254.out 9).trans rfl⟩ (fun hHeld => ?_); refine with_tabW packhorselaw10_OrderApart.tab5 packhorselaw10_OrderApart.bits5 (fun HT_ HW_ => ?_)
        generalize wc.drew = w29 at BK253 BK254 HB hHeld ⊢
        refine take_ (i := 0) (N := some 18) (v := ?_) (a' := ?_) (bs 8 1) rfl rfl (take_ofW HT_.out HW_.out (by kernel_rfl)) (fun _ _ _ h => h) (Or.inl ⟨by rfl, ?_⟩) hHeld ?_ ?_
        rotate_left
        ·rintro w' ⟨s0, s1, s2, s3, s4, s5, s6, s7, s8, s9, s10, s11, s12, s13, s14, s15, s16, s17, s18, s19⟩
         go_simp
         with_reducible rfl
        rotate_left
        ·simp only [Act.put, List.setIfInBounds_toArray, List.set_cons_zero, List.set_cons_succ, i64_w, i32_w]
         rfl
        refine take_ (i := 3) (N := some 21) (v := ?_) (a' := ?_) (bs 8 9) rfl rfl (take_ofW HT_.out HW_.out (by kernel_rfl)) (fun _ _ _ h => h) (Or.inl ⟨by rfl, ?_⟩) hHeld ?_ ?_
        rotate_left
        ·rintro w' ⟨s0, s1, s2, s3, s4, s5, s6, s7, s8, s9, s10, s11, s12, s13, s14, s15, s16, s17, s18, s19⟩
         go_simp
         with_reducible rfl
        rotate_left
        ·simp only [Act.put, List.setIfInBounds_toArray, List.set_cons_zero, List.set_cons_succ, i64_w, i32_w]
         rfl
        refine one_ (i := 1) (N := some 19) (bs 8 11) rfl rfl (one_of HT_.out (by kernel_rfl)) (by decide) (fun K hK => ?_)
        refine goes_ Tryd.func11 (by kernel_rfl) rfl #[.slice none 0 0, .agg #[.string a0_0, .slice A0_1 l0_1.length c0_1, .string a0_2, .string a0_3, .string a0_4, .int .i64 a0_5, .int .i64 a0_6, .bool a0_7, .int .i64 a0_8, .int .i64 a0_9]] (by rfl) rfl rfl ap1 ?_
        refine (order_Put.calls kj4 _ _ ([] : List Int) a0_0 _ _ l0_1 a0_2 a0_3 a0_4 a0_5 a0_6 a0_7 a0_8 a0_9 t258 _ ?side1 ?side2 ?side3 ?side4 A21.out).mono ?_
        (case side1 => exact Kd.C_nil _ _)
        (case side2 => exact Nat.le_refl _)
        (case side3 => exact cu (Kd.C_below HR0_1.out HB.out))
        (case side4 => exact HC0_1.out)
        rintro e w30 ⟨v259, rfl, ho0, hb⟩
        refine ⟨_, rfl, ?_⟩
        have n0_ := Aside0.mk (Kd.R_lower ho0 (below_size (beu HB.out))); have n1_ := Aside0.mk (blk_below (bu BK253.out) hb); have n2_ := Aside0.mk (blk_below (bu BK254.out) hb); have n3_ := Aside0.mk (below_step (beu HB.out) hb); clear BK253 BK254 HB; have HO260 := n0_; have BK253 := n1_; have BK254 := n2_; have HB := n3_; clear n0_ n1_ n2_ n3_
        (try clear hb)
        (try clear hb2)
        (try clear hk)
        (try clear hi)
        (try clear ho0)
        refine hK.out _ _ ⟨(blk_cell BK253.out 0).trans rfl, (blk_cell BK253.out 1).trans rfl, (blk_cell BK253.out 2).trans rfl, (blk_cell BK253.out 3).trans rfl, (blk_cell BK253.out 4).trans rfl, (blk_cell BK253.out 5).trans rfl, (blk_cell BK253.out 6).trans rfl, (blk_cell BK253.out 7).trans rfl, (blk_cell BK253.out 8).trans rfl, (blk_cell BK253.out 9).trans rfl, (blk_cell BK254.out 0).trans rfl, (blk_cell BK254.out 1).trans rfl, (blk_cell BK254.out 2).trans rfl, (blk_cell BK254.out 3).trans rfl, (blk_cell BK254.out 4).trans rfl, (blk_cell BK254.out 5).trans rfl, (blk_cell BK254.out 6).trans rfl, (blk_cell BK254.out 7).trans rfl, (blk_cell BK254.out 8).trans rfl, (blk_cell BK254.out 9).trans rfl⟩ (fun hHeld => ?_)
        clear hK K
        refine norm_ (a' := ?_) ?_ ?_
        rotate_left
        ·show Act.put _ (some 19) _ = _
         simp only [Act.put, List.setIfInBounds_toArray, List.set_cons_zero, List.set_cons_succ, i64_w, i32_w]
         rfl
        refine join_ (σ := Value) 1 #[true, true, true, true, true, true, true, false] (fun s_ => [(20, .string (strOfNums t258)), (22, s_), (23, .string (strOfNums t261)), (5, .string (strOfNums t258))]) (fun s_ w' => (w'.cell? ⟨gb253, 0, none⟩ = some (.string a0_0) ∧ w'.cell? ⟨gb253, 1, none⟩ = some (.slice A0_1 l0_1.length c0_1) ∧ w'.cell? ⟨gb253, 2, none⟩ = some (.string a0_2) ∧ w'.cell? ⟨gb253, 3, none⟩ = some (.string a0_3) ∧ w'.cell? ⟨gb253, 4, none⟩ = some (.string a0_4) ∧ w'.cell? ⟨gb253, 5, none⟩ = some (.int .i64 a0_5) ∧ w'.cell? ⟨gb253, 6, none⟩ = some (.int .i64 a0_6) ∧ w'.cell? ⟨gb253, 7, none⟩ = some (.bool a0_7) ∧ w'.cell? ⟨gb253, 8, none⟩ = some (.int .i64 a0_8) ∧ w'.cell? ⟨gb253, 9, none⟩ = some (.int .i64 a0_9) ∧ w'.cell? ⟨gb254, 0, none⟩ = some (.string a1_0) ∧ w'.cell? ⟨gb254, 1, none⟩ = some (.slice A1_1 l1_1.length c1_1) ∧ w'.cell? ⟨gb254, 2, none⟩ = some (.string a1_2) ∧ w'.cell? ⟨gb254, 3, none⟩ = some (.string a1_3) ∧ w'.cell? ⟨gb254, 4, none⟩ = some (.string a1_4) ∧ w'.cell? ⟨gb254, 5, none⟩ = some (.int .i64 a1_5) ∧ w'.cell? ⟨gb254, 6, none⟩ = some (.int .i64 a1_6) ∧ w'.cell? ⟨gb254, 7, none⟩ = some (.bool a1_7) ∧ w'.cell? ⟨gb254, 8, none⟩ = some (.int .i64 a1_8) ∧ w'.cell? ⟨gb254, 9, none⟩ = some (.int .i64 a1_9)) ∧ (Kd.R (Kd.int .u8) 5 w' w.heap.size (fun k_ => some k_ ≠ (s_ : Value).ownBlock) v259 t258) ∧ (Kd.R (Kd.int .u8) 5 w' w.heap.size (fun k_ => some k_ ≠ (v259 : Value).ownBlock) s_ t261) ∧ (w'.heap[gb253]? = some (.cells #[.string a0_0, .slice A0_1 l0_1.length c0_1, .string a0_2, .string a0_3, .string a0_4, .int .i64 a0_5, .int .i64 a0_6, .bool a0_7, .int .i64 a0_8, .int .i64 a0_9] 28 (0, 0))) ∧ (w'.heap[gb254]? = some (.cells #[.string a1_0, .slice A1_1 l1_1.length c1_1, .string a1_2, .string a1_3, .string a1_4, .int .i64 a1_5, .int .i64 a1_6, .bool a1_7, .int .i64 a1_8, .int .i64 a1_9] 28 (0, 0))) ∧ (Below w.heap.size w w')) ?_ ?_
        rotate_left
        ·intro hCont
         refine two_ (i := 2) (j := 4) (Ni := some 20) (Nj := some 22) #[true, true, true, true, false, false, false, false] #[true, true, false, true, true, false, false, false] rfl rfl rfl rfl (two_of HT_.out (by kernel_rfl)) (by decide) (by decide) (fun K hK => ?_) (fun K hK => ?_)
         ·skip
          have hcv31 := own_string (P := Tryd.prog) Tryd.underlying31 Tryd.underlying5 Tryd.underlying9 (Kd.own_of_R HO260.out)
          refine value_ (w1 := ?_) (v := ?_) (by rfl) rfl ?_ ?_
          rotate_left 2
          ·go_simp
           constructor
           ·rfl
           ·rfl
          clear hcv31
          refine hK.out _ _ ⟨(blk_cell BK253.out 0).trans rfl, (blk_cell BK253.out 1).trans rfl, (blk_cell BK253.out 2).trans rfl, (blk_cell BK253.out 3).trans rfl, (blk_cell BK253.out 4).trans rfl, (blk_cell BK253.out 5).trans rfl, (blk_cell BK253.out 6).trans rfl, (blk_cell BK253.out 7).trans rfl, (blk_cell BK253.out 8).trans rfl, (blk_cell BK253.out 9).trans rfl, (blk_cell BK254.out 0).trans rfl, (blk_cell BK254.out 1).trans rfl, (blk_cell BK254.out 2).trans rfl, (blk_cell BK254.out 3).trans rfl, (blk_cell BK254.out 4).trans rfl, (blk_cell BK254.out 5).trans rfl, (blk_cell BK254.out 6).trans rfl, (blk_cell BK254.out 7).trans rfl, (blk_cell BK254.out 8).trans rfl, (blk_cell BK254.out 9).trans rfl⟩ (fun hHeld => ?_)
          clear hK K
          refine norm_ (a' := ?_) ?_ ?_
          rotate_left
          ·show Act.put _ (some 20) _ = _
           simp only [Act.put, List.setIfInBounds_toArray, List.set_cons_zero, List.set_cons_succ, i64_w, i32_w]
           rfl
          refine one_ (i := 4) (N := some 22) (bs 8 31) rfl rfl (one_of HT_.out (by kernel_rfl)) (by decide) (fun K hK => ?_)
          refine goes_ Tryd.func11 (by kernel_rfl) rfl #[.slice none 0 0, .agg #[.string a1_0, .slice A1_1 l1_1.length c1_1, .string a1_2, .string a1_3, .string a1_4, .int .i64 a1_5, .int .i64 a1_6, .bool a1_7, .int .i64 a1_8, .int .i64 a1_9]] (by rfl) rfl rfl ap1 ?_
          refine (order_Put.calls kj4 _ _ ([] : List Int) a1_0 _ _ l1_1 a1_2 a1_3 a1_4 a1_5 a1_6 a1_7 a1_8 a1_9 t261 _ ?side1 ?side2 ?side3 ?side4 A22.out).mono ?_
          (case side1 => exact Kd.C_nil _ _)
          (case side2 => exact Nat.le_refl _)
          (case side3 => exact cu (Kd.C_below HR1_1.out HB.out))
          (case side4 => exact HC1_1.out)
          rintro e w32 ⟨v262, rfl, ho0, hb⟩
          refine ⟨_, rfl, ?_⟩
          have n0_ := Aside0.mk (Kd.R_elder' (ru HO260.out) (Kd.R_base ho0) hb); have n1_ := Aside0.mk (Kd.R_lower (Kd.R_new' ho0 (Kd.R_lt (ru HO260.out))) (below_size (beu HB.out))); have n2_ := Aside0.mk (blk_below (bu BK253.out) hb); have n3_ := Aside0.mk (blk_below (bu BK254.out) hb); have n4_ := Aside0.mk (below_step (beu HB.out) hb); clear HO260 BK253 BK254 HB; have HO260 := n0_; have HO263 := n1_; have BK253 := n2_; have BK254 := n3_; have HB := n4_; clear n0_ n1_ n2_ n3_ n4_
          (try clear hb)
          (try clear hb2)
          (try clear hk)
          (try clear hi)
          (try clear ho0)
          refine hK.out _ _ ⟨(blk_cell BK253.out 0).trans rfl, (blk_cell BK253.out 1).trans rfl, (blk_cell BK253.out 2).trans rfl, (blk_cell BK253.out 3).trans rfl, (blk_cell BK253.out 4).trans rfl, (blk_cell BK253.out 5).trans rfl, (blk_cell BK253.out 6).trans rfl, (blk_cell BK253.out 7).trans rfl, (blk_cell BK253.out 8).trans rfl, (blk_cell BK253.out 9).trans rfl, (blk_cell BK254.out 0).trans rfl, (blk_cell BK254.out 1).trans rfl, (blk_cell BK254.out 2).trans rfl, (blk_cell BK254.out 3).trans rfl, (blk_cell BK254.out 4).trans rfl, (blk_cell BK254.out 5).trans rfl, (blk_cell BK254.out 6).trans rfl, (blk_cell BK254.out 7).trans rfl, (blk_cell BK254.out 8).trans rfl, (blk_cell BK254.out 9).trans rfl⟩ (fun hHeld => ?_)
          clear hK K
          refine norm_ (a' := ?_) ?_ ?_
          rotate_left
          ·show Act.put _ (some 22) _ = _
           simp only [Act.put, List.setIfInBounds_toArray, List.set_cons_zero, List.set_cons_succ, i64_w, i32_w]
           rfl
          refine pure_ (i := 6) (N := some 5) (v := ?_) (a' := ?_) (bs 8 95) rfl rfl (any_of HT_.out (by kernel_rfl)) (fun _ _ _ h => h) (Or.inl ⟨by rfl, ?_⟩) ?_ ?_
          rotate_left
          ·intro w'
           go_simp
           with_reducible rfl
          rotate_left
          ·simp only [Act.put, List.setIfInBounds_toArray, List.set_cons_zero, List.set_cons_succ, i64_w, i32_w]
           rfl
          refine one_ (i := 5) (N := some 23) (bs 8 127) rfl rfl (one_of HT_.out (by kernel_rfl)) (by decide) (fun K hK => ?_)
          have hcv33 := own_string (P := Tryd.prog) Tryd.underlying31 Tryd.underlying5 Tryd.underlying9 (Kd.own_of_R HO263.out)
          refine value_ (w1 := ?_) (v := ?_) (by rfl) rfl ?_ ?_
          rotate_left 2
          ·go_simp
           constructor
           ·rfl
           ·rfl
          clear hcv33
          refine hK.out _ _ ⟨(blk_cell BK253.out 0).trans rfl, (blk_cell BK253.out 1).trans rfl, (blk_cell BK253.out 2).trans rfl, (blk_cell BK253.out 3).trans rfl, (blk_cell BK253.out 4).trans rfl, (blk_cell BK253.out 5).trans rfl, (blk_cell BK253.out 6).trans rfl, (blk_cell BK253.out 7).trans rfl, (blk_cell BK253.out 8).trans rfl, (blk_cell BK253.out 9).trans rfl, (blk_cell BK254.out 0).trans rfl, (blk_cell BK254.out 1).trans rfl, (blk_cell BK254.out 2).trans rfl, (blk_cell BK254.out 3).trans rfl, (blk_cell BK254.out 4).trans rfl, (blk_cell BK254.out 5).trans rfl, (blk_cell BK254.out 6).trans rfl, (blk_cell BK254.out 7).trans rfl, (blk_cell BK254.out 8).trans rfl, (blk_cell BK254.out 9).trans rfl⟩ (fun hHeld => ?_)
          clear hK K
          refine norm_ (a' := ?_) ?_ ?_
          rotate_left
          ·show Act.put _ (some 23) _ = _
           simp only [Act.put, List.setIfInBounds_toArray, List.set_cons_zero, List.set_cons_succ, i64_w, i32_w]
           rfl
          exact norm_ (by simp only [putAll, Act.put, List.setIfInBounds_toArray, List.set_cons_zero, List.set_cons_succ]) (hCont (v262) _ ⟨hHeld, (ru (Kd.R_mono HO260.out (fun _ hk => by first | exact hk.2 | exact trivial))), (ru (Kd.R_mono HO263.out (fun _ hk => by first | exact hk.2 | exact trivial))), (bu BK253.out), (bu BK254.out), (beu HB.out)⟩)
         ·skip
          refine goes_ Tryd.func11 (by kernel_rfl) rfl #[.slice none 0 0, .agg #[.string a1_0, .slice A1_1 l1_1.length c1_1, .string a1_2, .string a1_3, .string a1_4, .int .i64 a1_5, .int .i64 a1_6, .bool a1_7, .int .i64 a1_8, .int .i64 a1_9]] (by rfl) rfl rfl ap1 ?_
          refine (order_Put.calls kj4 _ _ ([] : List Int) a1_0 _ _ l1_1 a1_2 a1_3 a1_4 a1_5 a1_6 a1_7 a1_8 a1_9 t261 _ ?side1 ?side2 ?side3 ?side4 A22.out).mono ?_
          (case side1 => exact Kd.C_nil _ _)
          (case side2 => exact Nat.le_refl _)
          (case side3 => exact cu (Kd.C_below HR1_1.out HB.out))
          (case side4 => exact HC1_1.out)
          rintro e w31 ⟨v262, rfl, ho0, hb⟩
          refine ⟨_, rfl, ?_⟩
          have n0_ := Aside0.mk (Kd.R_elder' (ru HO260.out) (Kd.R_base ho0) hb); have n1_ := Aside0.mk (Kd.R_lower (Kd.R_new' ho0 (Kd.R_lt (ru HO260.out))) (below_size (beu HB.out))); have n2_ := Aside0.mk (blk_below (bu BK253.out) hb); have n3_ := Aside0.mk (blk_below (bu BK254.out) hb); have n4_ := Aside0.mk (below_step (beu HB.out) hb); clear HO260 BK253 BK254 HB; have HO260 := n0_; have HO263 := n1_; have BK253 := n2_; have BK254 := n3_; have HB := n4_; clear n0_ n1_ n2_ n3_ n4_
          (try clear hb)
          (try clear hb2)
          (try clear hk)
          (try clear hi)
          (try clear ho0)
          refine hK.out _ _ ⟨(blk_cell BK253.out 0).trans rfl, (blk_cell BK253.out 1).trans rfl, (blk_cell BK253.out 2).trans rfl, (blk_cell BK253.out 3).trans rfl, (blk_cell BK253.out 4).trans rfl, (blk_cell BK253.out 5).trans rfl, (blk_cell BK253.out 6).trans rfl, (blk_cell BK253.out 7).trans rfl, (blk_cell BK253.out 8).trans rfl, (blk_cell BK253.out 9).trans rfl, (blk_cell BK254.out 0).trans rfl, (blk_cell BK254.out 1).trans rfl, (blk_cell BK254.out 2).trans rfl, (blk_cell BK254.out 3).trans rfl, (blk_cell BK254.out 4).trans rfl, (blk_cell BK254.out 5).trans rfl, (blk_cell BK254.out 6).trans rfl, (blk_cell BK254.out 7).trans rfl, (blk_cell BK254.out 8).trans rfl, (blk_cell BK254.out 9).trans rfl⟩ (fun hHeld => ?_)
          clear hK K
          refine norm_ (a' := ?_) ?_ ?_
          rotate_left
          ·show Act.put _ (some 22) _ = _
           simp only [Act.put, List.setIfInBounds_toArray, List.set_cons_zero, List.set_cons_succ, i64_w, i32_w]
           rfl
          refine two_ (i := 2) (j := 5) (Ni := some 20) (Nj := some 23) #[true, true, true, true, true, false, false, false] #[true, true, false, true, true, true, false, false] rfl rfl rfl rfl (two_of HT_.out (by kernel_rfl)) (by decide) (by decide) (fun K hK => ?_) (fun K hK => ?_)
          ·skip
           have hcv32 := own_string (P := Tryd.prog) Tryd.underlying31 Tryd.underlying5 Tryd.underlying9 (Kd.own_of_R HO260.out)
           refine value_ (w1 := ?_) (v := ?_) (by rfl) rfl ?_ ?_
           rotate_left 2
           ·go_simp
            constructor
            ·rfl
            ·rfl
           clear hcv32
           refine hK.out _ _ ⟨(blk_cell BK253.out 0).trans rfl, (blk_cell BK253.out 1).trans rfl, (blk_cell BK253.out 2).trans rfl, (blk_cell BK253.out 3).trans rfl, (blk_cell BK253.out 4).trans rfl, (blk_cell BK253.out 5).trans rfl, (blk_cell BK253.out 6).trans rfl, (blk_cell BK253.out 7).trans rfl, (blk_cell BK253.out 8).trans rfl, (blk_cell BK253.out 9).trans rfl, (blk_cell BK254.out 0).trans rfl, (blk_cell BK254.out 1).trans rfl, (blk_cell BK254.out 2).trans rfl, (blk_cell BK254.out 3).trans rfl, (blk_cell BK254.out 4).trans rfl, (blk_cell BK254.out 5).trans rfl, (blk_cell BK254.out 6).trans rfl, (blk_cell BK254.out 7).trans rfl, (blk_cell BK254.out 8).trans rfl, (blk_cell BK254.out 9).trans rfl⟩ (fun hHeld => ?_)
           clear hK K
           refine norm_ (a' := ?_) ?_ ?_
           rotate_left
           ·show Act.put _ (some 20) _ = _
            simp only [Act.put, List.setIfInBounds_toArray, List.set_cons_zero, List.set_cons_succ, i64_w, i32_w]
            rfl
           refine pure_ (i := 6) (N := some 5) (v := ?_) (a' := ?_) (bs 8 95) rfl rfl (any_of HT_.out (by kernel_rfl)) (fun _ _ _ h => h) (Or.inl ⟨by rfl, ?_⟩) ?_ ?_
           rotate_left
           ·intro w'
            go_simp
            with_reducible rfl
           rotate_left
           ·simp only [Act.put, List.setIfInBounds_toArray, List.set_cons_zero, List.set_cons_succ, i64_w, i32_w]
            rfl
           refine one_ (i := 5) (N := some 23) (bs 8 127) rfl rfl (one_of HT_.out (by kernel_rfl)) (by decide) (fun K hK => ?_)
           have hcv33 := own_string (P := Tryd.prog) Tryd.underlying31 Tryd.underlying5 Tryd.underlying9 (Kd.own_of_R HO263.out)
           refine value_ (w1 := ?_) (v := ?_) (by rfl) rfl ?_ ?_
           rotate_left 2
           ·go_simp
            constructor
            ·rfl
            ·rfl
           clear hcv33
           refine hK.out _ _ ⟨(blk_cell BK253.out 0).trans rfl, (blk_cell BK253.out 1).trans rfl, (blk_cell BK253.out 2).trans rfl, (blk_cell BK253.out 3).trans rfl, (blk_cell BK253.out 4).trans rfl, (blk_cell BK253.out 5).trans rfl, (blk_cell BK253.out 6).trans rfl, (blk_cell BK253.out 7).trans rfl, (blk_cell BK253.out 8).trans rfl, (blk_cell BK253.out 9).trans rfl, (blk_cell BK254.out 0).trans rfl, (blk_cell BK254.out 1).trans rfl, (blk_cell BK254.out 2).trans rfl, (blk_cell BK254.out 3).trans rfl, (blk_cell BK254.out 4).trans rfl, (blk_cell BK254.out 5).trans rfl, (blk_cell BK254.out 6).trans rfl, (blk_cell BK254.out 7).trans rfl, (blk_cell BK254.out 8).trans rfl, (blk_cell BK254.out 9).trans rfl⟩ (fun hHeld => ?_)
           clear hK K
           refine norm_ (a' := ?_) ?_ ?_
           rotate_left
           ·show Act.put _ (some 23) _ = _
            simp only [Act.put, List.setIfInBounds_toArray, List.set_cons_zero, List.set_cons_succ, i64_w, i32_w]
            rfl
           exact norm_ (by simp only [putAll, Act.put, List.setIfInBounds_toArray, List.set_cons_zero, List.set_cons_succ]) (hCont (v262) _ ⟨hHeld, (ru (Kd.R_mono HO260.out (fun _ hk => by first | exact hk.2 | exact trivial))), (ru (Kd.R_mono HO263.out (fun _ hk => by first | exact hk.2 | exact trivial))), (bu BK253.out), (bu BK254.out), (beu HB.out)⟩)
          ·skip
           have hcv32 := own_string (P := Tryd.prog) Tryd.underlying31 Tryd.underlying5 Tryd.underlying9 (Kd.own_of_R HO263.out)
           refine value_ (w1 := ?_) (v := ?_) (by rfl) rfl ?_ ?_
           rotate_left 2
           ·go_simp
            constructor
            ·rfl
            ·rfl
           clear hcv32
           refine hK.out _ _ ⟨(blk_cell BK253.out 0).trans rfl, (blk_cell BK253.out 1).trans rfl, (blk_cell BK253.out 2).trans rfl, (blk_cell BK253.out 3).trans rfl, (blk_cell BK253.out 4).trans rfl, (blk_cell BK253.out 5).trans rfl, (blk_cell BK253.out 6).trans rfl, (blk_cell BK253.out 7).trans rfl, (blk_cell BK253.out 8).trans rfl, (blk_cell BK253.out 9).trans rfl, (blk_cell BK254.out 0).trans rfl, (blk_cell BK254.out 1).trans rfl, (blk_cell BK254.out 2).trans rfl, (blk_cell BK254.out 3).trans rfl, (blk_cell BK254.out 4).trans rfl, (blk_cell BK254.out 5).trans rfl, (blk_cell BK254.out 6).trans rfl, (blk_cell BK254.out 7).trans rfl, (blk_cell BK254.out 8).trans rfl, (blk_cell BK254.out 9).trans rfl⟩ (fun hHeld => ?_)
           clear hK K
           refine norm_ (a' := ?_) ?_ ?_
           rotate_left
           ·show Act.put _ (some 23) _ = _
            simp only [Act.put, List.setIfInBounds_toArray, List.set_cons_zero, List.set_cons_succ, i64_w, i32_w]
            rfl
           refine one_ (i := 2) (N := some 20) (bs 8 63) rfl rfl (one_of HT_.out (by kernel_rfl)) (by decide) (fun K hK => ?_)
           have hcv33 := own_string (P := Tryd.prog) Tryd.underlying31 Tryd.underlying5 Tryd.underlying9 (Kd.own_of_R HO260.out)
           refine value_ (w1 := ?_) (v := ?_) (by rfl) rfl ?_ ?_
           rotate_left 2
           ·go_simp
            constructor
            ·rfl
            ·rfl
           clear hcv33
           refine hK.out _ _ ⟨(blk_cell BK253.out 0).trans rfl, (blk_cell BK253.out 1).trans rfl, (blk_cell BK253.out 2).trans rfl, (blk_cell BK253.out 3).trans rfl, (blk_cell BK253.out 4).trans rfl, (blk_cell BK253.out 5).trans rfl, (blk_cell BK253.out 6).trans rfl, (blk_cell BK253.out 7).trans rfl, (blk_cell BK253.out 8).trans rfl, (blk_cell BK253.out 9).trans rfl, (blk_cell BK254.out 0).trans rfl, (blk_cell BK254.out 1).trans rfl, (blk_cell BK254.out 2).trans rfl, (blk_cell BK254.out 3).trans rfl, (blk_cell BK254.out 4).trans rfl, (blk_cell BK254.out 5).trans rfl, (blk_cell BK254.out 6).trans rfl, (blk_cell BK254.out 7).trans rfl, (blk_cell BK254.out 8).trans rfl, (blk_cell BK254.out 9).trans rfl⟩ (fun hHeld => ?_)
           clear hK K
           refine norm_ (a' := ?_) ?_ ?_
           rotate_left
           ·show Act.put _ (some 20) _ = _
            simp only [Act.put, List.setIfInBounds_toArray, List.set_cons_zero, List.set_cons_succ, i64_w, i32_w]
            rfl
           refine pure_ (i := 6) (N := some 5) (v := ?_) (a' := ?_) (bs 8 127) rfl rfl (any_of HT_.out (by kernel_rfl)) (fun _ _ _ h => h) (Or.inl ⟨by rfl, ?_⟩) ?_ ?_
           rotate_left
           ·intro w'
            go_simp
            with_reducible rfl
           rotate_left
           ·simp only [Act.put, List.setIfInBounds_toArray, List.set_cons_zero, List.set_cons_succ, i64_w, i32_w]
            rfl
           exact norm_ (by simp only [putAll, Act.put, List.setIfInBounds_toArray, List.set_cons_zero, List.set_cons_succ]) (hCont (v262) _ ⟨hHeld, (ru (Kd.R_mono HO260.out (fun _ hk => by first | exact hk.2 | exact trivial))), (ru (Kd.R_mono HO263.out (fun _ hk => by first | exact hk.2 | exact trivial))), (bu BK253.out), (bu BK254.out), (beu HB.out)⟩)
        rintro v262 w34 ⟨hS_, h0_, h1_, h2_, h3_, h4_⟩; have n0_ : Aside0 (Kd.R (Kd.int .u8) 5 w34 w.heap.size (fun k_ => some k_ ≠ (v262 : Value).ownBlock) v259 t258) := ⟨h0_⟩; have n1_ : Aside0 (Kd.R (Kd.int .u8) 5 w34 w.heap.size (fun k_ => some k_ ≠ (v259 : Value).ownBlock) v262 t261) := ⟨h1_⟩; have n2_ : Aside0 (w34.heap[gb253]? = some (.cells #[.string a0_0, .slice A0_1 l0_1.length c0_1, .string a0_2, .string a0_3, .string a0_4, .int .i64 a0_5, .int .i64 a0_6, .bool a0_7, .int .i64 a0_8, .int .i64 a0_9] 28 (0, 0))) := ⟨h2_⟩; have n3_ : Aside0 (w34.heap[gb254]? = some (.cells #[.string a1_0, .slice A1_1 l1_1.length c1_1, .string a1_2, .string a1_3, .string a1_4, .int .i64 a1_5, .int .i64 a1_6, .bool a1_7, .int .i64 a1_8, .int .i64 a1_9] 28 (0, 0))) := ⟨h3_⟩; have n4_ : Aside0 (Below w.heap.size w w34) := ⟨h4_⟩; clear BK253 BK254 HB h0_ h1_ h2_ h3_ h4_; have HO260 := n0_; have HO263 := n1_; have BK253 := n2_; have BK254 := n3_; have HB := n4_; clear n0_ n1_ n2_ n3_ n4_; have hHeld : w34.cell? ⟨gb253, 0, none⟩ = some (.string a0_0) ∧ w34.cell? ⟨gb253, 1, none⟩ = some (.slice A0_1 l0_1.length c0_1) ∧ w34.cell? ⟨gb253, 2, none⟩ = some (.string a0_2) ∧ w34.cell? ⟨gb253, 3, none⟩ = some (.string a0_3) ∧ w34.cell? ⟨gb253, 4, none⟩ = some (.string a0_4) ∧ w34.cell? ⟨gb253, 5, none⟩ = some (.int .i64 a0_5) ∧ w34.cell? ⟨gb253, 6, none⟩ = some (.int .i64 a0_6) ∧ w34.cell? ⟨gb253, 7, none⟩ = some (.bool a0_7) ∧ w34.cell? ⟨gb253, 8, none⟩ = some (.int .i64 a0_8) ∧ w34.cell? ⟨gb253, 9, none⟩ = some (.int .i64 a0_9) ∧ w34.cell? ⟨gb254, 0, none⟩ = some (.string a1_0) ∧ w34.cell? ⟨gb254, 1, none⟩ = some (.slice A1_1 l1_1.length c1_1) ∧ w34.cell? ⟨gb254, 2, none⟩ = some (.string a1_2) ∧ w34.cell? ⟨gb254, 3, none⟩ = some (.string a1_3) ∧ w34.cell? ⟨gb254, 4, none⟩ = some (.string a1_4) ∧ w34.cell? ⟨gb254, 5, none⟩ = some (.int .i64 a1_5) ∧ w34.cell? ⟨gb254, 6, none⟩ = some (.int .i64 a1_6) ∧ w34.cell? ⟨gb254, 7, none⟩ = some (.bool a1_7) ∧ w34.cell? ⟨gb254, 8, none⟩ = some (.int .i64 a1_8) ∧ w34.cell? ⟨gb254, 9, none⟩ = some (.int .i64 a1_9) := hS_
        refine norm_ (a' := ?_) ?_ ?_
        rotate_left
        ·simp only [putAll, Act.put, List.setIfInBounds_toArray, List.set_cons_zero, List.set_cons_succ]
         rfl
        refine pure_ (i := 7) (N := some 6) (v := ?_) (a' := ?_) (bs 8 255) rfl rfl (any_of HT_.out (by kernel_rfl)) (fun _ _ _ h => h) (Or.inl ⟨by rfl, ?_⟩) ?_ ?_
        rotate_left
        ·intro w'
         go_simp
         with_reducible rfl
        rotate_left
        ·simp only [Act.put, List.setIfInBounds_toArray, List.set_cons_zero, List.set_cons_succ, i64_w, i32_w]
         rfl
        refine done_ (done_of HT_.out (by kernel_rfl)) ?_
        have hnb35 := NB253_254.out; have hnc35 := NB254_253.out; obtain ⟨hcz36_0, hcz36_1, hcz36_2, hcz36_3, hcz36_4, hcz36_5, hcz36_6, hcz36_7, hcz36_8, hcz36_9⟩ := cells10 BK253.out; obtain ⟨hfz36_0, hfz36_1, hfz36_2, hfz36_3, hfz36_4, hfz36_5, hfz36_6, hfz36_7, hfz36_8, hfz36_9⟩ := frozens10 BK253.out; obtain ⟨hcz37_0, hcz37_1, hcz37_2, hcz37_3, hcz37_4, hcz37_5, hcz37_6, hcz37_7, hcz37_8, hcz37_9⟩ := cells10 BK254.out; obtain ⟨hfz37_0, hfz37_1, hfz37_2, hfz37_3, hfz37_4, hfz37_5, hfz37_6, hfz37_7, hfz37_8, hfz37_9⟩ := frozens10 BK254.out
        try go_wp2_with (first | ((with_reducible refine gate_callee (f := 12) rfl ?_); refine goesL_ (some 40) rfl rfl Tryd.func12 (by kernel_rfl) rfl #[.agg #[.string a0_0, .slice A0_1 l0_1.length c0_1, .string a0_2, .string a0_3, .string a0_4, .int .i64 a0_5, .int .i64 a0_6, .bool a0_7, .int .i64 a0_8, .int .i64 a0_9], .agg #[.string a1_0, .slice A1_1 l1_1.length c1_1, .string a1_2, .string a1_3, .string a1_4, .int .i64 a1_5, .int .i64 a1_6, .bool a1_7, .int .i64 a1_8, .int .i64 a1_9]] rfl ap1 ?_; (with_reducible refine (order_Same.calls kj4 a0_0 _ _ l0_1 a0_2 a0_3 a0_4 a0_5 a0_6 a0_7 a0_8 a0_9 a1_0 _ _ l1_1 a1_2 a1_3 a1_4 a1_5 a1_6 a1_7 a1_8 a1_9 t264 _ ?side1 ?side2 ?side3 ?side4 A26.out).mono ?_); (case side1 => exact cu (Kd.C_below HR0_1.out HB.out)); (case side2 => exact HC0_1.out); (case side3 => exact cu (Kd.C_below HR1_1.out HB.out)); (case side4 => exact HC1_1.out); rintro e w38 ⟨rfl, hb⟩; refine ⟨_, rfl, ?_⟩; have _ := Aside0.mk (Kd.R_below (ru HO260.out) hb); have _ := Aside0.mk (Kd.R_below (ru HO263.out) hb); have _ := Aside0.mk (blk_below (bu BK253.out) hb); have _ := Aside0.mk (blk_below (bu BK254.out) hb); have _ := Aside0.mk (below_step (beu HB.out) hb); clear HO260 HO263 BK253 BK254 HB; rename_i HO260 HO263 BK253 BK254 HB; (try clear hb); (try clear hb2); (try clear hk); (try clear hi); obtain ⟨hcz39_0, hcz39_1, hcz39_2, hcz39_3, hcz39_4, hcz39_5, hcz39_6, hcz39_7, hcz39_8, hcz39_9⟩ := cells10 BK253.out; obtain ⟨hfz39_0, hfz39_1, hfz39_2, hfz39_3, hfz39_4, hfz39_5, hfz39_6, hfz39_7, hfz39_8, hfz39_9⟩ := frozens10 BK253.out; obtain ⟨hcz40_0, hcz40_1, hcz40_2, hcz40_3, hcz40_4, hcz40_5, hcz40_6, hcz40_7, hcz40_8, hcz40_9⟩ := cells10 BK254.out; obtain ⟨hfz40_0, hfz40_1, hfz40_2, hfz40_3, hfz40_4, hfz40_5, hfz40_6, hfz40_7, hfz40_8, hfz40_9⟩ := frozens10 BK254.out) | (go_at_call 12; (with_reducible refine (order_Same.calls kj4 a0_0 _ _ l0_1 a0_2 a0_3 a0_4 a0_5 a0_6 a0_7 a0_8 a0_9 a1_0 _ _ l1_1 a1_2 a1_3 a1_4 a1_5 a1_6 a1_7 a1_8 a1_9 t265 _ ?side1 ?side2 ?side3 ?side4 A28.out).mono ?_); (case side1 => exact cu (Kd.C_below HR0_1.out HB.out)); (case side2 => exact HC0_1.out); (case side3 => exact cu (Kd.C_below HR1_1.out HB.out)); (case side4 => exact HC1_1.out); rintro e w41 ⟨rfl, hb⟩; have _ := Aside0.mk (Kd.R_below (ru HO260.out) hb); have _ := Aside0.mk (Kd.R_below (ru HO263.out) hb); have _ := Aside0.mk (blk_below (bu BK253.out) hb); have _ := Aside0.mk (blk_below (bu BK254.out) hb); have _ := Aside0.mk (below_step (beu HB.out) hb); clear HO260 HO263 BK253 BK254 HB; rename_i HO260 HO263 BK253 BK254 HB; (try clear hb); (try clear hb2); (try clear hk); (try clear hi)))
        go_ret
        exact ⟨ap4, beu HB.out⟩
       ·rw [if_neg c27] at H
        have c27b0 : ((((strOfNums t261).extract 0 (((strOfNums t258).size : Int) : Int).toNat).toList == (strOfNums t258).toList) == t264) = false := by simpa using c27
        (try (have c27b9 := c27b0; simp only [Int.toNat_natCast] at c27b9))
        (try (have c27b1 : decide ((((strOfNums t261).extract 0 (((strOfNums t258).size : Int) : Int).toNat).toList == (strOfNums t258).toList) = t264) = false := by simpa using c27))
        (try (have c27b2 : ((((strOfNums t261).extract 0 (((strOfNums t258).size : Int) : Int).toNat).toList == (strOfNums t258).toList) == t264) = false := by simpa using c27))
        (try (have c27b3 : ¬ ((((strOfNums t261).extract 0 (((strOfNums t258).size : Int) : Int).toNat).toList == (strOfNums t258).toList) = t264) := by simpa using c27))
        clear c27; obtain rfl := Option.some.inj H
        exact absurd HRT.out (by decide)
      ·rw [if_neg c24] at H
       exact absurd H (by simp)
     ·rw [if_neg c23] at H
      have c23b0 : decide (((strOfNums t258).size : Int) ≤ ((strOfNums t261).size : Int)) = false := decide_eq_false c23; have c23b1 : decide ((strOfNums t258).size ≤ (strOfNums t261).size) = false := decide_eq_false (fun h => c23 (Int.ofNat_le.mpr h)); clear c23; replace H := obm H; obtain ⟨t266, A420, H⟩ := H; replace H : (if (false == t266) = true then ((order_Same.f kj4 a0_0 l0_1 a0_2 a0_3 a0_4 a0_5 a0_6 a0_7 a0_8 a0_9 a1_0 l1_1 a1_2 a1_3 a1_4 a1_5 a1_6 a1_7 a1_8 a1_9).bind fun t267 => (some (((strOfNums t258).toList == (strOfNums t261).toList) == t267))) else (some false)) = some r := H; have A42 := Aside0.mk A420; clear A420
      by_cases c43 : (false == t266) = true
      ·rw [if_pos c43] at H
       have c43b0 : (false == t266) = true := c43
       (try (have c43b1 : decide (false = t266) = true := by simpa using c43))
       (try (have c43b2 : (false == t266) = true := by simpa using c43))
       clear c43; replace H := obm H; obtain ⟨t267, A440, H⟩ := H; replace H : (some (((strOfNums t258).toList == (strOfNums t261).toList) == t267)) = some r := H; have A44 := Aside0.mk A440; clear A440; obtain rfl := Option.some.inj H; simp only [Option.some.injEq, Prod.mk.injEq] at H; obtain ⟨rfl⟩ := H
       try go_wp2
       (try (rw [drewN_self wc]; generalize hq_ : World.drewN wc _ = wc; have _ := Aside0.mk (blk_at hq_ BK253.out); have _ := Aside0.mk (blk_at hq_ BK254.out); have _ := Aside0.mk (below_at hq_ HB.out); clear hq_ BK253 BK254 HB; rename_i BK253 BK254 HB))
       have n0_ := Aside0.mk (blk_drew BK253.out); have n1_ := Aside0.mk (blk_drew BK254.out); have n2_ := Aside0.mk (below_drew1 HB.out); clear BK253 BK254 HB; have BK253 := n0_; have BK254 := n1_; have HB := n2_; clear n0_ n1_ n2_
       refine start_ (n := 8) (S := fun w' => w'.cell? ⟨gb253, 0, none⟩ = some (.string a0_0) ∧ w'.cell? ⟨gb253, 1, none⟩ = some (.slice A0_1 l0_1.length c0_1) ∧ w'.cell? ⟨gb253, 2, none⟩ = some (.string a0_2) ∧ w'.cell? ⟨gb253, 3, none⟩ = some (.string a0_3) ∧ w'.cell? ⟨gb253, 4, none⟩ = some (.string a0_4) ∧ w'.cell? ⟨gb253, 5, none⟩ = some (.int .i64 a0_5) ∧ w'.cell? ⟨gb253, 6, none⟩ = some (.int .i64 a0_6) ∧ w'.cell? ⟨gb253, 7, none⟩ = some (.bool a0_7) ∧ w'.cell? ⟨gb253, 8, none⟩ = some (.int .i64 a0_8) ∧ w'.cell? ⟨gb253, 9, none⟩ = some (.int .i64 a0_9) ∧ w'.cell? ⟨gb254, 0, none⟩ = some (.string a1_0) ∧ w'.cell? ⟨gb254, 1, none⟩ = some (.slice A1_1 l1_1.length c1_1) ∧ w'.cell? ⟨gb254, 2, none⟩ = some (.string a1_2) ∧ w'.cell? ⟨gb254, 3, none⟩ = some (.string a1_3) ∧ w'.cell? ⟨gb254, 4, none⟩ = some (.string a1_4) ∧ w'.cell? ⟨gb254, 5, none⟩ = some (.int .i64 a1_5) ∧ w'.cell? ⟨gb254, 6, none⟩ = some (.int .i64 a1_6) ∧ w'.cell? ⟨gb254, 7, none⟩ = some (.bool a1_7) ∧ w'.cell? ⟨gb254, 8, none⟩ = some (.int .i64 a1_8) ∧ w'.cell? ⟨gb254, 9, none⟩ = some (.int .i64 a1_9)) (ds := []) #[false, false, false, false, false, false, false, false] (by kernel_rfl) rfl rfl ⟨(blk_cell BK253.out 0).trans rfl, (blk_cell BK253.out 1).trans rfl, (blk_cell BK253.out 2).trans rfl, (blk_cell BK253.out 3).trans rfl, (blk_cell BK253.out 4).trans rfl, (blk_cell BK253.out 5).trans rfl, (blk_cell BK253.out 6).trans rfl, (blk_cell BK253.out 7).trans rfl, (blk_cell BK253.out 8).trans rfl, (blk_cell BK253.out 9).trans rfl, (blk_cell BK254.out 0).trans rfl, (blk_cell BK254.out 1).trans rfl, (blk_cell BK254.out 2).trans rfl, (blk_cell BK254.out 3).trans rfl, (blk_cell BK254.out 4).trans rfl, (blk_cell BK254.out 5).trans rfl, (blk_cell BK254.out 6).trans rfl, (blk_cell BK254.out 7).trans rfl, (blk_cell BK254.out 8).trans rfl, (blk_cell BK254.out 9).trans rfl⟩ (fun hHeld => ?_); refine with_tabW packhorselaw10_OrderApart.tab5 packhorselaw10_OrderApart.bits5 (fun HT_ HW_ => ?_)
       generalize wc.drew = w45 at BK253 BK254 HB hHeld ⊢
       refine take_ (i := 0) (N := some 18) (v := ?_) (a' := ?_) (bs 8 1) rfl rfl (take_ofW HT_.out HW_.out (by kernel_rfl)) (fun _ _ _ h => h) (Or.inl ⟨by rfl, ?_⟩) hHeld ?_ ?_
       rotate_left
       ·rintro w' ⟨s0, s1, s2, s3, s4, s5, s6, s7, s8, s9, s10, s11, s12, s13, s14, s15, s16, s17, s18, s19⟩
        go_simp
        with_reducible rfl
       rotate_left
       ·simp only [Act.put, List.setIfInBounds_toArray, List.set_cons_zero, List.set_cons_succ, i64_w, i32_w]
        rfl
       refine take_ (i := 3) (N := some 21) (v := ?_) (a' := ?_) (bs 8 9) rfl rfl (take_ofW HT_.out HW_.out (by kernel_rfl)) (fun _ _ _ h => h) (Or.inl ⟨by rfl, ?_⟩) hHeld ?_ ?_
       rotate_left
       ·rintro w' ⟨s0, s1, s2, s3, s4, s5, s6, s7, s8, s9, s10, s11, s12, s13, s14, s15, s16, s17, s18, s19⟩
        go_simp
        with_reducible rfl
       rotate_left
       ·simp only [Act.put, List.setIfInBounds_toArray, List.set_cons_zero, List.set_cons_succ, i64_w, i32_w]
        rfl
       refine one_ (i := 1) (N := some 19) (bs 8 11) rfl rfl (one_of HT_.out (by kernel_rfl)) (by decide) (fun K hK => ?_)
       refine goes_ Tryd.func11 (by kernel_rfl) rfl #[.slice none 0 0, .agg #[.string a0_0, .slice A0_1 l0_1.length c0_1, .string a0_2, .string a0_3, .string a0_4, .int .i64 a0_5, .int .i64 a0_6, .bool a0_7, .int .i64 a0_8, .int .i64 a0_9]] (by rfl) rfl rfl ap1 ?_
       refine (order_Put.calls kj4 _ _ ([] : List Int) a0_0 _ _ l0_1 a0_2 a0_3 a0_4 a0_5 a0_6 a0_7 a0_8 a0_9 t258 _ ?side1 ?side2 ?side3 ?side4 A21.out).mono ?_
       (case side1 => exact Kd.C_nil _ _)
       (case side2 => exact Nat.le_refl _)
       (case side3 => exact cu (Kd.C_below HR0_1.out HB.out))
       (case side4 => exact HC0_1.out)
       rintro e w46 ⟨v259, rfl, ho0, hb⟩
       refine ⟨_, rfl, ?_⟩
       have n0_ := Aside0.mk (Kd.R_lower ho0 (below_size (beu HB.out))); have n1_ := Aside0.mk (blk_below (bu BK253.out) hb); have n2_ := Aside0.mk (blk_below (bu BK254.out) hb); have n3_ := Aside0.mk (below_step (beu HB.out) hb); clear BK253 BK254 HB; have HO260 := n0_; have BK253 := n1_; have BK254 := n2_; have HB := n3_; clear n0_ n1_ n2_ n3_
       (try clear hb)
       (try clear hb2)
       (try clear hk)
       (try clear hi)
       (try clear ho0)
       refine hK.out _ _ ⟨(blk_cell BK253.out 0).trans rfl, (blk_cell BK253.out 1).trans rfl, (blk_cell BK253.out 2).trans rfl, (blk_cell BK253.out 3).trans rfl, (blk_cell BK253.out 4).trans rfl, (blk_cell BK253.out 5).trans rfl, (blk_cell BK253.out 6).trans rfl, (blk_cell BK253.out 7).trans rfl, (blk_cell BK253.out 8).trans rfl, (blk_cell BK253.out 9).trans rfl, (blk_cell BK254.out 0).trans rfl, (blk_cell BK254.out 1).trans rfl, (blk_cell BK254.out 2).trans rfl, (blk_cell BK254.out 3).trans rfl, (blk_cell BK254.out 4).trans rfl, (blk_cell BK254.out 5).trans rfl, (blk_cell BK254.out 6).trans rfl, (blk_cell BK254.out 7).trans rfl, (blk_cell BK254.out 8).trans rfl, (blk_cell BK254.out 9).trans rfl⟩ (fun hHeld => ?_)
       clear hK K
       refine norm_ (a' := ?_) ?_ ?_
       rotate_left
       ·show Act.put _ (some 19) _ = _
        simp only [Act.put, List.setIfInBounds_toArray, List.set_cons_zero, List.set_cons_succ, i64_w, i32_w]
        rfl
       refine join_ (σ := Value) 1 #[true, true, true, true, true, true, true, false] (fun s_ => [(20, .string (strOfNums t258)), (22, s_), (23, .string (strOfNums t261)), (5, .string (strOfNums t258))]) (fun s_ w' => (w'.cell? ⟨gb253, 0, none⟩ = some (.string a0_0) ∧ w'.cell? ⟨gb253, 1, none⟩ = some (.slice A0_1 l0_1.length c0_1) ∧ w'.cell? ⟨gb253, 2, none⟩ = some (.string a0_2) ∧ w'.cell? ⟨gb253, 3, none⟩ = some (.string a0_3) ∧ w'.cell? ⟨gb253, 4, none⟩ = some (.string a0_4) ∧ w'.cell? ⟨gb253, 5, none⟩ = some (.int .i64 a0_5) ∧ w'.cell? ⟨gb253, 6, none⟩ = some (.int .i64 a0_6) ∧ w'.cell? ⟨gb253, 7, none⟩ = some (.bool a0_7) ∧ w'.cell? ⟨gb253, 8, none⟩ = some (.int .i64 a0_8) ∧ w'.cell? ⟨gb253, 9, none⟩ = some (.int .i64 a0_9) ∧ w'.cell? ⟨gb254, 0, none⟩ = some (.string a1_0) ∧ w'.cell? ⟨gb254, 1, none⟩ = some (.slice A1_1 l1_1.length c1_1) ∧ w'.cell? ⟨gb254, 2, none⟩ = some (.string a1_2) ∧ w'.cell? ⟨gb254, 3, none⟩ = some (.string a1_3) ∧ w'.cell? ⟨gb254, 4, none⟩ = some (.string a1_4) ∧ w'.cell? ⟨gb254, 5, none⟩ = some (.int .i64 a1_5) ∧ w'.cell? ⟨gb254, 6, none⟩ = some (.int .i64 a1_6) ∧ w'.cell? ⟨gb254, 7, none⟩ = some (.bool a1_7) ∧ w'.cell? ⟨gb254, 8, none⟩ = some (.int .i64 a1_8) ∧ w'.cell? ⟨gb254, 9, none⟩ = some (.int .i64 a1_9)) ∧ (Kd.R (Kd.int .u8) 5 w' w.heap.size (fun k_ => some k_ ≠ (s_ : Value).ownBlock) v259 t258) ∧ (Kd.R (Kd.int .u8) 5 w' w.heap.size (fun k_ => some k_ ≠ (v259 : Value).ownBlock) s_ t261) ∧ (w'.heap[gb253]? = some (.cells #[.string a0_0, .slice A0_1 l0_1.length c0_1, .string a0_2, .string a0_3, .string a0_4, .int .i64 a0_5, .int .i64 a0_6, .bool a0_7, .int .i64 a0_8, .int .i64 a0_9] 28 (0, 0))) ∧ (w'.heap[gb254]? = some (.cells #[.string a1_0, .slice A1_1 l1_1.length c1_1, .string a1_2, .string a1_3, .string a1_4, .int .i64 a1_5, .int .i64 a1_6, .bool a1_7, .int .i64 a1_8, .int .i64 a1_9] 28 (0, 0))) ∧ (Below w.heap.size w w')) ?_ ?_
       rotate_left
       ·intro hCont
        refine two_ (i := 2) (j := 4) (Ni := some 20) (Nj := some 22) #[true, true, true, true, false, false, false, false] #[true, true, false, true, true, false, false, false] rfl rfl rfl rfl (two_of HT_.out (by kernel_rfl)) (by decide) (by decide) (fun K hK => ?_) (fun K hK => ?_)
        ·skip
         have hcv47 := own_string (P := Tryd.prog) Tryd.underlying31 Tryd.underlying5 Tryd.underlying9 (Kd.own_of_R HO260.out)
         refine value_ (w1 := ?_) (v := ?_) (by rfl) rfl ?_ ?_
         rotate_left 2
         ·go_simp
          constructor
          ·rfl
          ·rfl
         clear hcv47
         refine hK.out _ _ ⟨(blk_cell BK253.out 0).trans rfl, (blk_cell BK253.out 1).trans rfl, (blk_cell BK253.out 2).trans rfl, (blk_cell BK253.out 3).trans rfl, (blk_cell BK253.out 4).trans rfl, (blk_cell BK253.out 5).trans rfl, (blk_cell BK253.out 6).trans rfl, (blk_cell BK253.out 7).trans rfl, (blk_cell BK253.out 8).trans rfl, (blk_cell BK253.out 9).trans rfl, (blk_cell BK254.out 0).trans rfl, (blk_cell BK254.out 1).trans rfl, (blk_cell BK254.out 2).trans rfl, (blk_cell BK254.out 3).trans rfl, (blk_cell BK254.out 4).trans rfl, (blk_cell BK254.out 5).trans rfl, (blk_cell BK254.out 6).trans rfl, (blk_cell BK254.out 7).trans rfl, (blk_cell BK254.out 8).trans rfl, (blk_cell BK254.out 9).trans rfl⟩ (fun hHeld => ?_)
         clear hK K
         refine norm_ (a' := ?_) ?_ ?_
         rotate_left
         ·show Act.put _ (some 20) _ = _
          simp only [Act.put, List.setIfInBounds_toArray, List.set_cons_zero, List.set_cons_succ, i64_w, i32_w]
          rfl
         refine one_ (i := 4) (N := some 22) (bs 8 31) rfl rfl (one_of HT_.out (by kernel_rfl)) (by decide) (fun K hK => ?_)
         refine goes_ Tryd.func11 (by kernel_rfl) rfl #[.slice none 0 0, .agg #[.string a1_0, .slice A1_1 l1_1.length c1_1, .string a1_2, .string a1_3, .string a1_4, .int .i64 a1_5, .int .i64 a1_6, .bool a1_7, .int .i64 a1_8, .int .i64 a1_9]] (by rfl) rfl rfl ap1 ?_
         refine (order_Put.calls kj4 _ _ ([] : List Int) a1_0 _ _ l1_1 a1_2 a1_3 a1_4 a1_5 a1_6 a1_7 a1_8 a1_9 t261 _ ?side1 ?side2 ?side3 ?side4 A22.out).mono ?_
         (case side1 => exact Kd.C_nil _ _)
         (case side2 => exact Nat.le_refl _)
         (case side3 => exact cu (Kd.C_below HR1_1.out HB.out))
         (case side4 => exact HC1_1.out)
         rintro e w48 ⟨v262, rfl, ho0, hb⟩
         refine ⟨_, rfl, ?_⟩
         have n0_ := Aside0.mk (Kd.R_elder' (ru HO260.out) (Kd.R_base ho0) hb); have n1_ := Aside0.mk (Kd.R_lower (Kd.R_new' ho0 (Kd.R_lt (ru HO260.out))) (below_size (beu HB.out))); have n2_ := Aside0.mk (blk_below (bu BK253.out) hb); have n3_ := Aside0.mk (blk_below (bu BK254.out) hb); have n4_ := Aside0.mk (below_step (beu HB.out) hb); clear HO260 BK253 BK254 HB; have HO260 := n0_; have HO263 := n1_; have BK253 := n2_; have BK254 := n3_; have HB := n4_; clear n0_ n1_ n2_ n3_ n4_
         (try clear hb)
         (try clear hb2)
         (try clear hk)
         (try clear hi)
         (try clear ho0)
         refine hK.out _ _ ⟨(blk_cell BK253.out 0).trans rfl, (blk_cell BK253.out 1).trans rfl, (blk_cell BK253.out 2).trans rfl, (blk_cell BK253.out 3).trans rfl, (blk_cell BK253.out 4).trans rfl, (blk_cell BK253.out 5).trans rfl, (blk_cell BK253.out 6).trans rfl, (blk_cell BK253.out 7).trans rfl, (blk_cell BK253.out 8).trans rfl, (blk_cell BK253.out 9).trans rfl, (blk_cell BK254.out 0).trans rfl, (blk_cell BK254.out 1).trans rfl, (blk_cell BK254.out 2).trans rfl, (blk_cell BK254.out 3).trans rfl, (blk_cell BK254.out 4).trans rfl, (blk_cell BK254.out 5).trans rfl, (blk_cell BK254.out 6).trans rfl, (blk_cell BK254.out 7).trans rfl, (blk_cell BK254.out 8).trans rfl, (blk_cell BK254.out 9).trans rfl⟩ (fun hHeld => ?_)
         clear hK K
         refine norm_ (a' := ?_) ?_ ?_
         rotate_left
         ·show Act.put _ (some 22) _ = _
          simp only [Act.put, List.setIfInBounds_toArray, List.set_cons_zero, List.set_cons_succ, i64_w, i32_w]
          rfl
         refine pure_ (i := 6) (N := some 5) (v := ?_) (a' := ?_) (bs 8 95) rfl rfl (any_of HT_.out (by kernel_rfl)) (fun _ _ _ h => h) (Or.inl ⟨by rfl, ?_⟩) ?_ ?_
         rotate_left
         ·intro w'
          go_simp
          with_reducible rfl
         rotate_left
         ·simp only [Act.put, List.setIfInBounds_toArray, List.set_cons_zero, List.set_cons_succ, i64_w, i32_w]
          rfl
         refine one_ (i := 5) (N := some 23) (bs 8 127) rfl rfl (one_of HT_.out (by kernel_rfl)) (by decide) (fun K hK => ?_)
         have hcv49 := own_string (P := Tryd.prog) Tryd.underlying31 Tryd.underlying5 Tryd.underlying9 (Kd.own_of_R HO263.out)
         refine value_ (w1 := ?_) (v := ?_) (by rfl) rfl ?_ ?_
         rotate_left 2
         ·go_simp
          constructor
          ·rfl
          ·rfl
         clear hcv49
         refine hK.out _ _ ⟨(blk_cell BK253.out 0).trans rfl, (blk_cell BK253.out 1).trans rfl, (blk_cell BK253.out 2).trans rfl, (blk_cell BK253.out 3).trans rfl, (blk_cell BK253.out 4).trans rfl, (blk_cell BK253.out 5).trans rfl, (blk_cell BK253.out 6).trans rfl, (blk_cell BK253.out 7).trans rfl, (blk_cell BK253.out 8).trans rfl, (blk_cell BK253.out 9).trans rfl, (blk_cell BK254.out 0).trans rfl, (blk_cell BK254.out 1).trans rfl, (blk_cell BK254.out 2).trans rfl, (blk_cell BK254.out 3).trans rfl, (blk_cell BK254.out 4).trans rfl, (blk_cell BK254.out 5).trans rfl, (blk_cell BK254.out 6).trans rfl, (blk_cell BK254.out 7).trans rfl, (blk_cell BK254.out 8).trans rfl, (blk_cell BK254.out 9).trans rfl⟩ (fun hHeld => ?_)
         clear hK K
         refine norm_ (a' := ?_) ?_ ?_
         rotate_left
         ·show Act.put _ (some 23) _ = _
          simp only [Act.put, List.setIfInBounds_toArray, List.set_cons_zero, List.set_cons_succ, i64_w, i32_w]
          rfl
         exact norm_ (by simp only [putAll, Act.put, List.setIfInBounds_toArray, List.set_cons_zero, List.set_cons_succ]) (hCont (v262) _ ⟨hHeld, (ru (Kd.R_mono HO260.out (fun _ hk => by first | exact hk.2 | exact trivial))), (ru (Kd.R_mono HO263.out (fun _ hk => by first | exact hk.2 | exact trivial))), (bu BK253.out), (bu BK254.out), (beu HB.out)⟩)
        ·skip
         refine goes_ Tryd.func11 (by kernel_rfl) rfl #[.slice none 0 0, .agg #[.string a1_0, .slice A1_1 l1_1.length c1_1, .string a1_2, .string a1_3, .string a1_4, .int .i64 a1_5, .int .i64 a1_6, .bool a1_7, .int .i64 a1_8, .int .i64 a1_9]] (by rfl) rfl rfl ap1 ?_
         refine (order_Put.calls kj4 _ _ ([] : List Int) a1_0 _ _ l1_1 a1_2 a1_3 a1_4 a1_5 a1_6 a1_7 a1_8 a1_9 t261 _ ?side1 ?side2 ?side3 ?side4 A22.out).mono ?_
         (case side1 => exact Kd.C_nil _ _)
         (case side2 => exact Nat.le_refl _)
         (case side3 => exact cu (Kd.C_below HR1_1.out HB.out))
         (case side4 => exact HC1_1.out)
         rintro e w47 ⟨v262, rfl, ho0, hb⟩
         refine ⟨_, rfl, ?_⟩
         have n0_ := Aside0.mk (Kd.R_elder' (ru HO260.out) (Kd.R_base ho0) hb); have n1_ := Aside0.mk (Kd.R_lower (Kd.R_new' ho0 (Kd.R_lt (ru HO260.out))) (below_size (beu HB.out))); have n2_ := Aside0.mk (blk_below (bu BK253.out) hb); have n3_ := Aside0.mk (blk_below (bu BK254.out) hb); have n4_ := Aside0.mk (below_step (beu HB.out) hb); clear HO260 BK253 BK254 HB; have HO260 := n0_; have HO263 := n1_; have BK253 := n2_; have BK254 := n3_; have HB := n4_; clear n0_ n1_ n2_ n3_ n4_
         (try clear hb)
         (try clear hb2)
         (try clear hk)
         (try clear hi)
         (try clear ho0)
         refine hK.out _ _ ⟨(blk_cell BK253.out 0).trans rfl, (blk_cell BK253.out 1).trans rfl, (blk_cell BK253.out 2).trans rfl, (blk_cell BK253.out 3).trans rfl, (blk_cell BK253.out 4).trans rfl, (blk_cell BK253.out 5).trans rfl, (blk_cell BK253.out 6).trans rfl, (blk_cell BK253.out 7).trans rfl, (blk_cell BK253.out 8).trans rfl, (blk_cell BK253.out 9).trans rfl, (blk_cell BK254.out 0).trans rfl, (blk_cell BK254.out 1).trans rfl, (blk_cell BK254.out 2).trans rfl, (blk_cell BK254.out 3).trans rfl, (blk_cell BK254.out 4).trans rfl, (blk_cell BK254.out 5).trans rfl, (blk_cell BK254.out 6).trans rfl, (blk_cell BK254.out 7).trans rfl, (blk_cell BK254.out 8).trans rfl, (blk_cell BK254.out 9).trans rfl⟩ (fun hHeld => ?_)
         clear hK K
         refine norm_ (a' := ?_) ?_ ?_
         rotate_left
         ·show Act.put _ (some 22) _ = _
          simp only [Act.put, List.setIfInBounds_toArray, List.set_cons_zero, List.set_cons_succ, i64_w, i32_w]
          rfl
         refine two_ (i := 2) (j := 5) (Ni := some 20) (Nj := some 23) #[true, true, true, true, true, false, false, false] #[true, true, false, true, true, true, false, false] rfl rfl rfl rfl (two_of HT_.out (by kernel_rfl)) (by decide) (by decide) (fun K hK => ?_) (fun K hK => ?_)
         ·skip
          have hcv48 := own_string (P := Tryd.prog) Tryd.underlying31 Tryd.underlying5 Tryd.underlying9 (Kd.own_of_R HO260.out)
          refine value_ (w1 := ?_) (v := ?_) (by rfl) rfl ?_ ?_
          rotate_left 2
          ·go_simp
           constructor
           ·rfl
           ·rfl
          clear hcv48
          refine hK.out _ _ ⟨(blk_cell BK253.out 0).trans rfl, (blk_cell BK253.out 1).trans rfl, (blk_cell BK253.out 2).trans rfl, (blk_cell BK253.out 3).trans rfl, (blk_cell BK253.out 4).trans rfl, (blk_cell BK253.out 5).trans rfl, (blk_cell BK253.out 6).trans rfl, (blk_cell BK253.out 7).trans rfl, (blk_cell BK253.out 8).trans rfl, (blk_cell BK253.out 9).trans rfl, (blk_cell BK254.out 0).trans rfl, (blk_cell BK254.out 1).trans rfl, (blk_cell BK254.out 2).trans rfl, (blk_cell BK254.out 3).trans rfl, (blk_cell BK254.out 4).trans rfl, (blk_cell BK254.out 5).trans rfl, (blk_cell BK254.out 6).trans rfl, (blk_cell BK254.out 7).trans rfl, (blk_cell BK254.out 8).trans rfl, (blk_cell BK254.out 9).trans rfl⟩ (fun hHeld => ?_)
          clear hK K
          refine norm_ (a' := ?_) ?_ ?_
          rotate_left
          ·show Act.put _ (some 20) _ = _
           simp only [Act.put, List.setIfInBounds_toArray, List.set_cons_zero, List.set_cons_succ, i64_w, i32_w]
           rfl
          refine pure_ (i := 6) (N := some 5) (v := ?_) (a' := ?_) (bs 8 95) rfl rfl (any_of HT_.out (by kernel_rfl)) (fun _ _ _ h => h) (Or.inl ⟨by rfl, ?_⟩) ?_ ?_
          rotate_left
          ·intro w'
           go_simp
           with_reducible rfl
          rotate_left
          ·simp only [Act.put, List.setIfInBounds_toArray, List.set_cons_zero, List.set_cons_succ, i64_w, i32_w]
           rfl
          refine one_ (i := 5) (N := some 23) (bs 8 127) rfl rfl (one_of HT_.out (by kernel_rfl)) (by decide) (fun K hK => ?_)
          have hcv49 := own_string (P := Tryd.prog) Tryd.underlying31 Tryd.underlying5 Tryd.underlying9 (Kd.own_of_R HO263.out)
          refine value_ (w1 := ?_) (v := ?_) (by rfl) rfl ?_ ?_
          rotate_left 2
          ·go_simp
           constructor
           ·rfl
           ·rfl
          clear hcv49
          refine hK.out _ _ ⟨(blk_cell BK253.out 0).trans rfl, (blk_cell BK253.out 1).trans rfl, (blk_cell BK253.out 2).trans rfl, (blk_cell BK253.out 3).trans rfl, (blk_cell BK253.out 4).trans rfl, (blk_cell BK253.out 5).trans rfl, (blk_cell BK253.out 6).trans rfl, (blk_cell BK253.out 7).trans rfl, (blk_cell BK253.out 8).trans rfl, (blk_cell BK253.out 9).trans rfl, (blk_cell BK254.out 0).trans rfl, (blk_cell BK254.out 1).trans rfl, (blk_cell BK254.out 2).trans rfl, (blk_cell BK254.out 3).trans rfl, (blk_cell BK254.out 4).trans rfl, (blk_cell BK254.out 5).trans rfl, (blk_cell BK254.out 6).trans rfl, (blk_cell BK254.out 7).trans rfl, (blk_cell BK254.out 8).trans rfl, (blk_cell BK254.out 9).trans rfl⟩ (fun hHeld => ?_)
          clear hK K
          refine norm_ (a' := ?_) ?_ ?_
          rotate_left
          ·show Act.put _ (some 23) _ = _
           simp only [Act.put, List.setIfInBounds_toArray, List.set_cons_zero, List.set_cons_succ, i64_w, i32_w]
           rfl
          exact norm_ (by simp only [putAll, Act.put, List.setIfInBounds_toArray, List.set_cons_zero, List.set_cons_succ]) (hCont (v262) _ ⟨hHeld, (ru (Kd.R_mono HO260.out (fun _ hk => by first | exact hk.2 | exact trivial))), (ru (Kd.R_mono HO263.out (fun _ hk => by first | exact hk.2 | exact trivial))), (bu BK253.out), (bu BK254.out), (beu HB.out)⟩)
         ·skip
          have hcv48 := own_string (P := Tryd.prog) Tryd.underlying31 Tryd.underlying5 Tryd.underlying9 (Kd.own_of_R HO263.out)
          refine value_ (w1 := ?_) (v := ?_) (by rfl) rfl ?_ ?_
          rotate_left 2
          ·go_simp
           constructor
           ·rfl
           ·rfl
          clear hcv48
          refine hK.out _ _ ⟨(blk_cell BK253.out 0).trans rfl, (blk_cell BK253.out 1).trans rfl, (blk_cell BK253.out 2).trans rfl, (blk_cell BK253.out 3).trans rfl, (blk_cell BK253.out 4).trans rfl, (blk_cell BK253.out 5).trans rfl, (blk_cell BK253.out 6).trans rfl, (blk_cell BK253.out 7).trans rfl, (blk_cell BK253.out 8).trans rfl, (blk_cell BK253.out 9).trans rfl, (blk_cell BK254.out 0).trans rfl, (blk_cell BK254.out 1).trans rfl, (blk_cell BK254.out 2).trans rfl, (blk_cell BK254.out 3).trans rfl, (blk_cell BK254.out 4).trans rfl, (blk_cell BK254.out 5).trans rfl, (blk_cell BK254.out 6).trans rfl, (blk_cell BK254.out 7).trans rfl, (blk_cell BK254.out 8).trans rfl, (blk_cell BK254.out 9).trans rfl⟩ (fun hHeld => ?_)
          clear hK K
          refine norm_ (a' := ?_) ?_ ?_
          rotate_left
          ·show Act.put _ (some 23) _ = _
           simp only [Act.put, List.setIfInBounds_toArray, List.set_cons_zero, List.set_cons_succ, i64_w, i32_w]
           rfl
          refine one_ (i := 2) (N := some 20) (bs 8 63) rfl rfl (one_of HT_.out (by kernel_rfl)) (by decide) (fun K hK => ?_)
          have hcv49 := own_string (P := Tryd.prog) Tryd.underlying31 Tryd.underlying5 Tryd.underlying9 (Kd.own_of_R HO260.out)
          refine value_ (w1 := ?_) (v := ?_) (by rfl) rfl ?_ ?_
          rotate_left 2
          ·go_simp
           constructor
           ·rfl
           ·rfl
          clear hcv49
          refine hK.out _ _ ⟨(blk_cell BK253.out 0).trans rfl, (blk_cell BK253.out 1).trans rfl, (blk_cell BK253.out 2).trans rfl, (blk_cell BK253.out 3).trans rfl, (blk_cell BK253.out 4).trans rfl, (blk_cell BK253.out 5).trans rfl, (blk_cell BK253.out 6).trans rfl, (blk_cell BK253.out 7).trans rfl, (blk_cell BK253.out 8).trans rfl, (blk_cell BK253.out 9).trans rfl, (blk_cell BK254.out 0).trans rfl, (blk_cell BK254.out 1).trans rfl, (blk_cell BK254.out 2).trans rfl, (blk_cell BK254.out 3).trans rfl, (blk_cell BK254.out 4).trans rfl, (blk_cell BK254.out 5).trans rfl, (blk_cell BK254.out 6).trans rfl, (blk_cell BK254.out 7).trans rfl, (blk_cell BK254.out 8).trans rfl, (blk_cell BK254.out 9).trans rfl⟩ (fun hHeld => ?_)
          clear hK K
          refine norm_ (a' := ?_) ?_ ?_
          rotate_left
          ·show Act.put _ (some 20) _ = _
           simp only [Act.put, List.setIfInBounds_toArray, List.set_cons_zero, List.set_cons_succ, i64_w, i32_w]
           rfl
          refine pure_ (i := 6) (N := some 5) (v := ?_) (a' := ?_) (bs 8 127) rfl rfl (any_of HT_.out (by kernel_rfl)) (fun _ _ _ h => h) (Or.inl ⟨by rfl, ?_⟩) ?_ ?_
          rotate_left
          ·intro w'
           go_simp
           with_reducible rfl
          rotate_left
          ·simp only [Act.put, List.setIfInBounds_toArray, List.set_cons_zero, List.set_cons_succ, i64_w, i32_w]
           rfl
          exact norm_ (by simp only [putAll, Act.put, List.setIfInBounds_toArray, List.set_cons_zero, List.set_cons_succ]) (hCont (v262) _ ⟨hHeld, (ru (Kd.R_mono HO260.out (fun _ hk => by first | exact hk.2 | exact trivial))), (ru (Kd.R_mono HO263.out (fun _ hk => by first | exact hk.2 | exact trivial))), (bu BK253.out), (bu BK254.out), (beu HB.out)⟩)
       rintro v262 w50 ⟨hS_, h0_, h1_, h2_, h3_, h4_⟩; have n0_ : Aside0 (Kd.R (Kd.int .u8) 5 w50 w.heap.size (fun k_ => some k_ ≠ (v262 : Value).ownBlock) v259 t258) := ⟨h0_⟩; have n1_ : Aside0 (Kd.R (Kd.int .u8) 5 w50 w.heap.size (fun k_ => some k_ ≠ (v259 : Value).ownBlock) v262 t261) := ⟨h1_⟩; have n2_ : Aside0 (w50.heap[gb253]? = some (.cells #[.string a0_0, .slice A0_1 l0_1.length c0_1, .string a0_2, .string a0_3, .string a0_4, .int .i64 a0_5, .int .i64 a0_6, .bool a0_7, .int .i64 a0_8, .int .i64 a0_9] 28 (0, 0))) := ⟨h2_⟩; have n3_ : Aside0 (w50.heap[gb254]? = some (.cells #[.string a1_0, .slice A1_1 l1_1.length c1_1, .string a1_2, .string a1_3, .string a1_4, .int .i64 a1_5, .int .i64 a1_6, .bool a1_7, .int .i64 a1_8, .int .i64 a1_9] 28 (0, 0))) := ⟨h3_⟩; have n4_ : Aside0 (Below w.heap.size w w50) := ⟨h4_⟩; clear BK253 BK254 HB h0_ h1_ h2_ h3_ h4_; have HO260 := n0_; have HO263 := n1_; have BK253 := n2_; have BK254 := n3_; have HB := n4_; clear n0_ n1_ n2_ n3_ n4_; have hHeld : w50.cell? ⟨gb253, 0, none⟩ = some (.string a0_0) ∧ w50.cell? ⟨gb253, 1, none⟩ = some (.slice A0_1 l0_1.length c0_1) ∧ w50.cell? ⟨gb253, 2, none⟩ = some (.string a0_2) ∧ w50.cell? ⟨gb253, 3, none⟩ = some (.string a0_3) ∧ w50.cell? ⟨gb253, 4, none⟩ = some (.string a0_4) ∧ w50.cell? ⟨gb253, 5, none⟩ = some (.int .i64 a0_5) ∧ w50.cell? ⟨gb253, 6, none⟩ = some (.int .i64 a0_6) ∧ w50.cell? ⟨gb253, 7, none⟩ = some (.bool a0_7) ∧ w50.cell? ⟨gb253, 8, none⟩ = some (.int .i64 a0_8) ∧ w50.cell? ⟨gb253, 9, none⟩ = some (.int .i64 a0_9) ∧ w50.cell? ⟨gb254, 0, none⟩ = some (.string a1_0) ∧ w50.cell? ⟨gb254, 1, none⟩ = some (.slice A1_1 l1_1.length c1_1) ∧ w50.cell? ⟨gb254, 2, none⟩ = some (.string a1_2) ∧ w50.cell? ⟨gb254, 3, none⟩ = some (.string a1_3) ∧ w50.cell? ⟨gb254, 4, none⟩ = some (.string a1_4) ∧ w50.cell? ⟨gb254, 5, none⟩ = some (.int .i64 a1_5) ∧ w50.cell? ⟨gb254, 6, none⟩ = some (.int .i64 a1_6) ∧ w50.cell? ⟨gb254, 7, none⟩ = some (.bool a1_7) ∧ w50.cell? ⟨gb254, 8, none⟩ = some (.int .i64 a1_8) ∧ w50.cell? ⟨gb254, 9, none⟩ = some (.int .i64 a1_9) := hS_
       refine norm_ (a' := ?_) ?_ ?_
       rotate_left
       ·simp only [putAll, Act.put, List.setIfInBounds_toArray, List.set_cons_zero, List.set_cons_succ]
        rfl
       refine pure_ (i := 7) (N := some 6) (v := ?_) (a' := ?_) (bs 8 255) rfl rfl (any_of HT_.out (by kernel_rfl)) (fun _ _ _ h => h) (Or.inl ⟨by rfl, ?_⟩) ?_ ?_
       rotate_left
       ·intro w'
        go_simp
        with_reducible rfl
       rotate_left
       ·simp only [Act.put, List.setIfInBounds_toArray, List.set_cons_zero, List.set_cons_succ, i64_w, i32_w]
        rfl
       refine done_ (done_of HT_.out (by kernel_rfl)) ?_
       have hnb51 := NB253_254.out; have hnc51 := NB254_253.out; obtain ⟨hcz52_0, hcz52_1, hcz52_2, hcz52_3, hcz52_4, hcz52_5, hcz52_6, hcz52_7, hcz52_8, hcz52_9⟩ := cells10 BK253.out; obtain ⟨hfz52_0, hfz52_1, hfz52_2, hfz52_3, hfz52_4, hfz52_5, hfz52_6, hfz52_7, hfz52_8, hfz52_9⟩ := frozens10 BK253.out; obtain ⟨hcz53_0, hcz53_1, hcz53_2, hcz53_3, hcz53_4, hcz53_5, hcz53_6, hcz53_7, hcz53_8, hcz53_9⟩ := cells10 BK254.out; obtain ⟨hfz53_0, hfz53_1, hfz53_2, hfz53_3, hfz53_4, hfz53_5, hfz53_6, hfz53_7, hfz53_8, hfz53_9⟩ := frozens10 BK254.out
       try go_wp2_with (first | ((with_reducible refine gate_callee (f := 12) rfl ?_); refine goesL_ (some 40) rfl rfl Tryd.func12 (by kernel_rfl) rfl #[.agg #[.string a0_0, .slice A0_1 l0_1.length c0_1, .string a0_2, .string a0_3, .string a0_4, .int .i64 a0_5, .int .i64 a0_6, .bool a0_7, .int .i64 a0_8, .int .i64 a0_9], .agg #[.string a1_0, .slice A1_1 l1_1.length c1_1, .string a1_2, .string a1_3, .string a1_4, .int .i64 a1_5, .int .i64 a1_6, .bool a1_7, .int .i64 a1_8, .int .i64 a1_9]] rfl ap1 ?_; (with_reducible refine (order_Same.calls kj4 a0_0 _ _ l0_1 a0_2 a0_3 a0_4 a0_5 a0_6 a0_7 a0_8 a0_9 a1_0 _ _ l1_1 a1_2 a1_3 a1_4 a1_5 a1_6 a1_7 a1_8 a1_9 t266 _ ?side1 ?side2 ?side3 ?side4 A42.out).mono ?_); (case side1 => exact cu (Kd.C_below HR0_1.out HB.out)); (case side2 => exact HC0_1.out); (case side3 => exact cu (Kd.C_below HR1_1.out HB.out)); (case side4 => exact HC1_1.out); rintro e w54 ⟨rfl, hb⟩; refine ⟨_, rfl, ?_⟩; have _ := Aside0.mk (Kd.R_below (ru HO260.out) hb); have _ := Aside0.mk (Kd.R_below (ru HO263.out) hb); have _ := Aside0.mk (blk_below (bu BK253.out) hb); have _ := Aside0.mk (blk_below (bu BK254.out) hb); have _ := Aside0.mk (below_step (beu HB.out) hb); clear HO260 HO263 BK253 BK254 HB; rename_i HO260 HO263 BK253 BK254 HB; (try clear hb); (try clear hb2); (try clear hk); (try clear hi); obtain ⟨hcz55_0, hcz55_1, hcz55_2, hcz55_3, hcz55_4, hcz55_5, hcz55_6, hcz55_7, hcz55_8, hcz55_9⟩ := cells10 BK253.out; obtain ⟨hfz55_0, hfz55_1, hfz55_2, hfz55_3, hfz55_4, hfz55_5, hfz55_6, hfz55_7, hfz55_8, hfz55_9⟩ := frozens10 BK253.out; obtain ⟨hcz56_0, hcz56_1, hcz56_2, hcz56_3, hcz56_4, hcz56_5, hcz56_6, hcz56_7, hcz56_8, hcz56_9⟩ := cells10 BK254.out; obtain ⟨hfz56_0, hfz56_1, hfz56_2, hfz56_3, hfz56_4, hfz56_5, hfz56_6, hfz56_7, hfz56_8, hfz56_9⟩ := frozens10 BK254.out) | (go_at_call 12; (with_reducible refine (order_Same.calls kj4 a0_0 _ _ l0_1 a0_2 a0_3 a0_4 a0_5 a0_6 a0_7 a0_8 a0_9 a1_0 _ _ l1_1 a1_2 a1_3 a1_4 a1_5 a1_6 a1_7 a1_8 a1_9 t267 _ ?side1 ?side2 ?side3 ?side4 A44.out).mono ?_); (case side1 => exact cu (Kd.C_below HR0_1.out HB.out)); (case side2 => exact HC0_1.out); (case side3 => exact cu (Kd.C_below HR1_1.out HB.out)); (case side4 => exact HC1_1.out); rintro e w57 ⟨rfl, hb⟩; have _ := Aside0.mk (Kd.R_below (ru HO260.out) hb); have _ := Aside0.mk (Kd.R_below (ru HO263.out) hb); have _ := Aside0.mk (blk_below (bu BK253.out) hb); have _ := Aside0.mk (blk_below (bu BK254.out) hb); have _ := Aside0.mk (below_step (beu HB.out) hb); clear HO260 HO263 BK253 BK254 HB; rename_i HO260 HO263 BK253 BK254 HB; (try clear hb); (try clear hb2); (try clear hk); (try clear hi)))
       go_ret
       exact ⟨ap4, beu HB.out⟩
      ·rw [if_neg c43] at H
       have c43b0 : (false == t266) = false := by simpa using c43
       (try (have c43b1 : decide (false = t266) = false := by simpa using c43))
       (try (have c43b2 : (false == t266) = false := by simpa using c43))
       (try (have c43b3 : ¬ (false = t266) := by simpa using c43))
       clear c43; obtain rfl := Option.some.inj H
       exact absurd HRT.out (by decide)
 ·replace c4 := Bool.eq_false_iff.mpr c4
  subst c4
  have H1 : (some false) = some r := by rw [if_neg (show ¬ (false = true) by decide)] at H; exact H
  clear H; have H := H1; clear H1; obtain rfl := Option.some.inj H
  exact absurd HRT.out (by decide)
mutual
def packhorseref01_sign.j0 : Nat → ByteArray → Int → Int → Bool → Option (Int × Bool)
 | 0, _, _, _, _ => none
 | k + 1, x0, x1, x6, x16 => if x16 = true then (some (1, true)) else (if x6 ≥ 48 then (if x6 ≤ 57 then (packhorseref01_sign.j1 k x0 x1 x6 true) else (packhorseref01_sign.j1 k x0 x1 x6 (x6 == 45))) else (packhorseref01_sign.j1 k x0 x1 x6 (x6 == 45)))
def packhorseref01_sign.j1 : Nat → ByteArray → Int → Int → Bool → Option (Int × Bool)
 | 0, _, _, _, _ => none
 | k + 1, x0, x1, x6, x26 => if x26 = true then (some (1, false)) else (if (wrap64 (x1 + 1)) ≥ (x0.size : Int) then (some (0, false)) else (if 0 ≤ (wrap64 (x1 + 1)) then (if (wrap64 (x1 + 1)) < (x0.size : Int) then (if x6 = 206 then (if (bt x0 (wrap64 (x1 + 1))) ≥ 177 then (if (bt x0 (wrap64 (x1 + 1))) ≤ 191 then (some (2, true)) else (if x6 = 207 then (if (bt x0 (wrap64 (x1 + 1))) ≥ 128 then (if (bt x0 (wrap64 (x1 + 1))) ≤ 137 then (some (2, true)) else (some (0, false))) else (some (0, false))) else (some (0, false)))) else (if x6 = 207 then (if (bt x0 (wrap64 (x1 + 1))) ≥ 128 then (if (bt x0 (wrap64 (x1 + 1))) ≤ 137 then (some (2, true)) else (some (0, false))) else (some (0, false))) else (some (0, false)))) else (if x6 = 207 then (if (bt x0 (wrap64 (x1 + 1))) ≥ 128 then (if (bt x0 (wrap64 (x1 + 1))) ≤ 137 then (some (2, true)) else (some (0, false))) else (some (0, false))) else (some (0, false)))) else (none)) else (none)))
end
def packhorseref01_sign.f (k : Nat) (a0 : ByteArray) (a1 : Int) : Option (Int × Bool) := if 0 ≤ a1 then (if a1 < (a0.size : Int) then (if (bt a0 a1) ≥ 97 then (packhorseref01_sign.j0 k a0 a1 (bt a0 a1) (decide ((bt a0 a1) ≤ 122))) else (packhorseref01_sign.j0 k a0 a1 (bt a0 a1) false)) else (none)) else (none)
theorem packhorseref01_sign.mono_l : ∀ k, (∀ y0 y1 y2 y3, LeO (packhorseref01_sign.j0 k y0 y1 y2 y3) (packhorseref01_sign.j0 (k + 1) y0 y1 y2 y3)) ∧ (∀ y0 y1 y2 y3, LeO (packhorseref01_sign.j1 k y0 y1 y2 y3) (packhorseref01_sign.j1 (k + 1) y0 y1 y2 y3))
 | 0 => ⟨fun _ _ _ _ r h => by simp [packhorseref01_sign.j0] at h, fun _ _ _ _ r h => by simp [packhorseref01_sign.j1] at h⟩
 | k + 1 => by
  obtain ⟨ih0, ih1⟩ := packhorseref01_sign.mono_l k
  refine ⟨?_, ?_⟩
  ·intro y0 y1 y2 y3
   unfold packhorseref01_sign.j0
   repeat' first
   | (with_reducible exact ih0 _ _ _ _)
   | (with_reducible exact ih1 _ _ _ _)
   | (with_reducible exact LeO.refl _)
   | (with_reducible exact LeO.none _)
   | (with_reducible refine LeO.ite ?_ ?_)
   | (with_reducible refine LeO.bind ?_ (fun _ => ?_))
   | exact ih0 _ _ _ _
   | exact ih1 _ _ _ _
   | exact LeO.none _
   | refine LeO.ite ?_ ?_
   | refine LeO.bind ?_ (fun _ => ?_)
  ·intro y0 y1 y2 y3
   unfold packhorseref01_sign.j1
   repeat' first
   | (with_reducible exact ih0 _ _ _ _)
   | (with_reducible exact ih1 _ _ _ _)
   | (with_reducible exact LeO.refl _)
   | (with_reducible exact LeO.none _)
   | (with_reducible refine LeO.ite ?_ ?_)
   | (with_reducible refine LeO.bind ?_ (fun _ => ?_))
   | exact ih0 _ _ _ _
   | exact ih1 _ _ _ _
   | exact LeO.none _
   | refine LeO.ite ?_ ?_
   | refine LeO.bind ?_ (fun _ => ?_)
set_option maxHeartbeats 8000000 in
set_option maxRecDepth 100000 in
theorem packhorseref01_sign.calls (k : Nat) (a0 : ByteArray) (a1 : Int) (r1 : Int) (r2 : Bool) (w : World) (h : packhorseref01_sign.f k a0 a1 = some (r1, r2)) :
  Calls Tryd.prog 60 #[.string a0, .int .i64 a1] w fun e w' => e = .returned (.tuple #[.int .i64 r1, .bool r2]) ∧ Drawn0 w w' := by
 have H : (if 0 ≤ a1 then (if a1 < (a0.size : Int) then (if (bt a0 a1) ≥ 97 then (packhorseref01_sign.j0 k a0 a1 (bt a0 a1) (decide ((bt a0 a1) ≤ 122))) else (packhorseref01_sign.j0 k a0 a1 (bt a0 a1) false)) else (none)) else (none)) = some (r1, r2) := h; clear h
 by_cases c3 : 0 ≤ a1
 ·rw [if_pos c3] at H
  have c3b0 : decide (0 ≤ a1) = true := decide_eq_true c3; clear c3
  by_cases c4 : a1 < (a0.size : Int)
  ·rw [if_pos c4] at H
   have c4b0 : decide (a1 < (a0.size : Int)) = true := decide_eq_true c4; clear c4; have HC6 := Aside0.mk H; clear H; have p5 : 0 ≤ (a1 : Int) := of_decide_eq_true ap2; have q5 : a1 < (a0.size : Int) := of_decide_eq_true ap2; have hx5 := bt_at a0 a1; replace p5 := eq_true p5; replace q5 := eq_true q5
   go_enter Tryd.func60, Tryd.ntmps60
   go_upto_region 2 with (fail)
   go_cut [16] (fun v16 wc => ∃ (kq : Nat) (x16_5 : Bool), v16 = .bool x16_5 ∧ Aside0 (packhorseref01_sign.j0 kq a0 a1 (bt a0 a1) x16_5 = some (r1, r2)) ∧ Aside0 (kq ≤ k) ∧ Drawn0 w wc)
   case first =>
    have H := HC6.out; clear HC6
    by_cases c7 : (bt a0 a1) ≥ 97
    ·rw [if_pos c7] at H
     have c7b0 : decide (97 ≤ (bt a0 a1)) = true := decide_eq_true c7; clear c7
     (first | rw [c7b0] | (simp only [i64_w, i32_w]; rw [c7b0]) | skip)
     have H' := Aside0.mk H; clear H
     go_wp2
     go_meet
     case rel => exact ⟨_, (decide ((bt a0 a1) ≤ 122)), ap3, H', ⟨by first | omega | exact Nat.le_refl _⟩, ap5⟩
    ·rw [if_neg c7] at H
     have c7b0 : decide (97 ≤ (bt a0 a1)) = false := decide_eq_false c7; clear c7
     (first | rw [c7b0] | (simp only [i64_w, i32_w]; rw [c7b0]) | skip)
     have H' := Aside0.mk H; clear H
     go_wp2
     go_meet
     case rel => exact ⟨_, (false), ap3, H', ⟨by first | omega | exact Nat.le_refl _⟩, ap5⟩
   case rest =>
    clear HC6; (try clear p2); (try clear c3); (try clear c3b0); (try clear c4); (try clear c4b0); (try clear p5); (try clear q5); (try clear hx5); (try clear c6); (try clear c7); (try clear c7b0); (try clear p5); (try clear q5); obtain ⟨kq, x16_5, rfl, HA, HJ5, ⟨mc5, rfl⟩⟩ := hcut
    cases kq with
    | zero => exact absurd HA.out (by simp [packhorseref01_sign.j0])
    | succ kj5 =>
     have H := HA.out; clear HA; simp only [packhorseref01_sign.j0] at H
     by_cases c8 : x16_5 = true
     ·subst c8
      have H1 : (some (1, true)) = some (r1, r2) := by rw [if_pos rfl] at H; exact H
      clear H; have H := H1; clear H1; simp only [Option.some.injEq, Prod.mk.injEq] at H; obtain ⟨rfl, rfl⟩ := H
      go_wp2
      go_ret2
      exact ⟨ap3, ap5⟩
     ·replace c8 := Bool.eq_false_iff.mpr c8
      subst c8
      have H1 : (if (bt a0 a1) ≥ 48 then (if (bt a0 a1) ≤ 57 then (packhorseref01_sign.j1 kj5 a0 a1 (bt a0 a1) true) else (packhorseref01_sign.j1 kj5 a0 a1 (bt a0 a1) ((bt a0 a1) == 45))) else (packhorseref01_sign.j1 kj5 a0 a1 (bt a0 a1) ((bt a0 a1) == 45))) = some (r1, r2) := by rw [if_neg (show ¬ (false = true) by decide)] at H; exact H
      clear H; have H := H1; clear H1; have HC9 := Aside0.mk H; clear H
      go_upto_region 4 with (fail)
      go_cut [26] (fun v26 wc => ∃ (kq : Nat) (x26_8 : Bool), v26 = .bool x26_8 ∧ Aside0 (packhorseref01_sign.j1 kq a0 a1 (bt a0 a1) x26_8 = some (r1, r2)) ∧ Aside0 (kq ≤ kj5) ∧ Drawn0 w wc)
      case first =>
       have H := HC9.out; clear HC9
       by_cases c10 : (bt a0 a1) ≥ 48
       ·rw [if_pos c10] at H
        have c10b0 : decide (48 ≤ (bt a0 a1)) = true := decide_eq_true c10; clear c10
        (first | rw [c10b0] | (simp only [i64_w, i32_w]; rw [c10b0]) | skip)
        by_cases c11 : (bt a0 a1) ≤ 57
        ·rw [if_pos c11] at H
         have c11b0 : decide ((bt a0 a1) ≤ 57) = true := decide_eq_true c11; clear c11; have H' := Aside0.mk H; clear H
         go_wp2
         go_meet
         case rel => exact ⟨_, (true), ap3, H', ⟨by have := HJ5.out; first | omega | exact Nat.le_refl _⟩, ap5⟩
        ·rw [if_neg c11] at H
         have c11b0 : decide ((bt a0 a1) ≤ 57) = false := decide_eq_false c11; clear c11; have H' := Aside0.mk H; clear H
         go_wp2
         go_meet
         case rel => exact ⟨_, (((bt a0 a1) == 45)), ap3, H', ⟨by have := HJ5.out; first | omega | exact Nat.le_refl _⟩, ap5⟩
       ·rw [if_neg c10] at H
        have c10b0 : decide (48 ≤ (bt a0 a1)) = false := decide_eq_false c10; clear c10
        (first | rw [c10b0] | (simp only [i64_w, i32_w]; rw [c10b0]) | skip)
        have H' := Aside0.mk H; clear H
        go_wp2
        go_meet
        case rel => exact ⟨_, (((bt a0 a1) == 45)), ap3, H', ⟨by have := HJ5.out; first | omega | exact Nat.le_refl _⟩, ap5⟩
      case rest =>
       clear HC9; (try clear c1); (try clear p2); (try clear c3); (try clear c3b0); (try clear c4); (try clear c4b0); (try clear c5); (try clear p5); (try clear q5); (try clear hx5); (try clear c6); (try clear c7); (try clear c7b0); (try clear c8); (try clear c10); (try clear c10b0); (try clear c11); (try clear c11b0); (try clear p2); (try clear p5); (try clear q5); obtain ⟨kq, x26_8, rfl, HA, HJ8, ⟨mc8, rfl⟩⟩ := hcut
       cases kq with
       | zero => exact absurd HA.out (by simp [packhorseref01_sign.j1])
       | succ kj8 =>
        have H := HA.out; clear HA; simp only [packhorseref01_sign.j1] at H
        by_cases c12 : x26_8 = true
        ·subst c12
         have H1 : (some (1, false)) = some (r1, r2) := by rw [if_pos rfl] at H; exact H
         clear H; have H := H1; clear H1; simp only [Option.some.injEq, Prod.mk.injEq] at H; obtain ⟨rfl, rfl⟩ := H
         go_wp2
         go_ret2
         exact ⟨ap3, ap5⟩
        ·replace c12 := Bool.eq_false_iff.mpr c12
         subst c12
         have H1 : (if (wrap64 (a1 + 1)) ≥ (a0.size : Int) then (some (0, false)) else (if 0 ≤ (wrap64 (a1 + 1)) then (if (wrap64 (a1 + 1)) < (a0.size : Int) then (if (bt a0 a1) = 206 then (if (bt a0 (wrap64 (a1 + 1))) ≥ 177 then (if (bt a0 (wrap64 (a1 + 1))) ≤ 191 then (some (2, true)) else (if (bt a0 a1) = 207 then (if (bt a0 (wrap64 (a1 + 1))) ≥ 128 then (if (bt a0 (wrap64 (a1 + 1))) ≤ 137 then (some (2, true)) else (some (0, false))) else (some (0, false))) else (some (0, false)))) else (if (bt a0 a1) = 207 then (if (bt a0 (wrap64 (a1 + 1))) ≥ 128 then (if (bt a0 (wrap64 (a1 + 1))) ≤ 137 then (some (2, true)) else (some (0, false))) else (some (0, false))) else (some (0, false)))) else (if (bt a0 a1) = 207 then (if (bt a0 (wrap64 (a1 + 1))) ≥ 128 then (if (bt a0 (wrap64 (a1 + 1))) ≤ 137 then (some (2, true)) else (some (0, false))) else (some (0, false))) else (some (0, false)))) else (none)) else (none))) = some (r1, r2) := by rw [if_neg (show ¬ (false = true) by decide)] at H; exact H
         clear H; have H := H1; clear H1
         by_cases c13 : (wrap64 (a1 + 1)) ≥ (a0.size : Int)
         ·rw [if_pos c13] at H
          have c13b0 : decide ((a0.size : Int) ≤ (wrap64 (a1 + 1))) = true := decide_eq_true c13; clear c13; simp only [Option.some.injEq, Prod.mk.injEq] at H; obtain ⟨rfl, rfl⟩ := H
          go_wp2
          go_ret2
          exact ⟨ap3, ap5⟩
         ·rw [if_neg c13] at H
          have c13b0 : decide ((a0.size : Int) ≤ (wrap64 (a1 + 1))) = false := decide_eq_false c13; clear c13; obtain ⟨ji14, hji14⟩ : ∃ j_ : Int, (wrap64 (a1 + 1)) = j_ := ⟨_, rfl⟩
          replace H : (if 0 ≤ (ji14) then (if (ji14) < (a0.size : Int) then (if (bt a0 a1) = 206 then (if (bt a0 (ji14)) ≥ 177 then (if (bt a0 (ji14)) ≤ 191 then (some (2, true)) else (if (bt a0 a1) = 207 then (if (bt a0 (ji14)) ≥ 128 then (if (bt a0 (ji14)) ≤ 137 then (some (2, true)) else (some (0, false))) else (some (0, false))) else (some (0, false)))) else (if (bt a0 a1) = 207 then (if (bt a0 (ji14)) ≥ 128 then (if (bt a0 (ji14)) ≤ 137 then (some (2, true)) else (some (0, false))) else (some (0, false))) else (some (0, false)))) else (if (bt a0 a1) = 207 then (if (bt a0 (ji14)) ≥ 128 then (if (bt a0 (ji14)) ≤ 137 then (some (2, true)) else (some (0, false))) else (some (0, false))) else (some (0, false)))) else (none)) else (none)) = some (r1, r2) := by first | (rw [hji14] at H; exact H) | (simp only [hji14] at H ⊢; exact H)
          (try rw [hji14] at c13b0)
          have hji14w : (IntKind.i64.wrap (a1 + 1)) = ji14 := (i64_w _).trans hji14
          by_cases c15 : 0 ≤ (ji14)
          ·rw [if_pos c15] at H
           have c15b0 : decide (0 ≤ (ji14)) = true := decide_eq_true c15; clear c15
           by_cases c16 : (ji14) < (a0.size : Int)
           ·rw [if_pos c16] at H
            have c16b0 : decide ((ji14) < (a0.size : Int)) = true := decide_eq_true c16; clear c16
            by_cases c18 : (bt a0 a1) = 206
            ·rw [if_pos c18] at H
             have c18b0 : ((bt a0 a1) == 206) = true := beq_iff_eq.mpr c18; have c18b1 : ((bt a0 a1) != 206) = false := bne_eq_false_iff_eq.mpr c18; clear c18
             by_cases c19 : (bt a0 (ji14)) ≥ 177
             ·rw [if_pos c19] at H
              have c19b0 : decide (177 ≤ (bt a0 (ji14))) = true := decide_eq_true c19; clear c19
              by_cases c20 : (bt a0 (ji14)) ≤ 191
              ·rw [if_pos c20] at H
               have c20b0 : decide ((bt a0 (ji14)) ≤ 191) = true := decide_eq_true c20; clear c20; simp only [Option.some.injEq, Prod.mk.injEq] at H; obtain ⟨rfl, rfl⟩ := H; have p17 : 0 ≤ ((ji14) : Int) := of_decide_eq_true ap2; have q17 : (ji14) < (a0.size : Int) := of_decide_eq_true ap2; have hx17 := bt_at a0 (ji14); replace p17 := eq_true p17; replace q17 := eq_true q17
               go_wp2
               go_ret2
               exact ⟨by first | rfl | (simp; done) | (simp only [← hji14] <;> (first | rfl | simp)) | (simp [*]; done), ap5⟩
              ·rw [if_neg c20] at H
               have c20b0 : decide ((bt a0 (ji14)) ≤ 191) = false := decide_eq_false c20; clear c20
               by_cases c21 : (bt a0 a1) = 207
               ·rw [if_pos c21] at H
                have c21b0 : ((bt a0 a1) == 207) = true := beq_iff_eq.mpr c21; have c21b1 : ((bt a0 a1) != 207) = false := bne_eq_false_iff_eq.mpr c21; clear c21
                by_cases c22 : (bt a0 (ji14)) ≥ 128
                ·rw [if_pos c22] at H
                 have c22b0 : decide (128 ≤ (bt a0 (ji14))) = true := decide_eq_true c22; clear c22
                 by_cases c23 : (bt a0 (ji14)) ≤ 137
                 ·rw [if_pos c23] at H
                  have c23b0 : decide ((bt a0 (ji14)) ≤ 137) = true := decide_eq_true c23; clear c23; simp only [Option.some.injEq, Prod.mk.injEq] at H; obtain ⟨rfl, rfl⟩ := H; have p17 : 0 ≤ ((ji14) : Int) := of_decide_eq_true ap2; have q17 : (ji14) < (a0.size : Int) := of_decide_eq_true ap2; have hx17 := bt_at a0 (ji14); replace p17 := eq_true p17; replace q17 := eq_true q17
                  go_wp2
                  go_ret2
                  exact ⟨by first | rfl | (simp; done) | (simp only [← hji14] <;> (first | rfl | simp)) | (simp [*]; done), ap5⟩
                 ·rw [if_neg c23] at H
                  have c23b0 : decide ((bt a0 (ji14)) ≤ 137) = false := decide_eq_false c23; clear c23; simp only [Option.some.injEq, Prod.mk.injEq] at H; obtain ⟨rfl, rfl⟩ := H; have p17 : 0 ≤ ((ji14) : Int) := of_decide_eq_true ap2; have q17 : (ji14) < (a0.size : Int) := of_decide_eq_true ap2; have hx17 := bt_at a0 (ji14); replace p17 := eq_true p17; replace q17 := eq_true q17
                  go_wp2
                  go_ret2
                  exact ⟨by first | rfl | (simp; done) | (simp only [← hji14] <;> (first | rfl | simp)) | (simp [*]; done), ap5⟩
                ·rw [if_neg c22] at H
                 have c22b0 : decide (128 ≤ (bt a0 (ji14))) = false := decide_eq_false c22; clear c22; simp only [Option.some.injEq, Prod.mk.injEq] at H; obtain ⟨rfl, rfl⟩ := H; have p17 : 0 ≤ ((ji14) : Int) := of_decide_eq_true ap2; have q17 : (ji14) < (a0.size : Int) := of_decide_eq_true ap2; have hx17 := bt_at a0 (ji14); replace p17 := eq_true p17; replace q17 := eq_true q17
                 go_wp2
                 go_ret2
                 exact ⟨by first | rfl | (simp; done) | (simp only [← hji14] <;> (first | rfl | simp)) | (simp [*]; done), ap5⟩
               ·rw [if_neg c21] at H
                have c21b0 : ((bt a0 a1) == 207) = false := beq_eq_false_iff_ne.mpr c21; have c21b1 : ((bt a0 a1) != 207) = true := bne_iff_ne.mpr c21; simp only [Option.some.injEq, Prod.mk.injEq] at H; obtain ⟨rfl, rfl⟩ := H; have p17 : 0 ≤ ((ji14) : Int) := of_decide_eq_true ap2; have q17 : (ji14) < (a0.size : Int) := of_decide_eq_true ap2; have hx17 := bt_at a0 (ji14); replace p17 := eq_true p17; replace q17 := eq_true q17
                go_wp2
                go_ret2
                exact ⟨by first | rfl | (simp; done) | (simp only [← hji14] <;> (first | rfl | simp)) | (simp [*]; done), ap5⟩
             ·rw [if_neg c19] at H
              have c19b0 : decide (177 ≤ (bt a0 (ji14))) = false := decide_eq_false c19; clear c19
              by_cases c24 : (bt a0 a1) = 207
              ·rw [if_pos c24] at H
               have c24b0 : ((bt a0 a1) == 207) = true := beq_iff_eq.mpr c24; have c24b1 : ((bt a0 a1) != 207) = false := bne_eq_false_iff_eq.mpr c24; clear c24
               by_cases c25 : (bt a0 (ji14)) ≥ 128
               ·rw [if_pos c25] at H
                have c25b0 : decide (128 ≤ (bt a0 (ji14))) = true := decide_eq_true c25; clear c25
                by_cases c26 : (bt a0 (ji14)) ≤ 137
                ·rw [if_pos c26] at H
                 have c26b0 : decide ((bt a0 (ji14)) ≤ 137) = true := decide_eq_true c26; clear c26; simp only [Option.some.injEq, Prod.mk.injEq] at H; obtain ⟨rfl, rfl⟩ := H; have p17 : 0 ≤ ((ji14) : Int) := of_decide_eq_true ap2; have q17 : (ji14) < (a0.size : Int) := of_decide_eq_true ap2; have hx17 := bt_at a0 (ji14); replace p17 := eq_true p17; replace q17 := eq_true q17
                 go_wp2
                 go_ret2
                 exact ⟨by first | rfl | (simp; done) | (simp only [← hji14] <;> (first | rfl | simp)) | (simp [*]; done), ap5⟩
                ·rw [if_neg c26] at H
                 have c26b0 : decide ((bt a0 (ji14)) ≤ 137) = false := decide_eq_false c26; clear c26; simp only [Option.some.injEq, Prod.mk.injEq] at H; obtain ⟨rfl, rfl⟩ := H; have p17 : 0 ≤ ((ji14) : Int) := of_decide_eq_true ap2; have q17 : (ji14) < (a0.size : Int) := of_decide_eq_true ap2; have hx17 := bt_at a0 (ji14); replace p17 := eq_true p17; replace q17 := eq_true q17
                 go_wp2
                 go_ret2
                 exact ⟨by first | rfl | (simp; done) | (simp only [← hji14] <;> (first | rfl | simp)) | (simp [*]; done), ap5⟩
               ·rw [if_neg c25] at H
                have c25b0 : decide (128 ≤ (bt a0 (ji14))) = false := decide_eq_false c25; clear c25; simp only [Option.some.injEq, Prod.mk.injEq] at H; obtain ⟨rfl, rfl⟩ := H; have p17 : 0 ≤ ((ji14) : Int) := of_decide_eq_true ap2; have q17 : (ji14) < (a0.size : Int) := of_decide_eq_true ap2; have hx17 := bt_at a0 (ji14); replace p17 := eq_true p17; replace q17 := eq_true q17
                go_wp2
                go_ret2
                exact ⟨by first | rfl | (simp; done) | (simp only [← hji14] <;> (first | rfl | simp)) | (simp [*]; done), ap5⟩
              ·rw [if_neg c24] at H
               have c24b0 : ((bt a0 a1) == 207) = false := beq_eq_false_iff_ne.mpr c24; have c24b1 : ((bt a0 a1) != 207) = true := bne_iff_ne.mpr c24; simp only [Option.some.injEq, Prod.mk.injEq] at H; obtain ⟨rfl, rfl⟩ := H; have p17 : 0 ≤ ((ji14) : Int) := of_decide_eq_true ap2; have q17 : (ji14) < (a0.size : Int) := of_decide_eq_true ap2; have hx17 := bt_at a0 (ji14); replace p17 := eq_true p17; replace q17 := eq_true q17
               go_wp2
               go_ret2
               exact ⟨by first | rfl | (simp; done) | (simp only [← hji14] <;> (first | rfl | simp)) | (simp [*]; done), ap5⟩
            ·rw [if_neg c18] at H
             have c18b0 : ((bt a0 a1) == 206) = false := beq_eq_false_iff_ne.mpr c18; have c18b1 : ((bt a0 a1) != 206) = true := bne_iff_ne.mpr c18
             by_cases c27 : (bt a0 a1) = 207
             ·rw [if_pos c27] at H
              have c27b0 : ((bt a0 a1) == 207) = true := beq_iff_eq.mpr c27; have c27b1 : ((bt a0 a1) != 207) = false := bne_eq_false_iff_eq.mpr c27; clear c27
              by_cases c28 : (bt a0 (ji14)) ≥ 128
              ·rw [if_pos c28] at H
               have c28b0 : decide (128 ≤ (bt a0 (ji14))) = true := decide_eq_true c28; clear c28
               by_cases c29 : (bt a0 (ji14)) ≤ 137
               ·rw [if_pos c29] at H
                have c29b0 : decide ((bt a0 (ji14)) ≤ 137) = true := decide_eq_true c29; clear c29; simp only [Option.some.injEq, Prod.mk.injEq] at H; obtain ⟨rfl, rfl⟩ := H; have p17 : 0 ≤ ((ji14) : Int) := of_decide_eq_true ap2; have q17 : (ji14) < (a0.size : Int) := of_decide_eq_true ap2; have hx17 := bt_at a0 (ji14); replace p17 := eq_true p17; replace q17 := eq_true q17
                go_wp2
                go_ret2
                exact ⟨by first | rfl | (simp; done) | (simp only [← hji14] <;> (first | rfl | simp)) | (simp [*]; done), ap5⟩
               ·rw [if_neg c29] at H
                have c29b0 : decide ((bt a0 (ji14)) ≤ 137) = false := decide_eq_false c29; clear c29; simp only [Option.some.injEq, Prod.mk.injEq] at H; obtain ⟨rfl, rfl⟩ := H; have p17 : 0 ≤ ((ji14) : Int) := of_decide_eq_true ap2; have q17 : (ji14) < (a0.size : Int) := of_decide_eq_true ap2; have hx17 := bt_at a0 (ji14); replace p17 := eq_true p17; replace q17 := eq_true q17
                go_wp2
                go_ret2
                exact ⟨by first | rfl | (simp; done) | (simp only [← hji14] <;> (first | rfl | simp)) | (simp [*]; done), ap5⟩
              ·rw [if_neg c28] at H
               have c28b0 : decide (128 ≤ (bt a0 (ji14))) = false := decide_eq_false c28; clear c28; simp only [Option.some.injEq, Prod.mk.injEq] at H; obtain ⟨rfl, rfl⟩ := H; have p17 : 0 ≤ ((ji14) : Int) := of_decide_eq_true ap2; have q17 : (ji14) < (a0.size : Int) := of_decide_eq_true ap2; have hx17 := bt_at a0 (ji14); replace p17 := eq_true p17; replace q17 := eq_true q17
               go_wp2
               go_ret2
               exact ⟨by first | rfl | (simp; done) | (simp only [← hji14] <;> (first | rfl | simp)) | (simp [*]; done), ap5⟩
             ·rw [if_neg c27] at H
              have c27b0 : ((bt a0 a1) == 207) = false := beq_eq_false_iff_ne.mpr c27; have c27b1 : ((bt a0 a1) != 207) = true := bne_iff_ne.mpr c27; simp only [Option.some.injEq, Prod.mk.injEq] at H; obtain ⟨rfl, rfl⟩ := H; have p17 : 0 ≤ ((ji14) : Int) := of_decide_eq_true ap2; have q17 : (ji14) < (a0.size : Int) := of_decide_eq_true ap2; have hx17 := bt_at a0 (ji14); replace p17 := eq_true p17; replace q17 := eq_true q17
              go_wp2
              go_ret2
              exact ⟨by first | rfl | (simp; done) | (simp only [← hji14] <;> (first | rfl | simp)) | (simp [*]; done), ap5⟩
           ·rw [if_neg c16] at H
            exact absurd H (by simp)
          ·rw [if_neg c15] at H
           exact absurd H (by simp)
  ·rw [if_neg c4] at H
   exact absurd H (by simp)
 ·rw [if_neg c3] at H
  exact absurd H (by simp)
def packhorseref01_Signs.l0 : Nat → ByteArray → List ByteArray → Int → Option (List ByteArray)
 | 0, _, _, _ => none
 | k + 1, x0, x3, x4 => if x4 < (x0.size : Int) then ((packhorseref01_sign.f k x0 x4).bind fun bt271 => (if bt271.1 = 0 then (some ([] : List ByteArray)) else (if (x3.length : Int) = 0 then (if bt271.2 = true then (if (x3.length : Int) = 16 then (some ([] : List ByteArray)) else (if 0 ≤ x4 then (if x4 ≤ (wrap64 (x4 + bt271.1)) then (if (wrap64 (x4 + bt271.1)) ≤ (x0.size : Int) then (if x3.length < 8796093022208 then (packhorseref01_Signs.l0 k x0 (x3 ++ [x0.extract (x4 : Int).toNat ((wrap64 (x4 + bt271.1)) : Int).toNat]) (wrap64 (x4 + bt271.1))) else (none)) else (none)) else (none)) else (none))) else (some ([] : List ByteArray))) else (if (x3.length : Int) = 16 then (some ([] : List ByteArray)) else (if 0 ≤ x4 then (if x4 ≤ (wrap64 (x4 + bt271.1)) then (if (wrap64 (x4 + bt271.1)) ≤ (x0.size : Int) then (if x3.length < 8796093022208 then (packhorseref01_Signs.l0 k x0 (x3 ++ [x0.extract (x4 : Int).toNat ((wrap64 (x4 + bt271.1)) : Int).toNat]) (wrap64 (x4 + bt271.1))) else (none)) else (none)) else (none)) else (none)))))) else (some x3)
def packhorseref01_Signs.f (k : Nat) (a0 : ByteArray) : Option (List ByteArray) := packhorseref01_Signs.l0 k a0 (([] : List ByteArray)) 0
set_option maxHeartbeats 8000000 in
set_option maxRecDepth 100000 in
theorem packhorseref01_Signs.calls (k : Nat) (a0 : ByteArray) (r : List ByteArray) (w : World) (h : packhorseref01_Signs.f k a0 = some r) :
  Calls Tryd.prog 53 #[.string a0] w fun e w' => ∃ v0_ : Value, e = .returned (v0_) ∧ Kd.R Kd.string 9 w' w.heap.size (fun _ => True) v0_ r ∧ Below w.heap.size w w' := by
 have HB := Aside0.mk (Below.refl w.heap.size w); have H : (packhorseref01_Signs.l0 k a0 (([] : List ByteArray)) 0) = some r := h; clear h; obtain ⟨y268, hy268⟩ : ∃ y_ : List ByteArray, y_ = (([] : List ByteArray)) := ⟨_, rfl⟩
 replace H : (packhorseref01_Signs.l0 k a0 y268 0) = some r := by first | (rw [hy268]; with_reducible exact H) | (have H2_ := (Option.bind_some _ _).symm.trans H; rw [hy268]; with_reducible exact H2_) | (have H2_ := (Option.bind_some _ _).symm.trans H; with_reducible exact H2_) | with_reducible exact H | (rw [hy268]; exact H) | exact H
 have Ny268 := Aside0.mk hy268; clear hy268; have H' := Aside0.mk H; clear H
 go_enter Tryd.func53, Tryd.ntmps53
 go_wp2_with (first | ((with_reducible refine gate_dst (N := 7) rfl ?_); (try (refine gate_guard (by rfl) ?_; dsimp only)); refine Kd.R_lit Kd.string _ 9 ?hg (N := 7) ?hd (xs := ([] : List ByteArray)) (inner := []) (ok := fun _ => True) (okp := fun _ => True) ?hr ?hp (fun _ hk => hk) trivial (Below.refl _ _) (Nat.le_refl _) (by simp) ?_; (case hd => rfl); (case hg => rfl); (case hr => first | (go_simp; done) | (go_simp; rfl)); (case hp => exact (Reps.none _ _)); intro v269 w2 ho3 hb hg_ hnew_; clear hg_ hnew_; (first | rw [← Ny268.out] at ho3 | (simp only [Int.reduceToNat] at ho3; rw [← Ny268.out] at ho3)); have _ := Aside0.mk (Kd.R_lower ho3 (below_size (beu HB.out))); have _ := Aside0.mk (below_step (beu HB.out) hb); clear HB; rename_i HO270 HB; clear hb ho3))
 go_loopg [3, 4] k (fun kq v3 v4 w' => ∃ (x3_1 : List ByteArray) (x4_1 : Int), v4 = .int .i64 x4_1 ∧ Aside0 (packhorseref01_Signs.l0 kq a0 x3_1 x4_1 = some r) ∧ Aside0 (kq ≤ k) ∧ Aside0 (Kd.R Kd.string 9 w' w.heap.size (fun _ => True) v3 x3_1) ∧ Aside0 (Below w.heap.size w w'))
 case atStart => exact ⟨(y268), (0), ap3, H', ⟨Nat.le_refl _⟩, ⟨ru HO270.out⟩, ⟨beu HB.out⟩⟩
 case round =>
  clear H'; (try clear p2); obtain ⟨x3_1, x4_1, rfl, HA, HK1, HO_3, HB⟩ := hrel
  cases gk with
  | zero => exact absurd HA.out (by simp [packhorseref01_Signs.l0])
  | succ k1 =>
   have H := HA.out; clear HA; simp only [packhorseref01_Signs.l0] at H
   by_cases c4 : x4_1 < (a0.size : Int)
   ·rw [if_pos c4] at H
    have c4b0 : decide (x4_1 < (a0.size : Int)) = true := decide_eq_true c4; clear c4; replace H := obm H; obtain ⟨⟨t271, t272⟩, A50, H⟩ := H; replace H : (if t271 = 0 then (some ([] : List ByteArray)) else (if (x3_1.length : Int) = 0 then (if t272 = true then (if (x3_1.length : Int) = 16 then (some ([] : List ByteArray)) else (if 0 ≤ x4_1 then (if x4_1 ≤ (wrap64 (x4_1 + t271)) then (if (wrap64 (x4_1 + t271)) ≤ (a0.size : Int) then (if x3_1.length < 8796093022208 then (packhorseref01_Signs.l0 k1 a0 (x3_1 ++ [a0.extract (x4_1 : Int).toNat ((wrap64 (x4_1 + t271)) : Int).toNat]) (wrap64 (x4_1 + t271))) else (none)) else (none)) else (none)) else (none))) else (some ([] : List ByteArray))) else (if (x3_1.length : Int) = 16 then (some ([] : List ByteArray)) else (if 0 ≤ x4_1 then (if x4_1 ≤ (wrap64 (x4_1 + t271)) then (if (wrap64 (x4_1 + t271)) ≤ (a0.size : Int) then (if x3_1.length < 8796093022208 then (packhorseref01_Signs.l0 k1 a0 (x3_1 ++ [a0.extract (x4_1 : Int).toNat ((wrap64 (x4_1 + t271)) : Int).toNat]) (wrap64 (x4_1 + t271))) else (none)) else (none)) else (none)) else (none))))) = some r := H; have A5 := Aside0.mk A50; clear A50
    by_cases c6 : t271 = 0
    ·rw [if_pos c6] at H
     have c6b0 : (t271 == 0) = true := beq_iff_eq.mpr c6; have c6b1 : (t271 != 0) = false := bne_eq_false_iff_eq.mpr c6; clear c6; obtain rfl := Option.some.inj H; simp only [Option.some.injEq, Prod.mk.injEq] at H; obtain ⟨rfl⟩ := H
     go_wp2_with (first | ((with_reducible refine gate_callee (f := 60) rfl ?_); refine goesL_ (some 15) rfl rfl Tryd.func60 (by kernel_rfl) rfl #[.string a0, .int .i64 x4_1] rfl ap1 ?_; (with_reducible refine (packhorseref01_sign.calls k1 a0 x4_1 t271 t272 _ A5.out).mono ?_); rintro e w' ⟨rfl, ⟨nd, rfl⟩⟩; refine ⟨_, rfl, ?_⟩))
     go_ret
     exact ⟨_, ap4, by first | exact Kd.R_nil _ _ _ _ _ | exact Kd.N_nil _ _ _ _ _ | exact Kd.V_nil _ _ _ _ _ | exact Kd.Q_nil _ _ _ _ _ | exact Kd.S_nil _ _ _ _ _, beu HB.out⟩
    ·rw [if_neg c6] at H
     have c6b0 : (t271 == 0) = false := beq_eq_false_iff_ne.mpr c6; have c6b1 : (t271 != 0) = true := bne_iff_ne.mpr c6
     by_cases c7 : (x3_1.length : Int) = 0
     ·rw [if_pos c7] at H
      have c7b0 : ((x3_1.length : Int) == 0) = true := beq_iff_eq.mpr c7; have c7b1 : ((x3_1.length : Int) != 0) = false := bne_eq_false_iff_eq.mpr c7; clear c7
      by_cases c8 : t272 = true
      ·subst c8
       have H1 : (if (x3_1.length : Int) = 16 then (some ([] : List ByteArray)) else (if 0 ≤ x4_1 then (if x4_1 ≤ (wrap64 (x4_1 + t271)) then (if (wrap64 (x4_1 + t271)) ≤ (a0.size : Int) then (if x3_1.length < 8796093022208 then (packhorseref01_Signs.l0 k1 a0 (x3_1 ++ [a0.extract (x4_1 : Int).toNat ((wrap64 (x4_1 + t271)) : Int).toNat]) (wrap64 (x4_1 + t271))) else (none)) else (none)) else (none)) else (none))) = some r := by rw [if_pos rfl] at H; exact H
       clear H; have H := H1; clear H1
       by_cases c9 : (x3_1.length : Int) = 16
       ·rw [if_pos c9] at H
        have c9b0 : ((x3_1.length : Int) == 16) = true := beq_iff_eq.mpr c9; have c9b1 : ((x3_1.length : Int) != 16) = false := bne_eq_false_iff_eq.mpr c9; clear c9; obtain rfl := Option.some.inj H; simp only [Option.some.injEq, Prod.mk.injEq] at H; obtain ⟨rfl⟩ := H
        go_wp2_with (first | ((with_reducible refine gate_callee (f := 60) rfl ?_); refine goesL_ (some 15) rfl rfl Tryd.func60 (by kernel_rfl) rfl #[.string a0, .int .i64 x4_1] rfl ap1 ?_; (with_reducible refine (packhorseref01_sign.calls k1 a0 x4_1 t271 true _ A5.out).mono ?_); rintro e w' ⟨rfl, ⟨nd, rfl⟩⟩; refine ⟨_, rfl, ?_⟩; obtain ⟨Ao10, co10, eo10⟩ := Kd.R_slice HO_3.out; subst eo10))
        go_ret
        exact ⟨_, ap4, by first | exact Kd.R_nil _ _ _ _ _ | exact Kd.N_nil _ _ _ _ _ | exact Kd.V_nil _ _ _ _ _ | exact Kd.Q_nil _ _ _ _ _ | exact Kd.S_nil _ _ _ _ _, beu HB.out⟩
       ·rw [if_neg c9] at H
        have c9b0 : ((x3_1.length : Int) == 16) = false := beq_eq_false_iff_ne.mpr c9; have c9b1 : ((x3_1.length : Int) != 16) = true := bne_iff_ne.mpr c9
        by_cases c11 : 0 ≤ x4_1
        ·rw [if_pos c11] at H
         have c11b0 := eq_true c11; have c11b1 : decide (0 ≤ x4_1) = true := decide_eq_true c11; clear c11
         by_cases c12 : x4_1 ≤ (wrap64 (x4_1 + t271))
         ·rw [if_pos c12] at H
          have c12b0 := eq_true c12; have c12b1 : decide (x4_1 ≤ (wrap64 (x4_1 + t271))) = true := decide_eq_true c12
          by_cases c13 : (wrap64 (x4_1 + t271)) ≤ (a0.size : Int)
          ·rw [if_pos c13] at H
           have c13b0 := eq_true c13; have c13b1 : decide ((wrap64 (x4_1 + t271)) ≤ (a0.size : Int)) = true := decide_eq_true c13
           by_cases c14 : x3_1.length < 8796093022208
           ·rw [if_pos c14] at H
            have LMc14 := Aside0.mk c14; clear c14; obtain ⟨y273, hy273⟩ : ∃ y_ : List ByteArray, y_ = (x3_1 ++ [a0.extract (x4_1 : Int).toNat ((wrap64 (x4_1 + t271)) : Int).toNat]) := ⟨_, rfl⟩
            replace H : (packhorseref01_Signs.l0 k1 a0 y273 (wrap64 (x4_1 + t271))) = some r := by first | (rw [hy273]; with_reducible exact H) | (have H2_ := (Option.bind_some _ _).symm.trans H; rw [hy273]; with_reducible exact H2_) | (have H2_ := (Option.bind_some _ _).symm.trans H; with_reducible exact H2_) | with_reducible exact H | (rw [hy273]; exact H) | exact H
            have Ny273 := Aside0.mk hy273; clear hy273; have H' := Aside0.mk H; clear H
            go_wp2_with (first | ((with_reducible refine gate_callee (f := 60) rfl ?_); refine goesL_ (some 15) rfl rfl Tryd.func60 (by kernel_rfl) rfl #[.string a0, .int .i64 x4_1] rfl ap1 ?_; (with_reducible refine (packhorseref01_sign.calls k1 a0 x4_1 t271 true _ A5.out).mono ?_); rintro e w' ⟨rfl, ⟨nd, rfl⟩⟩; refine ⟨_, rfl, ?_⟩; obtain ⟨Ao15, co15, eo15⟩ := Kd.R_slice HO_3.out; subst eo15) | ((with_reducible refine gate_builtin (b := .append) (xs := #[.tmp 34, .tmp 41]) rfl ?_); (try (refine gate_guard (by rfl) ?_; dsimp only)); at_builtin; refine Kd.R_append Kd.string (w0 := w) w.heap.size rfl (.tmp 34) (.tmp 41) 53 9 (.string ⟨#[]⟩) 16 rfl Tryd.underlying53 info9 rfl (by decide) (by omega) (.slice Ao15 x3_1.length co15) x3_1 (a0.extract (x4_1 : Int).toNat ((wrap64 (x4_1 + t271)) : Int).toNat) [.string (a0.extract (x4_1 : Int).toNat ((wrap64 (x4_1 + t271)) : Int).toNat)] (fun _ => True) (fun _ => False) rfl rfl ?aP (fun _ hk => hk.elim) ?aF ?aO ?aB ?aS ?aL ?_; (case aP => exact rfl); (case aB => exact (beu HB.out)); (case aF => exact (fun _ _ => trivial)); (case aO => exact (ru HO_3.out)); (case aS => exact (below_size (beu HB.out))); (case aL => have := LMc14.out; omega); intro v274 w16 ho hb hg hat; rw [← Ny273.out] at ho; have _ := Aside0.mk (hb); have _ := Aside0.mk (ho); clear HB HO_3; rename_i HB HO275; clear ho hb hg hat))
            go_roundg k1
            case measure => have := HK1.out; omega
            case rel => exact ⟨(y273), (wrap64 (x4_1 + t271)), ap3, H', ⟨by have := HK1.out; omega⟩, ⟨ru HO275.out⟩, ⟨beu HB.out⟩⟩
           ·rw [if_neg c14] at H
            exact absurd H (by simp)
          ·rw [if_neg c13] at H
           exact absurd H (by simp)
         ·rw [if_neg c12] at H
          exact absurd H (by simp)
        ·rw [if_neg c11] at H
         exact absurd H (by simp)
      ·replace c8 := Bool.eq_false_iff.mpr c8
       subst c8
       have H1 : (some ([] : List ByteArray)) = some r := by rw [if_neg (show ¬ (false = true) by decide)] at H; exact H
       clear H; have H := H1; clear H1; obtain rfl := Option.some.inj H; simp only [Option.some.injEq, Prod.mk.injEq] at H; obtain ⟨rfl⟩ := H
       go_wp2_with (first | ((with_reducible refine gate_callee (f := 60) rfl ?_); refine goesL_ (some 15) rfl rfl Tryd.func60 (by kernel_rfl) rfl #[.string a0, .int .i64 x4_1] rfl ap1 ?_; (with_reducible refine (packhorseref01_sign.calls k1 a0 x4_1 t271 false _ A5.out).mono ?_); rintro e w' ⟨rfl, ⟨nd, rfl⟩⟩; refine ⟨_, rfl, ?_⟩; obtain ⟨Ao17, co17, eo17⟩ := Kd.R_slice HO_3.out; subst eo17))
       go_ret
       exact ⟨_, ap4, by first | exact Kd.R_nil _ _ _ _ _ | exact Kd.N_nil _ _ _ _ _ | exact Kd.V_nil _ _ _ _ _ | exact Kd.Q_nil _ _ _ _ _ | exact Kd.S_nil _ _ _ _ _, beu HB.out⟩
     ·rw [if_neg c7] at H
      have c7b0 : ((x3_1.length : Int) == 0) = false := beq_eq_false_iff_ne.mpr c7; have c7b1 : ((x3_1.length : Int) != 0) = true := bne_iff_ne.mpr c7
      have c7b2 : ¬ (x3_1 = []) := fun h_ => c7 (by rw [h_]; rfl)
      by_cases c18 : (x3_1.length : Int) = 16
      ·rw [if_pos c18] at H
       have c18b0 : ((x3_1.length : Int) == 16) = true := beq_iff_eq.mpr c18; have c18b1 : ((x3_1.length : Int) != 16) = false := bne_eq_false_iff_eq.mpr c18; clear c18; obtain rfl := Option.some.inj H; simp only [Option.some.injEq, Prod.mk.injEq] at H; obtain ⟨rfl⟩ := H
       go_wp2_with (first | ((with_reducible refine gate_callee (f := 60) rfl ?_); refine goesL_ (some 15) rfl rfl Tryd.func60 (by kernel_rfl) rfl #[.string a0, .int .i64 x4_1] rfl ap1 ?_; (with_reducible refine (packhorseref01_sign.calls k1 a0 x4_1 t271 t272 _ A5.out).mono ?_); rintro e w' ⟨rfl, ⟨nd, rfl⟩⟩; refine ⟨_, rfl, ?_⟩; obtain ⟨Ao19, co19, eo19⟩ := Kd.R_slice HO_3.out; subst eo19))
       go_ret
       exact ⟨_, ap4, by first | exact Kd.R_nil _ _ _ _ _ | exact Kd.N_nil _ _ _ _ _ | exact Kd.V_nil _ _ _ _ _ | exact Kd.Q_nil _ _ _ _ _ | exact Kd.S_nil _ _ _ _ _, beu HB.out⟩
      ·rw [if_neg c18] at H
       have c18b0 : ((x3_1.length : Int) == 16) = false := beq_eq_false_iff_ne.mpr c18; have c18b1 : ((x3_1.length : Int) != 16) = true := bne_iff_ne.mpr c18
       by_cases c20 : 0 ≤ x4_1
       ·rw [if_pos c20] at H
        have c20b0 := eq_true c20; have c20b1 : decide (0 ≤ x4_1) = true := decide_eq_true c20; clear c20
        by_cases c21 : x4_1 ≤ (wrap64 (x4_1 + t271))
        ·rw [if_pos c21] at H
         have c21b0 := eq_true c21; have c21b1 : decide (x4_1 ≤ (wrap64 (x4_1 + t271))) = true := decide_eq_true c21
         by_cases c22 : (wrap64 (x4_1 + t271)) ≤ (a0.size : Int)
         ·rw [if_pos c22] at H
          have c22b0 := eq_true c22; have c22b1 : decide ((wrap64 (x4_1 + t271)) ≤ (a0.size : Int)) = true := decide_eq_true c22
          by_cases c23 : x3_1.length < 8796093022208
          ·rw [if_pos c23] at H
           have LMc23 := Aside0.mk c23; clear c23; obtain ⟨y276, hy276⟩ : ∃ y_ : List ByteArray, y_ = (x3_1 ++ [a0.extract (x4_1 : Int).toNat ((wrap64 (x4_1 + t271)) : Int).toNat]) := ⟨_, rfl⟩
           replace H : (packhorseref01_Signs.l0 k1 a0 y276 (wrap64 (x4_1 + t271))) = some r := by first | (rw [hy276]; with_reducible exact H) | (have H2_ := (Option.bind_some _ _).symm.trans H; rw [hy276]; with_reducible exact H2_) | (have H2_ := (Option.bind_some _ _).symm.trans H; with_reducible exact H2_) | with_reducible exact H | (rw [hy276]; exact H) | exact H
           have Ny276 := Aside0.mk hy276; clear hy276; have H' := Aside0.mk H; clear H
           go_wp2_with (first | ((with_reducible refine gate_callee (f := 60) rfl ?_); refine goesL_ (some 15) rfl rfl Tryd.func60 (by kernel_rfl) rfl #[.string a0, .int .i64 x4_1] rfl ap1 ?_; (with_reducible refine (packhorseref01_sign.calls k1 a0 x4_1 t271 t272 _ A5.out).mono ?_); rintro e w' ⟨rfl, ⟨nd, rfl⟩⟩; refine ⟨_, rfl, ?_⟩; obtain ⟨Ao24, co24, eo24⟩ := Kd.R_slice HO_3.out; subst eo24) | ((with_reducible refine gate_builtin (b := .append) (xs := #[.tmp 34, .tmp 41]) rfl ?_); (try (refine gate_guard (by rfl) ?_; dsimp only)); at_builtin; refine Kd.R_append Kd.string (w0 := w) w.heap.size rfl (.tmp 34) (.tmp 41) 53 9 (.string ⟨#[]⟩) 16 rfl Tryd.underlying53 info9 rfl (by decide) (by omega) (.slice Ao24 x3_1.length co24) x3_1 (a0.extract (x4_1 : Int).toNat ((wrap64 (x4_1 + t271)) : Int).toNat) [.string (a0.extract (x4_1 : Int).toNat ((wrap64 (x4_1 + t271)) : Int).toNat)] (fun _ => True) (fun _ => False) rfl rfl ?aP (fun _ hk => hk.elim) ?aF ?aO ?aB ?aS ?aL ?_; (case aP => exact rfl); (case aB => exact (beu HB.out)); (case aF => exact (fun _ _ => trivial)); (case aO => exact (ru HO_3.out)); (case aS => exact (below_size (beu HB.out))); (case aL => have := LMc23.out; omega); intro v277 w25 ho hb hg hat; rw [← Ny276.out] at ho; have _ := Aside0.mk (hb); have _ := Aside0.mk (ho); clear HB HO_3; rename_i HB HO278; clear ho hb hg hat))
           go_roundg k1
           case measure => have := HK1.out; omega
           case rel => exact ⟨(y276), (wrap64 (x4_1 + t271)), ap3, H', ⟨by have := HK1.out; omega⟩, ⟨ru HO278.out⟩, ⟨beu HB.out⟩⟩
          ·rw [if_neg c23] at H
           exact absurd H (by simp)
         ·rw [if_neg c22] at H
          exact absurd H (by simp)
        ·rw [if_neg c21] at H
         exact absurd H (by simp)
       ·rw [if_neg c20] at H
        exact absurd H (by simp)
   ·rw [if_neg c4] at H
    have c4b0 : decide (x4_1 < (a0.size : Int)) = false := decide_eq_false c4; clear c4; obtain rfl := Option.some.inj H; simp only [Option.some.injEq, Prod.mk.injEq] at H; obtain ⟨rfl⟩ := H
    go_wp2
    go_ret
    exact ⟨_, ap4, ru HO_3.out, beu HB.out⟩
def packhorseref01_Right.f (k : Nat) (a0 : ByteArray) : Option (Bool) := (packhorseref01_Signs.f k a0).bind fun t279 => (some (decide ((t279.length : Int) > 0)))
set_option maxHeartbeats 8000000 in
set_option maxRecDepth 100000 in
theorem packhorseref01_Right.calls (k : Nat) (a0 : ByteArray) (r : Bool) (w : World) (h : packhorseref01_Right.f k a0 = some r) :
  Calls Tryd.prog 36 #[.string a0] w fun e w' => e = .returned (.bool r) ∧ Below w.heap.size w w' := by
 have HB := Aside0.mk (Below.refl w.heap.size w); have H : ((packhorseref01_Signs.f k a0).bind fun t279 => (some (decide ((t279.length : Int) > 0)))) = some r := h; clear h; replace H := obm H; obtain ⟨t279, A20, H⟩ := H; replace H : (some (decide ((t279.length : Int) > 0))) = some r := H; have A2 := Aside0.mk A20; clear A20; obtain rfl := Option.some.inj H; simp only [Option.some.injEq, Prod.mk.injEq] at H; obtain ⟨rfl⟩ := H
 go_enter Tryd.func36, Tryd.ntmps36
 go_wp2_with (first | ((with_reducible refine gate_callee (f := 53) rfl ?_); refine goesL_ (some 4) rfl rfl Tryd.func53 (by kernel_rfl) rfl #[.string a0] rfl ap1 ?_; (with_reducible refine (packhorseref01_Signs.calls k a0 t279 _ A2.out).mono ?_); rintro e w3 ⟨v280, rfl, ho0, hb⟩; refine ⟨_, rfl, ?_⟩; have _ := Aside0.mk (Kd.R_lower ho0 (below_size (beu HB.out))); have _ := Aside0.mk (below_step (beu HB.out) hb); clear HB; rename_i HO281 HB; (try clear hb); (try clear hb2); (try clear hk); (try clear hi); (try clear ho0); obtain ⟨Ao4, co4, eo4⟩ := Kd.R_slice HO281.out; subst eo4))
 go_ret
 exact ⟨ap4, beu HB.out⟩
def packhorseref10_Group.f (k : Nat) (a0_0 : ByteArray) (a0_1 : ByteArray) (a0_2 : ByteArray) : Option (Bool) := (packhorseref01_Right.f k a0_0).bind fun t283 => (if t283 = true then ((packhorseref01_Right.f k a0_1).bind fun t284 => (if t284 = true then ((packhorseref01_Right.f k a0_2).bind fun t285 => (some t285)) else (some false))) else (some false))
set_option maxHeartbeats 8000000 in
set_option maxRecDepth 100000 in
theorem packhorseref10_Group.calls (k : Nat) (a0_0 : ByteArray) (a0_1 : ByteArray) (a0_2 : ByteArray) (r : Bool) (w : World) (h : packhorseref10_Group.f k a0_0 a0_1 a0_2 = some r) :
  Calls Tryd.prog 37 #[.agg #[.string a0_0, .string a0_1, .string a0_2]] w fun e w' => e = .returned (.bool r) ∧ Below w.heap.size w w' := by
 have hu24 := Tryd.underlying24; have HB := Aside0.mk (Below.refl w.heap.size w); have H : ((packhorseref01_Right.f k a0_0).bind fun t283 => (if t283 = true then ((packhorseref01_Right.f k a0_1).bind fun t284 => (if t284 = true then ((packhorseref01_Right.f k a0_2).bind fun t285 => (some t285)) else (some false))) else (some false))) = some r := h; clear h; replace H := obm H; obtain ⟨t283, A20, H⟩ := H; replace H : (if t283 = true then ((packhorseref01_Right.f k a0_1).bind fun t284 => (if t284 = true then ((packhorseref01_Right.f k a0_2).bind fun t285 => (some t285)) else (some false))) else (some false)) = some r := H; have A2 := Aside0.mk A20; clear A20
 by_cases c3 : t283 = true
 ·subst c3
  have H1 : ((packhorseref01_Right.f k a0_1).bind fun t284 => (if t284 = true then ((packhorseref01_Right.f k a0_2).bind fun t285 => (some t285)) else (some false))) = some r := by rw [if_pos rfl] at H; exact H
  clear H; have H := H1; clear H1; replace H := obm H; obtain ⟨t284, A40, H⟩ := H; replace H : (if t284 = true then ((packhorseref01_Right.f k a0_2).bind fun t285 => (some t285)) else (some false)) = some r := H; have A4 := Aside0.mk A40; clear A40
  by_cases c5 : t284 = true
  ·subst c5
   have H1 : ((packhorseref01_Right.f k a0_2).bind fun t285 => (some t285)) = some r := by rw [if_pos rfl] at H; exact H
   clear H; have H := H1; clear H1; replace H := obm H; obtain ⟨t285, A60, H⟩ := H; replace H : (some t285) = some r := H; have A6 := Aside0.mk A60; clear A60; obtain rfl := Option.some.inj H; simp only [Option.some.injEq, Prod.mk.injEq] at H; obtain ⟨rfl⟩ := H
   go_enter Tryd.func37, Tryd.ntmps37
   go_wp2_with (first | ((with_reducible refine gate_dst (N := 1) rfl ?_); refine box_event ?hg (N := 1) ?hd (cs := #[.string a0_0, .string a0_1, .string a0_2]) (t := 24) ?hr ?_; (case hd => rfl); (case hg => rfl); (case hr => first | (go_simp; done) | (go_simp; rfl)); intro gb282 hg w7 hbox hb; have _ := Aside0.mk (below_step (beu HB.out) hb); have _ := Aside0.mk (hbox); have _ := Aside0.mk ((by rw [hg]; exact (below_size (beu HB.out)) : w.heap.size ≤ gb282)); have _ := Aside0.mk ((by rw [hg]; exact (below_size (beu HB.out)) : w.heap.size ≤ gb282)); clear HB; rename_i HB BK282 GW282 GE282; clear hb hbox hg; obtain ⟨hcz8_0, hcz8_1, hcz8_2⟩ := cells3 BK282.out; obtain ⟨hfz8_0, hfz8_1, hfz8_2⟩ := frozens3 BK282.out) | ((with_reducible refine gate_callee (f := 36) rfl ?_); refine goesL_ (some 5) rfl rfl Tryd.func36 (by kernel_rfl) rfl #[.string a0_0] rfl ap1 ?_; (with_reducible refine (packhorseref01_Right.calls k a0_0 true _ A2.out).mono ?_); rintro e w9 ⟨rfl, hb⟩; refine ⟨_, rfl, ?_⟩; have _ := Aside0.mk (blk_below (bu BK282.out) hb); have _ := Aside0.mk (below_step (beu HB.out) hb); clear BK282 HB; rename_i BK282 HB; (try clear hb); (try clear hb2); (try clear hk); (try clear hi); obtain ⟨hcz10_0, hcz10_1, hcz10_2⟩ := cells3 BK282.out; obtain ⟨hfz10_0, hfz10_1, hfz10_2⟩ := frozens3 BK282.out) | (go_at_call 36; (with_reducible refine (packhorseref01_Right.calls k a0_1 true _ A4.out).mono ?_); rintro e w11 ⟨rfl, hb⟩; have _ := Aside0.mk (blk_below (bu BK282.out) hb); have _ := Aside0.mk (below_step (beu HB.out) hb); clear BK282 HB; rename_i BK282 HB; (try clear hb); (try clear hb2); (try clear hk); (try clear hi); obtain ⟨hcz12_0, hcz12_1, hcz12_2⟩ := cells3 BK282.out; obtain ⟨hfz12_0, hfz12_1, hfz12_2⟩ := frozens3 BK282.out) | (go_at_call 36; (with_reducible refine (packhorseref01_Right.calls k a0_2 t285 _ A6.out).mono ?_); rintro e w13 ⟨rfl, hb⟩; have _ := Aside0.mk (blk_below (bu BK282.out) hb); have _ := Aside0.mk (below_step (beu HB.out) hb); clear BK282 HB; rename_i BK282 HB; (try clear hb); (try clear hb2); (try clear hk); (try clear hi)))
   go_ret
   exact ⟨ap4, beu HB.out⟩
  ·replace c5 := Bool.eq_false_iff.mpr c5
   subst c5
   have H1 : (some false) = some r := by rw [if_neg (show ¬ (false = true) by decide)] at H; exact H
   clear H; have H := H1; clear H1; obtain rfl := Option.some.inj H; simp only [Option.some.injEq, Prod.mk.injEq] at H; obtain ⟨rfl⟩ := H
   go_enter Tryd.func37, Tryd.ntmps37
   go_wp2_with (first | ((with_reducible refine gate_dst (N := 1) rfl ?_); refine box_event ?hg (N := 1) ?hd (cs := #[.string a0_0, .string a0_1, .string a0_2]) (t := 24) ?hr ?_; (case hd => rfl); (case hg => rfl); (case hr => first | (go_simp; done) | (go_simp; rfl)); intro gb282 hg w14 hbox hb; have _ := Aside0.mk (below_step (beu HB.out) hb); have _ := Aside0.mk (hbox); have _ := Aside0.mk ((by rw [hg]; exact (below_size (beu HB.out)) : w.heap.size ≤ gb282)); have _ := Aside0.mk ((by rw [hg]; exact (below_size (beu HB.out)) : w.heap.size ≤ gb282)); clear HB; rename_i HB BK282 GW282 GE282; clear hb hbox hg; obtain ⟨hcz15_0, hcz15_1, hcz15_2⟩ := cells3 BK282.out; obtain ⟨hfz15_0, hfz15_1, hfz15_2⟩ := frozens3 BK282.out) | ((with_reducible refine gate_callee (f := 36) rfl ?_); refine goesL_ (some 5) rfl rfl Tryd.func36 (by kernel_rfl) rfl #[.string a0_0] rfl ap1 ?_; (with_reducible refine (packhorseref01_Right.calls k a0_0 true _ A2.out).mono ?_); rintro e w16 ⟨rfl, hb⟩; refine ⟨_, rfl, ?_⟩; have _ := Aside0.mk (blk_below (bu BK282.out) hb); have _ := Aside0.mk (below_step (beu HB.out) hb); clear BK282 HB; rename_i BK282 HB; (try clear hb); (try clear hb2); (try clear hk); (try clear hi); obtain ⟨hcz17_0, hcz17_1, hcz17_2⟩ := cells3 BK282.out; obtain ⟨hfz17_0, hfz17_1, hfz17_2⟩ := frozens3 BK282.out) | (go_at_call 36; (with_reducible refine (packhorseref01_Right.calls k a0_1 false _ A4.out).mono ?_); rintro e w18 ⟨rfl, hb⟩; have _ := Aside0.mk (blk_below (bu BK282.out) hb); have _ := Aside0.mk (below_step (beu HB.out) hb); clear BK282 HB; rename_i BK282 HB; (try clear hb); (try clear hb2); (try clear hk); (try clear hi)))
   go_ret
   exact ⟨ap4, beu HB.out⟩
 ·replace c3 := Bool.eq_false_iff.mpr c3
  subst c3
  have H1 : (some false) = some r := by rw [if_neg (show ¬ (false = true) by decide)] at H; exact H
  clear H; have H := H1; clear H1; obtain rfl := Option.some.inj H; simp only [Option.some.injEq, Prod.mk.injEq] at H; obtain ⟨rfl⟩ := H
  go_enter Tryd.func37, Tryd.ntmps37
  go_wp2_with (first | ((with_reducible refine gate_dst (N := 1) rfl ?_); refine box_event ?hg (N := 1) ?hd (cs := #[.string a0_0, .string a0_1, .string a0_2]) (t := 24) ?hr ?_; (case hd => rfl); (case hg => rfl); (case hr => first | (go_simp; done) | (go_simp; rfl)); intro gb282 hg w19 hbox hb; have _ := Aside0.mk (below_step (beu HB.out) hb); have _ := Aside0.mk (hbox); have _ := Aside0.mk ((by rw [hg]; exact (below_size (beu HB.out)) : w.heap.size ≤ gb282)); have _ := Aside0.mk ((by rw [hg]; exact (below_size (beu HB.out)) : w.heap.size ≤ gb282)); clear HB; rename_i HB BK282 GW282 GE282; clear hb hbox hg; obtain ⟨hcz20_0, hcz20_1, hcz20_2⟩ := cells3 BK282.out; obtain ⟨hfz20_0, hfz20_1, hfz20_2⟩ := frozens3 BK282.out) | ((with_reducible refine gate_callee (f := 36) rfl ?_); refine goesL_ (some 5) rfl rfl Tryd.func36 (by kernel_rfl) rfl #[.string a0_0] rfl ap1 ?_; (with_reducible refine (packhorseref01_Right.calls k a0_0 false _ A2.out).mono ?_); rintro e w21 ⟨rfl, hb⟩; refine ⟨_, rfl, ?_⟩; have _ := Aside0.mk (blk_below (bu BK282.out) hb); have _ := Aside0.mk (below_step (beu HB.out) hb); clear BK282 HB; rename_i BK282 HB; (try clear hb); (try clear hb2); (try clear hk); (try clear hi)))
  go_ret
  exact ⟨ap4, beu HB.out⟩
mutual
def packhorseref01_Compare.l0 : Nat → ByteArray → ByteArray → Int → Option (Int)
 | 0, _, _, _ => none
 | k + 1, x0, x1, x5 => if x5 < (x0.size : Int) then (packhorseref01_Compare.j1 k x0 x1 x5 (decide (x5 < (x1.size : Int)))) else (packhorseref01_Compare.j1 k x0 x1 x5 false)
def packhorseref01_Compare.j1 : Nat → ByteArray → ByteArray → Int → Bool → Option (Int)
 | 0, _, _, _, _ => none
 | k + 1, x0, x1, x5, x15 => if x15 = true then (if 0 ≤ x5 then (if x5 < (x0.size : Int) then (if x5 < (x1.size : Int) then (if (bt x0 x5) < (bt x1 x5) then (some (-1)) else (if (bt x0 x5) > (bt x1 x5) then (some 1) else (packhorseref01_Compare.l0 k x0 x1 (wrap64 (x5 + 1))))) else (none)) else (none)) else (none)) else (if (x0.size : Int) < (x1.size : Int) then (some (-1)) else (if (x0.size : Int) > (x1.size : Int) then (some 1) else (some 0)))
end
def packhorseref01_Compare.f (k : Nat) (a0 : ByteArray) (a1 : ByteArray) : Option (Int) := packhorseref01_Compare.l0 k a0 a1 0
set_option maxHeartbeats 8000000 in
set_option maxRecDepth 100000 in
theorem packhorseref01_Compare.calls (k : Nat) (a0 : ByteArray) (a1 : ByteArray) (r : Int) (w : World) (h : packhorseref01_Compare.f k a0 a1 = some r) :
  Calls Tryd.prog 54 #[.string a0, .string a1] w fun e w' => e = .returned (.int .i64 r) ∧ Drawn0 w w' := by
 have H : (packhorseref01_Compare.l0 k a0 a1 0) = some r := h; clear h; have H' := Aside0.mk H; clear H
 go_enter Tryd.func54, Tryd.ntmps54
 go_wp2
 repeat (go_quiet (fail); try go_wp2)
 go_loopg [5] k (fun kq v5 w' => ∃ (x5_1 : Int), v5 = .int .i64 x5_1 ∧ Aside0 (packhorseref01_Compare.l0 kq a0 a1 x5_1 = some r) ∧ Aside0 (kq ≤ k) ∧ Drawn0 w w')
 case atStart => exact ⟨(0), ap3, H', ⟨Nat.le_refl _⟩, ap5⟩
 case round =>
  clear H'; (try clear p2); obtain ⟨x5_1, rfl, HA, HK1, ⟨m1, rfl⟩⟩ := hrel
  cases gk with
  | zero => exact absurd HA.out (by simp [packhorseref01_Compare.l0])
  | succ k1 =>
   have H := HA.out; clear HA; simp only [packhorseref01_Compare.l0] at H; have HC3 := Aside0.mk H; clear H
   go_upto_region 2 with (fail)
   repeat (go_quiet (fail); go_upto_region 2 with (fail))
   go_cut [15] (fun v15 wc => ∃ (kq : Nat) (x15_2 : Bool), v15 = .bool x15_2 ∧ Aside0 (packhorseref01_Compare.j1 kq a0 a1 x5_1 x15_2 = some r) ∧ Aside0 (kq ≤ k1) ∧ Drawn0 w wc)
   case first =>
    have H := HC3.out; clear HC3
    by_cases c4 : x5_1 < (a0.size : Int)
    ·rw [if_pos c4] at H
     have c4b0 : decide (x5_1 < (a0.size : Int)) = true := decide_eq_true c4; clear c4
     (first | rw [c4b0] | (simp only [i64_w, i32_w]; rw [c4b0]) | skip)
     have H' := Aside0.mk H; clear H
     go_wp2
     repeat (go_quiet (fail); try go_wp2)
     go_meet
     case rel => exact ⟨_, (decide (x5_1 < (a1.size : Int))), ap3, H', ⟨by have := HK1.out; first | omega | exact Nat.le_refl _⟩, ap5⟩
    ·rw [if_neg c4] at H
     have c4b0 : decide (x5_1 < (a0.size : Int)) = false := decide_eq_false c4; clear c4
     (first | rw [c4b0] | (simp only [i64_w, i32_w]; rw [c4b0]) | skip)
     have H' := Aside0.mk H; clear H
     go_wp2
     repeat (go_quiet (fail); try go_wp2)
     go_meet
     case rel => exact ⟨_, (false), ap3, H', ⟨by have := HK1.out; first | omega | exact Nat.le_refl _⟩, ap5⟩
   case rest =>
    clear HC3; (try clear p2); (try clear c4); (try clear c4b0); (try clear p2); obtain ⟨kq, x15_2, rfl, HA, HJ2, ⟨mc2, rfl⟩⟩ := hcut
    cases kq with
    | zero => exact absurd HA.out (by simp [packhorseref01_Compare.j1])
    | succ kj2 =>
     have H := HA.out; clear HA; simp only [packhorseref01_Compare.j1] at H
     by_cases c5 : x15_2 = true
     ·subst c5
      have H1 : (if 0 ≤ x5_1 then (if x5_1 < (a0.size : Int) then (if x5_1 < (a1.size : Int) then (if (bt a0 x5_1) < (bt a1 x5_1) then (some (-1)) else (if (bt a0 x5_1) > (bt a1 x5_1) then (some 1) else (packhorseref01_Compare.l0 kj2 a0 a1 (wrap64 (x5_1 + 1))))) else (none)) else (none)) else (none)) = some r := by rw [if_pos rfl] at H; exact H
      clear H; have H := H1; clear H1
      by_cases c6 : 0 ≤ x5_1
      ·rw [if_pos c6] at H
       have c6b0 : decide (0 ≤ x5_1) = true := decide_eq_true c6; clear c6
       by_cases c7 : x5_1 < (a0.size : Int)
       ·rw [if_pos c7] at H
        have c7b0 : decide (x5_1 < (a0.size : Int)) = true := decide_eq_true c7; clear c7
        by_cases c9 : x5_1 < (a1.size : Int)
        ·rw [if_pos c9] at H
         have c9b0 : decide (x5_1 < (a1.size : Int)) = true := decide_eq_true c9; clear c9
         by_cases c11 : (bt a0 x5_1) < (bt a1 x5_1)
         ·rw [if_pos c11] at H
          have c11b0 : decide ((bt a0 x5_1) < (bt a1 x5_1)) = true := decide_eq_true c11; clear c11; obtain rfl := Option.some.inj H; simp only [Option.some.injEq, Prod.mk.injEq] at H; obtain ⟨rfl⟩ := H; have p8 : 0 ≤ (x5_1 : Int) := of_decide_eq_true ap2; have q8 : x5_1 < (a0.size : Int) := of_decide_eq_true ap2; have hx8 := bt_at a0 x5_1; replace p8 := eq_true p8; replace q8 := eq_true q8; have p10 : 0 ≤ (x5_1 : Int) := of_decide_eq_true ap2; have q10 : x5_1 < (a1.size : Int) := of_decide_eq_true ap2; have hx10 := bt_at a1 x5_1; replace p10 := eq_true p10; replace q10 := eq_true q10
          go_wp2
          repeat (go_quiet (fail); try go_wp2)
          go_ret
          exact ⟨ap3, ap5⟩
         ·rw [if_neg c11] at H
          have c11b0 : decide ((bt a0 x5_1) < (bt a1 x5_1)) = false := decide_eq_false c11; clear c11
          by_cases c14 : (bt a0 x5_1) > (bt a1 x5_1)
          ·rw [if_pos c14] at H
           have c14b0 : decide ((bt a1 x5_1) < (bt a0 x5_1)) = true := decide_eq_true c14; clear c14; obtain rfl := Option.some.inj H; simp only [Option.some.injEq, Prod.mk.injEq] at H; obtain ⟨rfl⟩ := H; have p8 : 0 ≤ (x5_1 : Int) := of_decide_eq_true ap2; have q8 : x5_1 < (a0.size : Int) := of_decide_eq_true ap2; have hx8 := bt_at a0 x5_1; replace p8 := eq_true p8; replace q8 := eq_true q8; have p10 : 0 ≤ (x5_1 : Int) := of_decide_eq_true ap2; have q10 : x5_1 < (a1.size : Int) := of_decide_eq_true ap2; have hx10 := bt_at a1 x5_1; replace p10 := eq_true p10; replace q10 := eq_true q10; have p12 : 0 ≤ (x5_1 : Int) := of_decide_eq_true ap2; have q12 : x5_1 < (a0.size : Int) := of_decide_eq_true ap2; have hx12 := bt_at a0 x5_1; replace p12 := eq_true p12; replace q12 := eq_true q12; have p13 : 0 ≤ (x5_1 : Int) := of_decide_eq_true ap2; have q13 : x5_1 < (a1.size : Int) := of_decide_eq_true ap2; have hx13 := bt_at a1 x5_1; replace p13 := eq_true p13; replace q13 := eq_true q13
           go_wp2
           repeat (go_quiet (fail); try go_wp2)
           go_ret
           exact ⟨ap3, ap5⟩
          ·rw [if_neg c14] at H
           have c14b0 : decide ((bt a1 x5_1) < (bt a0 x5_1)) = false := decide_eq_false c14; clear c14; have H' := Aside0.mk H; clear H; have p8 : 0 ≤ (x5_1 : Int) := of_decide_eq_true ap2; have q8 : x5_1 < (a0.size : Int) := of_decide_eq_true ap2; have hx8 := bt_at a0 x5_1; replace p8 := eq_true p8; replace q8 := eq_true q8; have p10 : 0 ≤ (x5_1 : Int) := of_decide_eq_true ap2; have q10 : x5_1 < (a1.size : Int) := of_decide_eq_true ap2; have hx10 := bt_at a1 x5_1; replace p10 := eq_true p10; replace q10 := eq_true q10; have p12 : 0 ≤ (x5_1 : Int) := of_decide_eq_true ap2; have q12 : x5_1 < (a0.size : Int) := of_decide_eq_true ap2; have hx12 := bt_at a0 x5_1; replace p12 := eq_true p12; replace q12 := eq_true q12; have p13 : 0 ≤ (x5_1 : Int) := of_decide_eq_true ap2; have q13 : x5_1 < (a1.size : Int) := of_decide_eq_true ap2; have hx13 := bt_at a1 x5_1; replace p13 := eq_true p13; replace q13 := eq_true q13
           go_wp2
           repeat (go_quiet (fail); try go_wp2)
           go_roundg kj2
           case measure => have := HK1.out; have := HJ2.out; omega
           case rel => exact ⟨(wrap64 (x5_1 + 1)), ap3, H', ⟨by have := HK1.out; have := HJ2.out; omega⟩, ap5⟩
        ·rw [if_neg c9] at H
         exact absurd H (by simp)
       ·rw [if_neg c7] at H
        exact absurd H (by simp)
      ·rw [if_neg c6] at H
       exact absurd H (by simp)
     ·replace c5 := Bool.eq_false_iff.mpr c5
      subst c5
      have H1 : (if (a0.size : Int) < (a1.size : Int) then (some (-1)) else (if (a0.size : Int) > (a1.size : Int) then (some 1) else (some 0))) = some r := by rw [if_neg (show ¬ (false = true) by decide)] at H; exact H
      clear H; have H := H1; clear H1
      by_cases c15 : (a0.size : Int) < (a1.size : Int)
      ·rw [if_pos c15] at H
       have c15b0 : decide ((a0.size : Int) < (a1.size : Int)) = true := decide_eq_true c15; have c15b1 : decide (a0.size < a1.size) = true := decide_eq_true (Int.ofNat_lt.mp c15); clear c15; obtain rfl := Option.some.inj H; simp only [Option.some.injEq, Prod.mk.injEq] at H; obtain ⟨rfl⟩ := H
       go_wp2
       repeat (go_quiet (fail); try go_wp2)
       go_ret
       exact ⟨ap3, ap5⟩
      ·rw [if_neg c15] at H
       have c15b0 : decide ((a0.size : Int) < (a1.size : Int)) = false := decide_eq_false c15; have c15b1 : decide (a0.size < a1.size) = false := decide_eq_false (fun h => c15 (Int.ofNat_lt.mpr h)); clear c15
       by_cases c16 : (a0.size : Int) > (a1.size : Int)
       ·rw [if_pos c16] at H
        have c16b0 : decide ((a1.size : Int) < (a0.size : Int)) = true := decide_eq_true c16; have c16b1 : decide (a1.size < a0.size) = true := decide_eq_true (Int.ofNat_lt.mp c16); clear c16; obtain rfl := Option.some.inj H; simp only [Option.some.injEq, Prod.mk.injEq] at H; obtain ⟨rfl⟩ := H
        go_wp2
        repeat (go_quiet (fail); try go_wp2)
        go_ret
        exact ⟨ap3, ap5⟩
       ·rw [if_neg c16] at H
        have c16b0 : decide ((a1.size : Int) < (a0.size : Int)) = false := decide_eq_false c16; have c16b1 : decide (a1.size < a0.size) = false := decide_eq_false (fun h => c16 (Int.ofNat_lt.mpr h)); clear c16; obtain rfl := Option.some.inj H; simp only [Option.some.injEq, Prod.mk.injEq] at H; obtain ⟨rfl⟩ := H
        go_wp2
        repeat (go_quiet (fail); try go_wp2)
        go_ret
        exact ⟨ap3, ap5⟩
end Go.Proofs.YtmcdbjcbfjnfoaaDoor.PAll
