
import Derived.Test.YtmcdbjcbfjnfoaaDoorQOrderTellsPAllx0
import Derived.Test.YtmcdbjcbfjnfoaaDoorQOrderTellsPAllx4
import Derived.Test.YtmcdbjcbfjnfoaaDoorQOrderTellsPAllx5
import Derived.Test.YtmcdbjcbfjnfoaaDoorQOrderTellsPAllx6
import Derived.Test.YtmcdbjcbfjnfoaaDoorQOrderTellsPAllx8
import Derived.Test.YtmcdbjcbfjnfoaaDoorQOrderTellsPAllx11
namespace Go.Proofs.YtmcdbjcbfjnfoaaDoor.PAll
open Go.RowKit Go.Proofs.YtmcdbjcbfjnfoaaDoorW.PrintWords Go.Proofs.YtmcdbjcbfjnfoaaDoorW.PrintLast Go.Proofs.YtmcdbjcbfjnfoaaDoorW.PrintMore
attribute [local go_sem] max2_int max_two
set_option linter.unusedVariables false
set_option linter.unusedSimpArgs false
mutual
def packhorselaw10_OrderTells.j0 : Nat → Bool → ByteArray → List (S52) → ByteArray → ByteArray → ByteArray → Int → Int → Bool → Int → Int → ByteArray → List (S52) → ByteArray → ByteArray → ByteArray → Int → Int → Bool → Int → Int → Option (Bool)
 | 0, _, _, _, _, _, _, _, _, _, _, _, _, _, _, _, _, _, _, _, _, _ => none
 | k + 1, x18, x574000, x574001, x574002, x574003, x574004, x574005, x574006, x574007, x574008, x574009, x575000, x575001, x575002, x575003, x575004, x575005, x575006, x575007, x575008, x575009 => if x18 = true then (some true) else ((order_Copy.f x574000 x574001 x574002 x574003 x574004 x574005 x574006 x574007 x574008 x574009).bind fun bt576 => ((order_Right.f k x574000 x574001 x574002 x574003 x574004 x574005 x574006 x574007 x574008 x574009).bind fun t589 => ((packhorseref10_Right.f k x574000 x574001 x574002 x574003 x574004 x574005 x574006 x574007 x574008 x574009).bind fun t590 => (if (t589 != t590) = true then (packhorselaw10_OrderTells.j1 k true x574000 x574001 x574002 x574003 x574004 x574005 x574006 x574007 x574008 x574009 bt576.1 bt576.2.1 bt576.2.2.1 bt576.2.2.2.1 bt576.2.2.2.2.1 bt576.2.2.2.2.2.1 bt576.2.2.2.2.2.2.1 bt576.2.2.2.2.2.2.2.1 bt576.2.2.2.2.2.2.2.2.1 bt576.2.2.2.2.2.2.2.2.2) else ((order_Same.f k x574000 x574001 x574002 x574003 x574004 x574005 x574006 x574007 x574008 x574009 x575000 x575001 x575002 x575003 x575004 x575005 x575006 x575007 x575008 x575009).bind fun t591 => ((packhorseref10_Same.f k x574000 x574001 x574002 x574003 x574004 x574005 x574006 x574007 x574008 x574009 x575000 x575001 x575002 x575003 x575004 x575005 x575006 x575007 x575008 x575009).bind fun t592 => (if (t591 != t592) = true then (packhorselaw10_OrderTells.j1 k true x574000 x574001 x574002 x574003 x574004 x574005 x574006 x574007 x574008 x574009 bt576.1 bt576.2.1 bt576.2.2.1 bt576.2.2.2.1 bt576.2.2.2.2.1 bt576.2.2.2.2.2.1 bt576.2.2.2.2.2.2.1 bt576.2.2.2.2.2.2.2.1 bt576.2.2.2.2.2.2.2.2.1 bt576.2.2.2.2.2.2.2.2.2) else ((order_Same.f k x574000 x574001 x574002 x574003 x574004 x574005 x574006 x574007 x574008 x574009 bt576.1 bt576.2.1 bt576.2.2.1 bt576.2.2.2.1 bt576.2.2.2.2.1 bt576.2.2.2.2.2.1 bt576.2.2.2.2.2.2.1 bt576.2.2.2.2.2.2.2.1 bt576.2.2.2.2.2.2.2.2.1 bt576.2.2.2.2.2.2.2.2.2).bind fun t593 => (packhorselaw10_OrderTells.j1 k (!t593) x574000 x574001 x574002 x574003 x574004 x574005 x574006 x574007 x574008 x574009 bt576.1 bt576.2.1 bt576.2.2.1 bt576.2.2.2.1 bt576.2.2.2.2.1 bt576.2.2.2.2.2.1 bt576.2.2.2.2.2.2.1 bt576.2.2.2.2.2.2.2.1 bt576.2.2.2.2.2.2.2.2.1 bt576.2.2.2.2.2.2.2.2.2)))))))))
def packhorselaw10_OrderTells.j1 : Nat → Bool → ByteArray → List (S52) → ByteArray → ByteArray → ByteArray → Int → Int → Bool → Int → Int → ByteArray → List (S52) → ByteArray → ByteArray → ByteArray → Int → Int → Bool → Int → Int → Option (Bool)
 | 0, _, _, _, _, _, _, _, _, _, _, _, _, _, _, _, _, _, _, _, _, _ => none
 | k + 1, x40, x574000, x574001, x574002, x574003, x574004, x574005, x574006, x574007, x574008, x574009, x589000, x589001, x589002, x589003, x589004, x589005, x589006, x589007, x589008, x589009 => if x40 = true then (some false) else (if (x589001.length : Int) > 0 then (if 0 < (x574001.length : Int) then (if 0 < (x589001.length : Int) then ((order_Same.f k x574000 x574001 x574002 x574003 x574004 x574005 x574006 x574007 x574008 x574009 x589000 (x589001.set (0 : Int).toNat (⟨(rd_T52 x589001 0).f0, Go.bits .xor .i64 ((rd_T52 x589001 0).f1) 1, (rd_T52 x589001 0).f2⟩ : S52)) x589002 x589003 x589004 x589005 x589006 x589007 x589008 x589009).bind fun t599 => (some (!t599))) else (none)) else (none)) else (some true))
end
def packhorselaw10_OrderTells.f (k : Nat) (a0_0 : ByteArray) (l0_1 : List (S52)) (a0_2 : ByteArray) (a0_3 : ByteArray) (a0_4 : ByteArray) (a0_5 : Int) (a0_6 : Int) (a0_7 : Bool) (a0_8 : Int) (a0_9 : Int) (a1_0 : ByteArray) (l1_1 : List (S52)) (a1_2 : ByteArray) (a1_3 : ByteArray) (a1_4 : ByteArray) (a1_5 : Int) (a1_6 : Int) (a1_7 : Bool) (a1_8 : Int) (a1_9 : Int) : Option (Bool) := (packhorselaw10_orderAlive.f k).bind fun t575 => (if t575 = true then (if (l0_1.length : Int) > 50 then (packhorselaw10_OrderTells.j0 k true a0_0 l0_1 a0_2 a0_3 a0_4 a0_5 a0_6 a0_7 a0_8 a0_9 a1_0 l1_1 a1_2 a1_3 a1_4 a1_5 a1_6 a1_7 a1_8 a1_9) else (packhorselaw10_OrderTells.j0 k (decide ((l1_1.length : Int) > 50)) a0_0 l0_1 a0_2 a0_3 a0_4 a0_5 a0_6 a0_7 a0_8 a0_9 a1_0 l1_1 a1_2 a1_3 a1_4 a1_5 a1_6 a1_7 a1_8 a1_9)) else (some false))
def packhorselaw10_OrderTells.T6 : Bool × List (List Nat × List Nat) := (true, [([], []), ([0], [0]), ([], []), ([2, 1], [2]), ([1, 3], [1, 3]), ([4, 3], [4]), ([5], [5]), ([5], [5]), ([6, 7, 5, 5], [5, 6, 7]), ([5], [5]), ([5], [5]), ([9, 10, 8, 5], [5, 9, 10]), ([8, 11, 5], [5, 8, 11]), ([5, 12], [5, 12]), ([13, 11], [13]), ([14], [14]), ([14], [14]), ([15, 16, 14, 14], [14, 15, 16]), ([17, 14], [14, 17]), ([14, 18], [14, 18])])
def packhorselaw10_OrderTells.B6 : List Nat := [0, 1, 0, 7, 15, 31, 63, 63, 255, 63, 63, 2047, 4095, 8191, 16383, 32767, 32767, 131071, 262143, 524287]
theorem packhorselaw10_OrderTells.tab6 : rtab .any (opsOf Tryd.f7 6) = packhorselaw10_OrderTells.T6 := by kernel_rfl
theorem packhorselaw10_OrderTells.bits6 : waitsOk packhorselaw10_OrderTells.T6.2 packhorselaw10_OrderTells.B6 = true := by kernel_rfl
def packhorselaw10_OrderTells.T11 : Bool × List (List Nat × List Nat) := (true, [([], []), ([0], [0]), ([1], [1]), ([2], [2]), ([], []), ([3, 4], [3, 4]), ([5], [5]), ([6], [6]), ([6], [6]), ([7, 8, 6, 6], [6, 7, 8]), ([9, 6], [6, 9]), ([6, 10], [6, 10]), ([11, 9, 0, 1, 2, 3, 4, 5, 6, 7, 8, 9, 10, 11], [11])])
def packhorselaw10_OrderTells.B11 : List Nat := [0, 1, 3, 7, 0, 31, 63, 127, 127, 511, 1023, 2047, 4095]
theorem packhorselaw10_OrderTells.tab11 : rtab .any (opsOf Tryd.f7 11) = packhorselaw10_OrderTells.T11 := by kernel_rfl
theorem packhorselaw10_OrderTells.bits11 : waitsOk packhorselaw10_OrderTells.T11.2 packhorselaw10_OrderTells.B11 = true := by kernel_rfl
set_option maxHeartbeats 8000000 in
set_option maxRecDepth 100000 in
theorem packhorselaw10_OrderTells.calls (k : Nat) (a0_0 : ByteArray) (A0_1 : Option Addr) (c0_1 : Nat) (l0_1 : List (S52)) (a0_2 : ByteArray) (a0_3 : ByteArray) (a0_4 : ByteArray) (a0_5 : Int) (a0_6 : Int) (a0_7 : Bool) (a0_8 : Int) (a0_9 : Int) (a1_0 : ByteArray) (A1_1 : Option Addr) (c1_1 : Nat) (l1_1 : List (S52)) (a1_2 : ByteArray) (a1_3 : ByteArray) (a1_4 : ByteArray) (a1_5 : Int) (a1_6 : Int) (a1_7 : Bool) (a1_8 : Int) (a1_9 : Int) (r : Bool) (w : World) (hr0_1 : Kd.C k52 w A0_1 l0_1.length l0_1) (hc0_1 : l0_1.length ≤ c0_1) (hr1_1 : Kd.C k52 w A1_1 l1_1.length l1_1) (hc1_1 : l1_1.length ≤ c1_1) (hT : Tabs w) (h : packhorselaw10_OrderTells.f k a0_0 l0_1 a0_2 a0_3 a0_4 a0_5 a0_6 a0_7 a0_8 a0_9 a1_0 l1_1 a1_2 a1_3 a1_4 a1_5 a1_6 a1_7 a1_8 a1_9 = some r) (hr_ : r = true) :
  Calls Tryd.prog 7 #[.agg #[.string a0_0, .slice A0_1 l0_1.length c0_1, .string a0_2, .string a0_3, .string a0_4, .int .i64 a0_5, .int .i64 a0_6, .bool a0_7, .int .i64 a0_8, .int .i64 a0_9], .agg #[.string a1_0, .slice A1_1 l1_1.length c1_1, .string a1_2, .string a1_3, .string a1_4, .int .i64 a1_5, .int .i64 a1_6, .bool a1_7, .int .i64 a1_8, .int .i64 a1_9]] w fun e w' => e = .returned (.bool r) ∧ Below w.heap.size w w' := by
 have hu28 := Tryd.underlying28; have hu52 := Tryd.underlying52; have HR0_1 := Aside0.mk hr0_1; have HC0_1 := Aside0.mk hc0_1; clear hr0_1 hc0_1; have HR1_1 := Aside0.mk hr1_1; have HC1_1 := Aside0.mk hc1_1; clear hr1_1 hc1_1; have HRT := Aside0.mk hr_; clear hr_; have HT := Aside0.mk hT; clear hT; have HB := Aside0.mk (Below.refl w.heap.size w); have H : ((packhorselaw10_orderAlive.f k).bind fun t575 => (if t575 = true then (if (l0_1.length : Int) > 50 then (packhorselaw10_OrderTells.j0 k true a0_0 l0_1 a0_2 a0_3 a0_4 a0_5 a0_6 a0_7 a0_8 a0_9 a1_0 l1_1 a1_2 a1_3 a1_4 a1_5 a1_6 a1_7 a1_8 a1_9) else (packhorselaw10_OrderTells.j0 k (decide ((l1_1.length : Int) > 50)) a0_0 l0_1 a0_2 a0_3 a0_4 a0_5 a0_6 a0_7 a0_8 a0_9 a1_0 l1_1 a1_2 a1_3 a1_4 a1_5 a1_6 a1_7 a1_8 a1_9)) else (some false))) = some r := h; clear h; replace H := obm H; obtain ⟨t575, A30, H⟩ := H; replace H : (if t575 = true then (if (l0_1.length : Int) > 50 then (packhorselaw10_OrderTells.j0 k true a0_0 l0_1 a0_2 a0_3 a0_4 a0_5 a0_6 a0_7 a0_8 a0_9 a1_0 l1_1 a1_2 a1_3 a1_4 a1_5 a1_6 a1_7 a1_8 a1_9) else (packhorselaw10_OrderTells.j0 k (decide ((l1_1.length : Int) > 50)) a0_0 l0_1 a0_2 a0_3 a0_4 a0_5 a0_6 a0_7 a0_8 a0_9 a1_0 l1_1 a1_2 a1_3 a1_4 a1_5 a1_6 a1_7 a1_8 a1_9)) else (some false)) = some r := H; have A3 := Aside0.mk A30; clear A30
 by_cases c4 : t575 = true
 ·subst c4
  have H1 : (if (l0_1.length : Int) > 50 then (packhorselaw10_OrderTells.j0 k true a0_0 l0_1 a0_2 a0_3 a0_4 a0_5 a0_6 a0_7 a0_8 a0_9 a1_0 l1_1 a1_2 a1_3 a1_4 a1_5 a1_6 a1_7 a1_8 a1_9) else (packhorselaw10_OrderTells.j0 k (decide ((l1_1.length : Int) > 50)) a0_0 l0_1 a0_2 a0_3 a0_4 a0_5 a0_6 a0_7 a0_8 a0_9 a1_0 l1_1 a1_2 a1_3 a1_4 a1_5 a1_6 a1_7 a1_8 a1_9)) = some r := by rw [if_pos rfl] at H; exact H
  clear H; have H := H1; clear H1; have HC5 := Aside0.mk H; clear H
  go_enter Tryd.func7, Tryd.ntmps7
  go_upto_region 3 with (first | ((with_reducible refine gate_dst (N := 2) rfl ?_); (try (refine gate_guard (by rfl) ?_; dsimp only)); refine box_event ?hg (N := 2) ?hd (cs := #[.string a0_0, .slice A0_1 l0_1.length c0_1, .string a0_2, .string a0_3, .string a0_4, .int .i64 a0_5, .int .i64 a0_6, .bool a0_7, .int .i64 a0_8, .int .i64 a0_9]) (t := 28) ?hr ?_; (case hd => rfl); (case hg => rfl); (case hr => first | (go_simp; done) | (go_simp; rfl)); intro gb573 hg w6 hbox hb; have _ := Aside0.mk (below_step (beu HB.out) hb); have _ := Aside0.mk (hbox); have _ := Aside0.mk ((by rw [hg]; exact (below_size (beu HB.out)) : w.heap.size ≤ gb573)); have _ := Aside0.mk ((by rw [hg]; exact (below_size (beu HB.out)) : w.heap.size ≤ gb573)); clear HB; rename_i HB BK573 GW573 GE573; clear hb hbox hg) | ((with_reducible refine gate_dst (N := 3) rfl ?_); (try (refine gate_guard (by rfl) ?_; dsimp only)); refine box_event ?hg (N := 3) ?hd (cs := #[.string a1_0, .slice A1_1 l1_1.length c1_1, .string a1_2, .string a1_3, .string a1_4, .int .i64 a1_5, .int .i64 a1_6, .bool a1_7, .int .i64 a1_8, .int .i64 a1_9]) (t := 28) ?hr ?_; (case hd => rfl); (case hg => rfl); (case hr => first | (go_simp; done) | (go_simp; rfl)); intro gb574 hg w7 hbox hb; have _ := Aside0.mk (blk_below (bu BK573.out) hb); have _ := Aside0.mk (below_step (beu HB.out) hb); have _ := Aside0.mk (hbox); have _ := Aside0.mk ((by rw [hg]; exact (below_size (beu HB.out)) : w.heap.size ≤ gb574)); have _ := Aside0.mk ((by rw [hg]; exact (below_size (beu HB.out)) : w.heap.size ≤ gb574)); have _ := Aside0.mk (nb1 hg BK573.out : gb573 ≠ gb574); have _ := Aside0.mk (nb2 hg BK573.out : gb574 ≠ gb573); clear BK573 HB; rename_i BK573 HB BK574 GW574 GE574 NB573_574 NB574_573; clear hb hbox hg) | ((with_reducible refine gate_callee (f := 9) rfl ?_); refine goesL_ (some 7) rfl rfl Tryd.func9 (by kernel_rfl) rfl #[] rfl ap1 ?_; (with_reducible refine (packhorselaw10_orderAlive.calls k  true _ ?side1 A3.out rfl).mono ?_); (case side1 => first | exact HT.out | exact Tabs.below HT.out (beu HB.out)); rintro e w8 ⟨rfl, hb⟩; refine ⟨_, rfl, ?_⟩; have _ := Aside0.mk (blk_below (bu BK573.out) hb); have _ := Aside0.mk (blk_below (bu BK574.out) hb); have _ := Aside0.mk (below_step (beu HB.out) hb); clear BK573 BK574 HB; rename_i BK573 BK574 HB; (try clear hb); (try clear hb2); (try clear hk); (try clear hi)))
  (try simp only [Act.put, List.setIfInBounds_toArray, List.set_cons_zero, List.set_cons_succ])
  go_cut [18] (fun v18 wc => ∃ (kq : Nat) (x18_4 : Bool), v18 = .bool x18_4 ∧ Aside0 (packhorselaw10_OrderTells.j0 kq x18_4 a0_0 l0_1 a0_2 a0_3 a0_4 a0_5 a0_6 a0_7 a0_8 a0_9 a1_0 l1_1 a1_2 a1_3 a1_4 a1_5 a1_6 a1_7 a1_8 a1_9 = some r) ∧ Aside0 (kq ≤ k) ∧ Aside0 (wc.heap[gb573]? = some (.cells #[.string a0_0, (.slice A0_1 l0_1.length c0_1), .string a0_2, .string a0_3, .string a0_4, .int .i64 a0_5, .int .i64 a0_6, .bool a0_7, .int .i64 a0_8, .int .i64 a0_9] 28 (0, 0))) ∧ Aside0 (wc.heap[gb574]? = some (.cells #[.string a1_0, (.slice A1_1 l1_1.length c1_1), .string a1_2, .string a1_3, .string a1_4, .int .i64 a1_5, .int .i64 a1_6, .bool a1_7, .int .i64 a1_8, .int .i64 a1_9] 28 (0, 0))) ∧ Aside0 (Below w.heap.size w wc))
  case first =>
   have H := HC5.out; clear HC5
   by_cases c9 : (l0_1.length : Int) > 50
   ·rw [if_pos c9] at H
    have c9b0 : decide (50 < (l0_1.length : Int)) = true := decide_eq_true c9; have c9b1 : decide (50 < l0_1.length) = true := decide_eq_true (by omega); clear c9
    (first | rw [c9b0] | (simp only [i64_w, i32_w]; rw [c9b0]) | skip)
    have H' := Aside0.mk H; clear H; have hnb10 := NB573_574.out; have hnc10 := NB574_573.out; obtain ⟨hcz11_0, hcz11_1, hcz11_2, hcz11_3, hcz11_4, hcz11_5, hcz11_6, hcz11_7, hcz11_8, hcz11_9⟩ := cells10 BK573.out; obtain ⟨hfz11_0, hfz11_1, hfz11_2, hfz11_3, hfz11_4, hfz11_5, hfz11_6, hfz11_7, hfz11_8, hfz11_9⟩ := frozens10 BK573.out
    go_wp2
    go_meet
    case rel => exact ⟨_, (true), ap3, H', ⟨by first | omega | exact Nat.le_refl _⟩, ⟨by (with_reducible repeat (first | refine blk_drewN ?_ _ | refine blk_drew ?_ | refine blk_alloc ?_ _)); exact BK573.out⟩, ⟨by (with_reducible repeat (first | refine blk_drewN ?_ _ | refine blk_drew ?_ | refine blk_alloc ?_ _)); exact BK574.out⟩, ⟨beu HB.out⟩⟩
   ·rw [if_neg c9] at H
    have c9b0 : decide (50 < (l0_1.length : Int)) = false := decide_eq_false c9; have c9b1 : decide (50 < l0_1.length) = false := decide_eq_false (by omega); clear c9
    (first | rw [c9b0] | (simp only [i64_w, i32_w]; rw [c9b0]) | skip)
    have H' := Aside0.mk H; clear H; have hnb12 := NB573_574.out; have hnc12 := NB574_573.out; obtain ⟨hcz13_0, hcz13_1, hcz13_2, hcz13_3, hcz13_4, hcz13_5, hcz13_6, hcz13_7, hcz13_8, hcz13_9⟩ := cells10 BK573.out; obtain ⟨hfz13_0, hfz13_1, hfz13_2, hfz13_3, hfz13_4, hfz13_5, hfz13_6, hfz13_7, hfz13_8, hfz13_9⟩ := frozens10 BK573.out; obtain ⟨hcz14_0, hcz14_1, hcz14_2, hcz14_3, hcz14_4, hcz14_5, hcz14_6, hcz14_7, hcz14_8, hcz14_9⟩ := cells10 BK574.out; obtain ⟨hfz14_0, hfz14_1, hfz14_2, hfz14_3, hfz14_4, hfz14_5, hfz14_6, hfz14_7, hfz14_8, hfz14_9⟩ := frozens10 BK574.out
    go_wp2
    go_meet
    case rel => exact ⟨_, (decide ((l1_1.length : Int) > 50)), ap3, H', ⟨by first | omega | exact Nat.le_refl _⟩, ⟨by (with_reducible repeat (first | refine blk_drewN ?_ _ | refine blk_drew ?_ | refine blk_alloc ?_ _)); exact BK573.out⟩, ⟨by (with_reducible repeat (first | refine blk_drewN ?_ _ | refine blk_drew ?_ | refine blk_alloc ?_ _)); exact BK574.out⟩, ⟨beu HB.out⟩⟩
  case rest =>
   clear HC5; (try clear c1); (try clear p2); (try clear c4); (try clear c7); (try clear c9); (try clear c9b0); (try clear c9b1); (try clear c10); (try clear c12); (try clear hcz11_0); (try clear hcz11_1); (try clear hcz11_2); (try clear hcz11_3); (try clear hcz11_4); (try clear hcz11_5); (try clear hcz11_6); (try clear hcz11_7); (try clear hcz11_8); (try clear hcz11_9); (try clear hcz13_0); (try clear hcz13_1); (try clear hcz13_2); (try clear hcz13_3); (try clear hcz13_4); (try clear hcz13_5); (try clear hcz13_6); (try clear hcz13_7); (try clear hcz13_8); (try clear hcz13_9); (try clear hcz14_0); (try clear hcz14_1); (try clear hcz14_2); (try clear hcz14_3); (try clear hcz14_4); (try clear hcz14_5); (try clear hcz14_6); (try clear hcz14_7); (try clear hcz14_8); (try clear hcz14_9); (try clear hfz11_0); (try clear hfz11_1); (try clear hfz11_2); (try clear hfz11_3); (try clear hfz11_4); (try clear hfz11_5); (try clear hfz11_6); (try clear hfz11_7); (try clear hfz11_8); (try clear hfz11_9); (try clear hfz13_0); (try clear hfz13_1); (try clear hfz13_2); (try clear hfz13_3); (try clear hfz13_4); (try clear hfz13_5); (try clear hfz13_6); (try clear hfz13_7); (try clear hfz13_8); (try clear hfz13_9); (try clear hfz14_0); (try clear hfz14_1); (try clear hfz14_2); (try clear hfz14_3); (try clear hfz14_4); (try clear hfz14_5); (try clear hfz14_6); (try clear hfz14_7); (try clear hfz14_8); (try clear hfz14_9); obtain ⟨kq, x18_4, rfl, HA, HJ4, BK573, BK574, HB⟩ := hcut
   cases kq with
   | zero => exact absurd HA.out (by simp [packhorselaw10_OrderTells.j0])
   | succ kj4 =>
    have H := HA.out; clear HA; simp only [packhorselaw10_OrderTells.j0] at H
    by_cases c15 : x18_4 = true
    ·subst c15
     have H1 : (some true) = some r := by rw [if_pos rfl] at H; exact H
     clear H; have H := H1; clear H1; obtain rfl := Option.some.inj H; simp only [Option.some.injEq, Prod.mk.injEq] at H; obtain ⟨rfl⟩ := H
     go_wp2
     go_ret
     exact ⟨ap4, beu HB.out⟩
    ·replace c15 := Bool.eq_false_iff.mpr c15
     subst c15
     have H1 : ((order_Copy.f a0_0 l0_1 a0_2 a0_3 a0_4 a0_5 a0_6 a0_7 a0_8 a0_9).bind fun bt576 => ((order_Right.f kj4 a0_0 l0_1 a0_2 a0_3 a0_4 a0_5 a0_6 a0_7 a0_8 a0_9).bind fun t589 => ((packhorseref10_Right.f kj4 a0_0 l0_1 a0_2 a0_3 a0_4 a0_5 a0_6 a0_7 a0_8 a0_9).bind fun t590 => (if (t589 != t590) = true then (packhorselaw10_OrderTells.j1 kj4 true a0_0 l0_1 a0_2 a0_3 a0_4 a0_5 a0_6 a0_7 a0_8 a0_9 bt576.1 bt576.2.1 bt576.2.2.1 bt576.2.2.2.1 bt576.2.2.2.2.1 bt576.2.2.2.2.2.1 bt576.2.2.2.2.2.2.1 bt576.2.2.2.2.2.2.2.1 bt576.2.2.2.2.2.2.2.2.1 bt576.2.2.2.2.2.2.2.2.2) else ((order_Same.f kj4 a0_0 l0_1 a0_2 a0_3 a0_4 a0_5 a0_6 a0_7 a0_8 a0_9 a1_0 l1_1 a1_2 a1_3 a1_4 a1_5 a1_6 a1_7 a1_8 a1_9).bind fun t591 => ((packhorseref10_Same.f kj4 a0_0 l0_1 a0_2 a0_3 a0_4 a0_5 a0_6 a0_7 a0_8 a0_9 a1_0 l1_1 a1_2 a1_3 a1_4 a1_5 a1_6 a1_7 a1_8 a1_9).bind fun t592 => (if (t591 != t592) = true then (packhorselaw10_OrderTells.j1 kj4 true a0_0 l0_1 a0_2 a0_3 a0_4 a0_5 a0_6 a0_7 a0_8 a0_9 bt576.1 bt576.2.1 bt576.2.2.1 bt576.2.2.2.1 bt576.2.2.2.2.1 bt576.2.2.2.2.2.1 bt576.2.2.2.2.2.2.1 bt576.2.2.2.2.2.2.2.1 bt576.2.2.2.2.2.2.2.2.1 bt576.2.2.2.2.2.2.2.2.2) else ((order_Same.f kj4 a0_0 l0_1 a0_2 a0_3 a0_4 a0_5 a0_6 a0_7 a0_8 a0_9 bt576.1 bt576.2.1 bt576.2.2.1 bt576.2.2.2.1 bt576.2.2.2.2.1 bt576.2.2.2.2.2.1 bt576.2.2.2.2.2.2.1 bt576.2.2.2.2.2.2.2.1 bt576.2.2.2.2.2.2.2.2.1 bt576.2.2.2.2.2.2.2.2.2).bind fun t593 => (packhorselaw10_OrderTells.j1 kj4 (!t593) a0_0 l0_1 a0_2 a0_3 a0_4 a0_5 a0_6 a0_7 a0_8 a0_9 bt576.1 bt576.2.1 bt576.2.2.1 bt576.2.2.2.1 bt576.2.2.2.2.1 bt576.2.2.2.2.2.1 bt576.2.2.2.2.2.2.1 bt576.2.2.2.2.2.2.2.1 bt576.2.2.2.2.2.2.2.2.1 bt576.2.2.2.2.2.2.2.2.2))))))))) = some r := by rw [if_neg (show ¬ (false = true) by decide)] at H; exact H
     clear H; have H := H1; clear H1; replace H := obm H; obtain ⟨⟨t576, t577, t580, t581, t582, t583, t584, t585, t586, t587⟩, A160, H⟩ := H; replace H : ((order_Right.f kj4 a0_0 l0_1 a0_2 a0_3 a0_4 a0_5 a0_6 a0_7 a0_8 a0_9).bind fun t589 => ((packhorseref10_Right.f kj4 a0_0 l0_1 a0_2 a0_3 a0_4 a0_5 a0_6 a0_7 a0_8 a0_9).bind fun t590 => (if (t589 != t590) = true then (packhorselaw10_OrderTells.j1 kj4 true a0_0 l0_1 a0_2 a0_3 a0_4 a0_5 a0_6 a0_7 a0_8 a0_9 t576 t577 t580 t581 t582 t583 t584 t585 t586 t587) else ((order_Same.f kj4 a0_0 l0_1 a0_2 a0_3 a0_4 a0_5 a0_6 a0_7 a0_8 a0_9 a1_0 l1_1 a1_2 a1_3 a1_4 a1_5 a1_6 a1_7 a1_8 a1_9).bind fun t591 => ((packhorseref10_Same.f kj4 a0_0 l0_1 a0_2 a0_3 a0_4 a0_5 a0_6 a0_7 a0_8 a0_9 a1_0 l1_1 a1_2 a1_3 a1_4 a1_5 a1_6 a1_7 a1_8 a1_9).bind fun t592 => (if (t591 != t592) = true then (packhorselaw10_OrderTells.j1 kj4 true a0_0 l0_1 a0_2 a0_3 a0_4 a0_5 a0_6 a0_7 a0_8 a0_9 t576 t577 t580 t581 t582 t583 t584 t585 t586 t587) else ((order_Same.f kj4 a0_0 l0_1 a0_2 a0_3 a0_4 a0_5 a0_6 a0_7 a0_8 a0_9 t576 t577 t580 t581 t582 t583 t584 t585 t586 t587).bind fun t593 => (packhorselaw10_OrderTells.j1 kj4 (!t593) a0_0 l0_1 a0_2 a0_3 a0_4 a0_5 a0_6 a0_7 a0_8 a0_9 t576 t577 t580 t581 t582 t583 t584 t585 t586 t587)))))))) = some r := H; have A16 := Aside0.mk A160; clear A160; have HC17 := Aside0.mk H; clear H; have hnb18 := NB573_574.out; have hnc18 := NB574_573.out; obtain ⟨hcz19_0, hcz19_1, hcz19_2, hcz19_3, hcz19_4, hcz19_5, hcz19_6, hcz19_7, hcz19_8, hcz19_9⟩ := cells10 BK573.out; obtain ⟨hfz19_0, hfz19_1, hfz19_2, hfz19_3, hfz19_4, hfz19_5, hfz19_6, hfz19_7, hfz19_8, hfz19_9⟩ := frozens10 BK573.out
     go_upto_region 6 with (first | ((with_reducible refine gate_callee (f := 20) rfl ?_); refine goesL_ (some 20) rfl rfl Tryd.func20 (by kernel_rfl) rfl #[.agg #[.string a0_0, .slice A0_1 l0_1.length c0_1, .string a0_2, .string a0_3, .string a0_4, .int .i64 a0_5, .int .i64 a0_6, .bool a0_7, .int .i64 a0_8, .int .i64 a0_9]] rfl ap1 ?_; (with_reducible refine (order_Copy.calls a0_0 _ _ l0_1 a0_2 a0_3 a0_4 a0_5 a0_6 a0_7 a0_8 a0_9 t576 t577 t580 t581 t582 t583 t584 t585 t586 t587 _ ?side1 ?side2 A16.out).mono ?_); (case side1 => exact cu (Kd.C_below HR0_1.out HB.out)); (case side2 => exact HC0_1.out); rintro e w20 ⟨v578, rfl, ho0, hb⟩; refine ⟨_, rfl, ?_⟩; have _ := Aside0.mk (Kd.R_lower ho0 (below_size (beu HB.out))); have _ := Aside0.mk (blk_below (bu BK573.out) hb); have _ := Aside0.mk (blk_below (bu BK574.out) hb); have _ := Aside0.mk (below_step (beu HB.out) hb); clear BK573 BK574 HB; rename_i HO579 BK573 BK574 HB; (try clear hb); (try clear hb2); (try clear hk); (try clear hi); (try clear ho0)) | ((with_reducible refine gate_dst (N := 5) rfl ?_); (try (refine gate_guard (by rfl) ?_; dsimp only)); refine box_event ?hg (N := 5) ?hd (cs := #[.string ⟨#[]⟩, .slice none 0 0, .string ⟨#[]⟩, .string ⟨#[]⟩, .string ⟨#[]⟩, .int .i64 0, .int .i64 0, .bool false, .int .i64 0, .int .i64 0]) (t := 28) ?hr ?_; (case hd => rfl); (case hg => rfl); (case hr => first | (go_simp; done) | (go_simp; rfl)); intro gb588 hg w21 hbox hb; have _ := Aside0.mk (Kd.R_below (ru HO579.out) hb); have _ := Aside0.mk (blk_below (bu BK573.out) hb); have _ := Aside0.mk (blk_below (bu BK574.out) hb); have _ := Aside0.mk (below_step (beu HB.out) hb); have _ := Aside0.mk (hbox); have _ := Aside0.mk ((by rw [hg]; exact (below_size (beu HB.out)) : w.heap.size ≤ gb588)); have _ := Aside0.mk ((by rw [hg]; exact (below_size (beu HB.out)) : w.heap.size ≤ gb588)); have _ := Aside0.mk (nb1 hg BK573.out : gb573 ≠ gb588); have _ := Aside0.mk (nb2 hg BK573.out : gb588 ≠ gb573); have _ := Aside0.mk (nb1 hg BK574.out : gb574 ≠ gb588); have _ := Aside0.mk (nb2 hg BK574.out : gb588 ≠ gb574); clear HO579 BK573 BK574 HB; rename_i HO579 BK573 BK574 HB BK588 GW588 GE588 NB573_588 NB588_573 NB574_588 NB588_574; clear hb hbox hg; have hnb22 := NB588_573.out; have hnc22 := NB573_588.out; have hnb23 := NB588_574.out; have hnc23 := NB574_588.out; obtain ⟨hcz24_0, hcz24_1, hcz24_2, hcz24_3, hcz24_4, hcz24_5, hcz24_6, hcz24_7, hcz24_8, hcz24_9⟩ := cells10 BK588.out; obtain ⟨hfz24_0, hfz24_1, hfz24_2, hfz24_3, hfz24_4, hfz24_5, hfz24_6, hfz24_7, hfz24_8, hfz24_9⟩ := frozens10 BK588.out; obtain ⟨Ao25, co25, eo25⟩ := Kd.R_slice HO579.out; subst eo25))
     (try simp only [Act.put, List.setIfInBounds_toArray, List.set_cons_zero, List.set_cons_succ])
     go_cut [40] (fun v40 wc => ∃ (kq : Nat) (x40_16 : Bool), v40 = .bool x40_16 ∧ Aside0 (packhorselaw10_OrderTells.j1 kq x40_16 a0_0 l0_1 a0_2 a0_3 a0_4 a0_5 a0_6 a0_7 a0_8 a0_9 t576 t577 t580 t581 t582 t583 t584 t585 t586 t587 = some r) ∧ Aside0 (kq ≤ kj4) ∧ Aside0 (Kd.R k52 52 wc w.heap.size (fun _ => True) (.slice Ao25 t577.length co25) t577) ∧ Aside0 (wc.heap[gb573]? = some (.cells #[.string a0_0, (.slice A0_1 l0_1.length c0_1), .string a0_2, .string a0_3, .string a0_4, .int .i64 a0_5, .int .i64 a0_6, .bool a0_7, .int .i64 a0_8, .int .i64 a0_9] 28 (0, 0))) ∧ Aside0 (wc.heap[gb574]? = some (.cells #[.string a1_0, (.slice A1_1 l1_1.length c1_1), .string a1_2, .string a1_3, .string a1_4, .int .i64 a1_5, .int .i64 a1_6, .bool a1_7, .int .i64 a1_8, .int .i64 a1_9] 28 (0, 0))) ∧ Aside0 (wc.heap[gb588]? = some (.cells #[.string t576, (.slice Ao25 t577.length co25), .string t580, .string t581, .string t582, .int .i64 t583, .int .i64 t584, .bool t585, .int .i64 t586, .int .i64 t587] 28 (0, 0))) ∧ Aside0 (Below w.heap.size w wc))
     case first =>
      have H := HC17.out; clear HC17; replace H := obm H; obtain ⟨t589, A260, H⟩ := H; replace H : ((packhorseref10_Right.f kj4 a0_0 l0_1 a0_2 a0_3 a0_4 a0_5 a0_6 a0_7 a0_8 a0_9).bind fun t590 => (if (t589 != t590) = true then (packhorselaw10_OrderTells.j1 kj4 true a0_0 l0_1 a0_2 a0_3 a0_4 a0_5 a0_6 a0_7 a0_8 a0_9 t576 t577 t580 t581 t582 t583 t584 t585 t586 t587) else ((order_Same.f kj4 a0_0 l0_1 a0_2 a0_3 a0_4 a0_5 a0_6 a0_7 a0_8 a0_9 a1_0 l1_1 a1_2 a1_3 a1_4 a1_5 a1_6 a1_7 a1_8 a1_9).bind fun t591 => ((packhorseref10_Same.f kj4 a0_0 l0_1 a0_2 a0_3 a0_4 a0_5 a0_6 a0_7 a0_8 a0_9 a1_0 l1_1 a1_2 a1_3 a1_4 a1_5 a1_6 a1_7 a1_8 a1_9).bind fun t592 => (if (t591 != t592) = true then (packhorselaw10_OrderTells.j1 kj4 true a0_0 l0_1 a0_2 a0_3 a0_4 a0_5 a0_6 a0_7 a0_8 a0_9 t576 t577 t580 t581 t582 t583 t584 t585 t586 t587) else ((order_Same.f kj4 a0_0 l0_1 a0_2 a0_3 a0_4 a0_5 a0_6 a0_7 a0_8 a0_9 t576 t577 t580 t581 t582 t583 t584 t585 t586 t587).bind fun t593 => (packhorselaw10_OrderTells.j1 kj4 (!t593) a0_0 l0_1 a0_2 a0_3 a0_4 a0_5 a0_6 a0_7 a0_8 a0_9 t576 t577 t580 t581 t582 t583 t584 t585 t586 t587))))))) = some r := H; have A26 := Aside0.mk A260; clear A260; replace H := obm H; obtain ⟨t590, A270, H⟩ := H; replace H : (if (t589 != t590) = true then (packhorselaw10_OrderTells.j1 kj4 true a0_0 l0_1 a0_2 a0_3 a0_4 a0_5 a0_6 a0_7 a0_8 a0_9 t576 t577 t580 t581 t582 t583 t584 t585 t586 t587) else ((order_Same.f kj4 a0_0 l0_1 a0_2 a0_3 a0_4 a0_5 a0_6 a0_7 a0_8 a0_9 a1_0 l1_1 a1_2 a1_3 a1_4 a1_5 a1_6 a1_7 a1_8 a1_9).bind fun t591 => ((packhorseref10_Same.f kj4 a0_0 l0_1 a0_2 a0_3 a0_4 a0_5 a0_6 a0_7 a0_8 a0_9 a1_0 l1_1 a1_2 a1_3 a1_4 a1_5 a1_6 a1_7 a1_8 a1_9).bind fun t592 => (if (t591 != t592) = true then (packhorselaw10_OrderTells.j1 kj4 true a0_0 l0_1 a0_2 a0_3 a0_4 a0_5 a0_6 a0_7 a0_8 a0_9 t576 t577 t580 t581 t582 t583 t584 t585 t586 t587) else ((order_Same.f kj4 a0_0 l0_1 a0_2 a0_3 a0_4 a0_5 a0_6 a0_7 a0_8 a0_9 t576 t577 t580 t581 t582 t583 t584 t585 t586 t587).bind fun t593 => (packhorselaw10_OrderTells.j1 kj4 (!t593) a0_0 l0_1 a0_2 a0_3 a0_4 a0_5 a0_6 a0_7 a0_8 a0_9 t576 t577 t580 t581 t582 t583 t584 t585 t586 t587)))))) = some r := H; have A27 := Aside0.mk A270; clear A270
      by_cases c28 : (t589 != t590) = true
      ·rw [if_pos c28] at H
       have c28b0 : (t589 != t590) = true := c28
       (try (have c28b1 : decide (t589 = t590) = false := by simpa using c28))
       (try (have c28b2 : (t589 == t590) = false := by simpa using c28))
       (try (have c28b3 : ¬ (t589 = t590) := by simpa using c28))
       clear c28
       (first | rw [c28b0] | (simp only [i64_w, i32_w]; rw [c28b0]) | skip)
       have H' := Aside0.mk H; clear H
       try go_wp2
       have n0_ : Aside0 (Kd.R k52 52 ((((((((((w21.setCell ⟨gb588, 0, none⟩ (.string t576)).setCell ⟨gb588, 1, none⟩ (.slice Ao25 t577.length co25)).setCell ⟨gb588, 2, none⟩ (.string t580)).setCell ⟨gb588, 3, none⟩ (.string t581)).setCell ⟨gb588, 4, none⟩ (.string t582)).setCell ⟨gb588, 5, none⟩ (.int .i64 t583)).setCell ⟨gb588, 6, none⟩ (.int .i64 t584)).setCell ⟨gb588, 7, none⟩ (.bool t585)).setCell ⟨gb588, 8, none⟩ (.int .i64 t586)).setCell ⟨gb588, 9, none⟩ (.int .i64 t587)) w.heap.size (fun _ => True) (.slice Ao25 t577.length co25) t577) := ⟨ru (Kd.R_mono (Kd.R_far (p := ⟨gb588, 9, none⟩) (Kd.R_far (p := ⟨gb588, 8, none⟩) (Kd.R_far (p := ⟨gb588, 7, none⟩) (Kd.R_far (p := ⟨gb588, 6, none⟩) (Kd.R_far (p := ⟨gb588, 5, none⟩) (Kd.R_far (p := ⟨gb588, 4, none⟩) (Kd.R_far (p := ⟨gb588, 3, none⟩) (Kd.R_far (p := ⟨gb588, 2, none⟩) (Kd.R_far (p := ⟨gb588, 1, none⟩) (Kd.R_far (p := ⟨gb588, 0, none⟩) (Kd.R_types HO579.out BK588.out (by decide)) (fun _ hk => hk.2) (.string t576)) (fun _ hk => hk.2) (.slice Ao25 t577.length co25)) (fun _ hk => hk.2) (.string t580)) (fun _ hk => hk.2) (.string t581)) (fun _ hk => hk.2) (.string t582)) (fun _ hk => hk.2) (.int .i64 t583)) (fun _ hk => hk.2) (.int .i64 t584)) (fun _ hk => hk.2) (.bool t585)) (fun _ hk => hk.2) (.int .i64 t586)) (fun _ hk => hk.2) (.int .i64 t587)) (fun _ hk => trivial))⟩; have n1_ : Aside0 (((((((((((w21.setCell ⟨gb588, 0, none⟩ (.string t576)).setCell ⟨gb588, 1, none⟩ (.slice Ao25 t577.length co25)).setCell ⟨gb588, 2, none⟩ (.string t580)).setCell ⟨gb588, 3, none⟩ (.string t581)).setCell ⟨gb588, 4, none⟩ (.string t582)).setCell ⟨gb588, 5, none⟩ (.int .i64 t583)).setCell ⟨gb588, 6, none⟩ (.int .i64 t584)).setCell ⟨gb588, 7, none⟩ (.bool t585)).setCell ⟨gb588, 8, none⟩ (.int .i64 t586)).setCell ⟨gb588, 9, none⟩ (.int .i64 t587)).heap[gb573]? = some (.cells #[.string a0_0, .slice A0_1 l0_1.length c0_1, .string a0_2, .string a0_3, .string a0_4, .int .i64 a0_5, .int .i64 a0_6, .bool a0_7, .int .i64 a0_8, .int .i64 a0_9] 28 (0, 0))) := ⟨by (with_reducible repeat (first | refine blk_drewN ?_ _ | refine blk_drew ?_ | refine blk_alloc ?_ _)); refine blk_far ?_ NB573_588.out _; (with_reducible repeat (first | refine blk_drewN ?_ _ | refine blk_drew ?_ | refine blk_alloc ?_ _)); refine blk_far ?_ NB573_588.out _; (with_reducible repeat (first | refine blk_drewN ?_ _ | refine blk_drew ?_ | refine blk_alloc ?_ _)); refine blk_far ?_ NB573_588.out _; (with_reducible repeat (first | refine blk_drewN ?_ _ | refine blk_drew ?_ | refine blk_alloc ?_ _)); refine blk_far ?_ NB573_588.out _; (with_reducible repeat (first | refine blk_drewN ?_ _ | refine blk_drew ?_ | refine blk_alloc ?_ _)); refine blk_far ?_ NB573_588.out _; (with_reducible repeat (first | refine blk_drewN ?_ _ | refine blk_drew ?_ | refine blk_alloc ?_ _)); refine blk_far ?_ NB573_588.out _; (with_reducible repeat (first | refine blk_drewN ?_ _ | refine blk_drew ?_ | refine blk_alloc ?_ _)); refine blk_far ?_ NB573_588.out _; (with_reducible repeat (first | refine blk_drewN ?_ _ | refine blk_drew ?_ | refine blk_alloc ?_ _)); refine blk_far ?_ NB573_588.out _; (with_reducible repeat (first | refine blk_drewN ?_ _ | refine blk_drew ?_ | refine blk_alloc ?_ _)); refine blk_far ?_ NB573_588.out _; (with_reducible repeat (first | refine blk_drewN ?_ _ | refine blk_drew ?_ | refine blk_alloc ?_ _)); refine blk_far ?_ NB573_588.out _; (with_reducible repeat (first | refine blk_drewN ?_ _ | refine blk_drew ?_ | refine blk_alloc ?_ _)); exact BK573.out⟩; have n2_ : Aside0 (((((((((((w21.setCell ⟨gb588, 0, none⟩ (.string t576)).setCell ⟨gb588, 1, none⟩ (.slice Ao25 t577.length co25)).setCell ⟨gb588, 2, none⟩ (.string t580)).setCell ⟨gb588, 3, none⟩ (.string t581)).setCell ⟨gb588, 4, none⟩ (.string t582)).setCell ⟨gb588, 5, none⟩ (.int .i64 t583)).setCell ⟨gb588, 6, none⟩ (.int .i64 t584)).setCell ⟨gb588, 7, none⟩ (.bool t585)).setCell ⟨gb588, 8, none⟩ (.int .i64 t586)).setCell ⟨gb588, 9, none⟩ (.int .i64 t587)).heap[gb574]? = some (.cells #[.string a1_0, .slice A1_1 l1_1.length c1_1, .string a1_2, .string a1_3, .string a1_4, .int .i64 a1_5, .int .i64 a1_6, .bool a1_7, .int .i64 a1_8, .int .i64 a1_9] 28 (0, 0))) := ⟨by (with_reducible repeat (first | refine blk_drewN ?_ _ | refine blk_drew ?_ | refine blk_alloc ?_ _)); refine blk_far ?_ NB574_588.out _; (with_reducible repeat (first | refine blk_drewN ?_ _ | refine blk_drew ?_ | refine blk_alloc ?_ _)); refine blk_far ?_ NB574_588.out _; (with_reducible repeat (first | refine blk_drewN ?_ _ | refine blk_drew ?_ | refine blk_alloc ?_ _)); refine blk_far ?_ NB574_588.out _; (with_reducible repeat (first | refine blk_drewN ?_ _ | refine blk_drew ?_ | refine blk_alloc ?_ _)); refine blk_far ?_ NB574_588.out _; (with_reducible repeat (first | refine blk_drewN ?_ _ | refine blk_drew ?_ | refine blk_alloc ?_ _)); refine blk_far ?_ NB574_588.out _; (with_reducible repeat (first | refine blk_drewN ?_ _ | refine blk_drew ?_ | refine blk_alloc ?_ _)); refine blk_far ?_ NB574_588.out _; (with_reducible repeat (first | refine blk_drewN ?_ _ | refine blk_drew ?_ | refine blk_alloc ?_ _)); refine blk_far ?_ NB574_588.out _; (with_reducible repeat (first | refine blk_drewN ?_ _ | refine blk_drew ?_ | refine blk_alloc ?_ _)); refine blk_far ?_ NB574_588.out _; (with_reducible repeat (first | refine blk_drewN ?_ _ | refine blk_drew ?_ | refine blk_alloc ?_ _)); refine blk_far ?_ NB574_588.out _; (with_reducible repeat (first | refine blk_drewN ?_ _ | refine blk_drew ?_ | refine blk_alloc ?_ _)); refine blk_far ?_ NB574_588.out _; (with_reducible repeat (first | refine blk_drewN ?_ _ | refine blk_drew ?_ | refine blk_alloc ?_ _)); exact BK574.out⟩
       have n3_ : Aside0 (((((((((((w21.setCell ⟨gb588, 0, none⟩ (.string t576)).setCell ⟨gb588, 1, none⟩ (.slice Ao25 t577.length co25)).setCell ⟨gb588, 2, none⟩ (.string t580)).setCell ⟨gb588, 3, none⟩ (.string t581)).setCell ⟨gb588, 4, none⟩ (.string t582)).setCell ⟨gb588, 5, none⟩ (.int .i64 t583)).setCell ⟨gb588, 6, none⟩ (.int .i64 t584)).setCell ⟨gb588, 7, none⟩ (.bool t585)).setCell ⟨gb588, 8, none⟩ (.int .i64 t586)).setCell ⟨gb588, 9, none⟩ (.int .i64 t587)).heap[gb588]? = some (.cells #[.string t576, .slice Ao25 t577.length co25, .string t580, .string t581, .string t582, .int .i64 t583, .int .i64 t584, .bool t585, .int .i64 t586, .int .i64 t587] 28 (0, 0))) := ⟨by (with_reducible repeat (first | refine blk_drewN ?_ _ | refine blk_drew ?_ | refine blk_alloc ?_ _)); refine blk_put (cs := #[.string t576, .slice Ao25 t577.length co25, .string t580, .string t581, .string t582, .int .i64 t583, .int .i64 t584, .bool t585, .int .i64 t586, .int .i64 0]) ?_ 9 _ rfl; (with_reducible repeat (first | refine blk_drewN ?_ _ | refine blk_drew ?_ | refine blk_alloc ?_ _)); refine blk_put (cs := #[.string t576, .slice Ao25 t577.length co25, .string t580, .string t581, .string t582, .int .i64 t583, .int .i64 t584, .bool t585, .int .i64 0, .int .i64 0]) ?_ 8 _ rfl; (with_reducible repeat (first | refine blk_drewN ?_ _ | refine blk_drew ?_ | refine blk_alloc ?_ _)); refine blk_put (cs := #[.string t576, .slice Ao25 t577.length co25, .string t580, .string t581, .string t582, .int .i64 t583, .int .i64 t584, .bool false, .int .i64 0, .int .i64 0]) ?_ 7 _ rfl; (with_reducible repeat (first | refine blk_drewN ?_ _ | refine blk_drew ?_ | refine blk_alloc ?_ _)); refine blk_put (cs := #[.string t576, .slice Ao25 t577.length co25, .string t580, .string t581, .string t582, .int .i64 t583, .int .i64 0, .bool false, .int .i64 0, .int .i64 0]) ?_ 6 _ rfl; (with_reducible repeat (first | refine blk_drewN ?_ _ | refine blk_drew ?_ | refine blk_alloc ?_ _)); refine blk_put (cs := #[.string t576, .slice Ao25 t577.length co25, .string t580, .string t581, .string t582, .int .i64 0, .int .i64 0, .bool false, .int .i64 0, .int .i64 0]) ?_ 5 _ rfl; (with_reducible repeat (first | refine blk_drewN ?_ _ | refine blk_drew ?_ | refine blk_alloc ?_ _)); refine blk_put (cs := #[.string t576, .slice Ao25 t577.length co25, .string t580, .string t581, .string ⟨#[]⟩, .int .i64 0, .int .i64 0, .bool false, .int .i64 0, .int .i64 0]) ?_ 4 _ rfl; (with_reducible repeat (first | refine blk_drewN ?_ _ | refine blk_drew ?_ | refine blk_alloc ?_ _)); refine blk_put (cs := #[.string t576, .slice Ao25 t577.length co25, .string t580, .string ⟨#[]⟩, .string ⟨#[]⟩, .int .i64 0, .int .i64 0, .bool false, .int .i64 0, .int .i64 0]) ?_ 3 _ rfl; (with_reducible repeat (first | refine blk_drewN ?_ _ | refine blk_drew ?_ | refine blk_alloc ?_ _)); refine blk_put (cs := #[.string t576, .slice Ao25 t577.length co25, .string ⟨#[]⟩, .string ⟨#[]⟩, .string ⟨#[]⟩, .int .i64 0, .int .i64 0, .bool false, .int .i64 0, .int .i64 0]) ?_ 2 _ rfl; (with_reducible repeat (first | refine blk_drewN ?_ _ | refine blk_drew ?_ | refine blk_alloc ?_ _)); refine blk_put (cs := #[.string t576, .slice none 0 0, .string ⟨#[]⟩, .string ⟨#[]⟩, .string ⟨#[]⟩, .int .i64 0, .int .i64 0, .bool false, .int .i64 0, .int .i64 0]) ?_ 1 _ rfl; (with_reducible repeat (first | refine blk_drewN ?_ _ | refine blk_drew ?_ | refine blk_alloc ?_ _)); refine blk_put (cs := #[.string ⟨#[]⟩, .slice none 0 0, .string ⟨#[]⟩, .string ⟨#[]⟩, .string ⟨#[]⟩, .int .i64 0, .int .i64 0, .bool false, .int .i64 0, .int .i64 0]) ?_ 0 _ rfl; (with_reducible repeat (first | refine blk_drewN ?_ _ | refine blk_drew ?_ | refine blk_alloc ?_ _)); exact BK588.out⟩; have n4_ : Aside0 (Below w.heap.size w ((((((((((w21.setCell ⟨gb588, 0, none⟩ (.string t576)).setCell ⟨gb588, 1, none⟩ (.slice Ao25 t577.length co25)).setCell ⟨gb588, 2, none⟩ (.string t580)).setCell ⟨gb588, 3, none⟩ (.string t581)).setCell ⟨gb588, 4, none⟩ (.string t582)).setCell ⟨gb588, 5, none⟩ (.int .i64 t583)).setCell ⟨gb588, 6, none⟩ (.int .i64 t584)).setCell ⟨gb588, 7, none⟩ (.bool t585)).setCell ⟨gb588, 8, none⟩ (.int .i64 t586)).setCell ⟨gb588, 9, none⟩ (.int .i64 t587))) := ⟨beu HB.out⟩
       (try clear HO579)
       (try clear BK573)
       (try clear BK574)
       (try clear BK588)
       (try clear HB)
       generalize ((((((((((w21.setCell ⟨gb588, 0, none⟩ (.string t576)).setCell ⟨gb588, 1, none⟩ (.slice Ao25 t577.length co25)).setCell ⟨gb588, 2, none⟩ (.string t580)).setCell ⟨gb588, 3, none⟩ (.string t581)).setCell ⟨gb588, 4, none⟩ (.string t582)).setCell ⟨gb588, 5, none⟩ (.int .i64 t583)).setCell ⟨gb588, 6, none⟩ (.int .i64 t584)).setCell ⟨gb588, 7, none⟩ (.bool t585)).setCell ⟨gb588, 8, none⟩ (.int .i64 t586)).setCell ⟨gb588, 9, none⟩ (.int .i64 t587)) = w29 at n0_ n1_ n2_ n3_ n4_ ⊢; have HO579 := n0_; have BK573 := n1_; have BK574 := n2_; have BK588 := n3_; have HB := n4_; clear n0_ n1_ n2_ n3_ n4_
       (try (rw [drewN_self w29]; generalize hq_ : World.drewN w29 _ = w29; have _ := Aside0.mk (show Kd.R _ _ w29 _ _ _ _ from by rw [← hq_]; exact Kd.R_drewN HO579.out _); have _ := Aside0.mk (blk_at hq_ BK573.out); have _ := Aside0.mk (blk_at hq_ BK574.out); have _ := Aside0.mk (blk_at hq_ BK588.out); have _ := Aside0.mk (below_at hq_ HB.out); clear hq_ HO579 BK573 BK574 BK588 HB; rename_i HO579 BK573 BK574 BK588 HB))
       have n0_ := Aside0.mk (Kd.R_drew HO579.out); have n1_ := Aside0.mk (blk_drew BK573.out); have n2_ := Aside0.mk (blk_drew BK574.out); have n3_ := Aside0.mk (blk_drew BK588.out); have n4_ := Aside0.mk (below_drew1 HB.out); clear HO579 BK573 BK574 BK588 HB; have HO579 := n0_; have BK573 := n1_; have BK574 := n2_; have BK588 := n3_; have HB := n4_; clear n0_ n1_ n2_ n3_ n4_
       refine start_ (n := 20) (S := fun w' => w'.cell? ⟨gb573, 0, none⟩ = some (.string a0_0) ∧ w'.cell? ⟨gb573, 1, none⟩ = some (.slice A0_1 l0_1.length c0_1) ∧ w'.cell? ⟨gb573, 2, none⟩ = some (.string a0_2) ∧ w'.cell? ⟨gb573, 3, none⟩ = some (.string a0_3) ∧ w'.cell? ⟨gb573, 4, none⟩ = some (.string a0_4) ∧ w'.cell? ⟨gb573, 5, none⟩ = some (.int .i64 a0_5) ∧ w'.cell? ⟨gb573, 6, none⟩ = some (.int .i64 a0_6) ∧ w'.cell? ⟨gb573, 7, none⟩ = some (.bool a0_7) ∧ w'.cell? ⟨gb573, 8, none⟩ = some (.int .i64 a0_8) ∧ w'.cell? ⟨gb573, 9, none⟩ = some (.int .i64 a0_9)) (ds := []) #[false, false, false, false, false, false, false, false, false, false, false, false, false, false, false, false, false, false, false, false] (by kernel_rfl) rfl rfl ⟨(blk_cell BK573.out 0).trans rfl, (blk_cell BK573.out 1).trans rfl, (blk_cell BK573.out 2).trans rfl, (blk_cell BK573.out 3).trans rfl, (blk_cell BK573.out 4).trans rfl, (blk_cell BK573.out 5).trans rfl, (blk_cell BK573.out 6).trans rfl, (blk_cell BK573.out 7).trans rfl, (blk_cell BK573.out 8).trans rfl, (blk_cell BK573.out 9).trans rfl⟩ (fun hHeld => ?_); refine with_tabW packhorselaw10_OrderTells.tab6 packhorselaw10_OrderTells.bits6 (fun HT_ HW_ => ?_)
       generalize w29.drew = w30 at HO579 BK573 BK574 BK588 HB hHeld ⊢
       refine take_ (i := 0) (N := some 21) (v := ?_) (a' := ?_) (bs 20 1) rfl rfl (take_ofW HT_.out HW_.out (by kernel_rfl)) (fun _ _ _ h => h) (Or.inl ⟨by rfl, ?_⟩) hHeld ?_ ?_
       rotate_left
       ·rintro w' ⟨s0, s1, s2, s3, s4, s5, s6, s7, s8, s9⟩
        go_simp
        with_reducible rfl
       rotate_left
       ·simp only [Act.put, List.setIfInBounds_toArray, List.set_cons_zero, List.set_cons_succ, i64_w, i32_w]
        rfl
       refine take_ (i := 2) (N := some 23) (v := ?_) (a' := ?_) (bs 20 5) rfl rfl (take_ofW HT_.out HW_.out (by kernel_rfl)) (fun _ _ _ h => h) (Or.inl ⟨by rfl, ?_⟩) hHeld ?_ ?_
       rotate_left
       ·rintro w' ⟨s0, s1, s2, s3, s4, s5, s6, s7, s8, s9⟩
        go_simp
        with_reducible rfl
       rotate_left
       ·simp only [Act.put, List.setIfInBounds_toArray, List.set_cons_zero, List.set_cons_succ, i64_w, i32_w]
        rfl
       refine one_ (i := 1) (N := some 22) (bs 20 7) rfl rfl (one_of HT_.out (by kernel_rfl)) (by decide) (fun K hK => ?_)
       refine goes_ Tryd.func10 (by kernel_rfl) rfl #[.agg #[.string a0_0, .slice A0_1 l0_1.length c0_1, .string a0_2, .string a0_3, .string a0_4, .int .i64 a0_5, .int .i64 a0_6, .bool a0_7, .int .i64 a0_8, .int .i64 a0_9]] (by rfl) rfl rfl ap1 ?_
       with_reducible refine (order_Right.calls kj4 a0_0 _ _ l0_1 a0_2 a0_3 a0_4 a0_5 a0_6 a0_7 a0_8 a0_9 t589 _ ?side1 ?side2 ?side3 A26.out).mono ?_
       (case side1 => exact cu (Kd.C_below HR0_1.out HB.out))
       (case side2 => exact HC0_1.out)
       (case side3 => first | exact HT.out | exact Tabs.below HT.out (beu HB.out))
       rintro e w31 ⟨rfl, hb⟩
       refine ⟨_, rfl, ?_⟩
       have n0_ := Aside0.mk (Kd.R_below (ru HO579.out) hb); have n1_ := Aside0.mk (blk_below (bu BK573.out) hb); have n2_ := Aside0.mk (blk_below (bu BK574.out) hb); have n3_ := Aside0.mk (blk_below (bu BK588.out) hb); have n4_ := Aside0.mk (below_step (beu HB.out) hb); clear HO579 BK573 BK574 BK588 HB; have HO579 := n0_; have BK573 := n1_; have BK574 := n2_; have BK588 := n3_; have HB := n4_; clear n0_ n1_ n2_ n3_ n4_
       (try clear hb)
       (try clear hb2)
       (try clear hk)
       (try clear hi)
       refine hK.out _ _ ⟨(blk_cell BK573.out 0).trans rfl, (blk_cell BK573.out 1).trans rfl, (blk_cell BK573.out 2).trans rfl, (blk_cell BK573.out 3).trans rfl, (blk_cell BK573.out 4).trans rfl, (blk_cell BK573.out 5).trans rfl, (blk_cell BK573.out 6).trans rfl, (blk_cell BK573.out 7).trans rfl, (blk_cell BK573.out 8).trans rfl, (blk_cell BK573.out 9).trans rfl⟩ (fun hHeld => ?_)
       clear hK K
       refine norm_ (a' := ?_) ?_ ?_
       rotate_left
       ·show Act.put _ (some 22) _ = _
        simp only [Act.put, List.setIfInBounds_toArray, List.set_cons_zero, List.set_cons_succ, i64_w, i32_w]
        rfl
       refine one_ (i := 3) (N := some 24) (bs 20 15) rfl rfl (one_of HT_.out (by kernel_rfl)) (by decide) (fun K hK => ?_)
       refine goes_ Tryd.func13 (by kernel_rfl) rfl #[.agg #[.string a0_0, .slice A0_1 l0_1.length c0_1, .string a0_2, .string a0_3, .string a0_4, .int .i64 a0_5, .int .i64 a0_6, .bool a0_7, .int .i64 a0_8, .int .i64 a0_9]] (by rfl) rfl rfl ap1 ?_
       with_reducible refine (packhorseref10_Right.calls kj4 a0_0 _ _ l0_1 a0_2 a0_3 a0_4 a0_5 a0_6 a0_7 a0_8 a0_9 t590 _ ?side1 ?side2 A27.out).mono ?_
       (case side1 => exact cu (Kd.C_below HR0_1.out HB.out))
       (case side2 => exact HC0_1.out)
       rintro e w32 ⟨rfl, hb⟩
       refine ⟨_, rfl, ?_⟩
       have n0_ := Aside0.mk (Kd.R_below (ru HO579.out) hb); have n1_ := Aside0.mk (blk_below (bu BK573.out) hb); have n2_ := Aside0.mk (blk_below (bu BK574.out) hb); have n3_ := Aside0.mk (blk_below (bu BK588.out) hb); have n4_ := Aside0.mk (below_step (beu HB.out) hb); clear HO579 BK573 BK574 BK588 HB; have HO579 := n0_; have BK573 := n1_; have BK574 := n2_; have BK588 := n3_; have HB := n4_; clear n0_ n1_ n2_ n3_ n4_
       (try clear hb)
       (try clear hb2)
       (try clear hk)
       (try clear hi)
       refine hK.out _ _ ⟨(blk_cell BK573.out 0).trans rfl, (blk_cell BK573.out 1).trans rfl, (blk_cell BK573.out 2).trans rfl, (blk_cell BK573.out 3).trans rfl, (blk_cell BK573.out 4).trans rfl, (blk_cell BK573.out 5).trans rfl, (blk_cell BK573.out 6).trans rfl, (blk_cell BK573.out 7).trans rfl, (blk_cell BK573.out 8).trans rfl, (blk_cell BK573.out 9).trans rfl⟩ (fun hHeld => ?_)
       clear hK K
       refine norm_ (a' := ?_) ?_ ?_
       rotate_left
       ·show Act.put _ (some 24) _ = _
        simp only [Act.put, List.setIfInBounds_toArray, List.set_cons_zero, List.set_cons_succ, i64_w, i32_w]
        rfl
       refine pure_ (i := 4) (N := some 25) (v := ?_) (a' := ?_) (bs 20 31) rfl rfl (any_of HT_.out (by kernel_rfl)) (fun _ _ _ h => h) (Or.inl ⟨by rfl, ?_⟩) ?_ ?_
       rotate_left
       ·intro w'
        go_simp
        with_reducible rfl
       rotate_left
       ·simp only [Act.put, List.setIfInBounds_toArray, List.set_cons_zero, List.set_cons_succ, i64_w, i32_w]
        rfl
       refine pure_ (i := 5) (N := some 26) (v := ?_) (a' := ?_) (bs 20 63) rfl rfl (any_of HT_.out (by kernel_rfl)) (fun _ _ _ h => h) (Or.inl ⟨by rfl, ?_⟩) ?_ ?_
       rotate_left
       ·intro w'
        go_simp
        with_reducible rfl
       rotate_left
       ·simp only [Act.put, List.setIfInBounds_toArray, List.set_cons_zero, List.set_cons_succ, i64_w, i32_w]
        rfl
       refine pure_ (i := 6) (N := some 27) (v := undef) (a' := ?_) (bs 20 127) rfl rfl (any_of HT_.out (by kernel_rfl)) (fun _ _ _ h => h) (Or.inr ⟨by rfl, rfl⟩) ?_ ?_
       rotate_left
       ·simp only [Act.put, List.setIfInBounds_toArray, List.set_cons_zero, List.set_cons_succ, i64_w, i32_w]
        rfl
       refine pure_ (i := 7) (N := some 28) (v := undef) (a' := ?_) (bs 20 255) rfl rfl (any_of HT_.out (by kernel_rfl)) (fun _ _ _ h => h) (Or.inr ⟨by rfl, rfl⟩) ?_ ?_
       rotate_left
       ·simp only [Act.put, List.setIfInBounds_toArray, List.set_cons_zero, List.set_cons_succ, i64_w, i32_w]
        rfl
       refine pure_ (i := 8) (N := some 29) (v := undef) (a' := ?_) (bs 20 511) rfl rfl (any_of HT_.out (by kernel_rfl)) (fun _ _ _ h => h) (Or.inr ⟨by rfl, rfl⟩) ?_ ?_
       rotate_left
       ·simp only [Act.put, List.setIfInBounds_toArray, List.set_cons_zero, List.set_cons_succ, i64_w, i32_w]
        rfl
       refine pure_ (i := 9) (N := some 30) (v := undef) (a' := ?_) (bs 20 1023) rfl rfl (any_of HT_.out (by kernel_rfl)) (fun _ _ _ h => h) (Or.inr ⟨by rfl, rfl⟩) ?_ ?_
       rotate_left
       ·simp only [Act.put, List.setIfInBounds_toArray, List.set_cons_zero, List.set_cons_succ, i64_w, i32_w]
        rfl
       refine pure_ (i := 10) (N := some 31) (v := undef) (a' := ?_) (bs 20 2047) rfl rfl (any_of HT_.out (by kernel_rfl)) (fun _ _ _ h => h) (Or.inr ⟨by rfl, rfl⟩) ?_ ?_
       rotate_left
       ·simp only [Act.put, List.setIfInBounds_toArray, List.set_cons_zero, List.set_cons_succ, i64_w, i32_w]
        rfl
       refine pure_ (i := 11) (N := some 32) (v := undef) (a' := ?_) (bs 20 4095) rfl rfl (any_of HT_.out (by kernel_rfl)) (fun _ _ _ h => h) (Or.inr ⟨by rfl, rfl⟩) ?_ ?_
       rotate_left
       ·simp only [Act.put, List.setIfInBounds_toArray, List.set_cons_zero, List.set_cons_succ, i64_w, i32_w]
        rfl
       refine pure_ (i := 12) (N := some 33) (v := undef) (a' := ?_) (bs 20 8191) rfl rfl (any_of HT_.out (by kernel_rfl)) (fun _ _ _ h => h) (Or.inr ⟨by rfl, rfl⟩) ?_ ?_
       rotate_left
       ·simp only [Act.put, List.setIfInBounds_toArray, List.set_cons_zero, List.set_cons_succ, i64_w, i32_w]
        rfl
       refine pure_ (i := 13) (N := some 34) (v := ?_) (a' := ?_) (bs 20 16383) rfl rfl (any_of HT_.out (by kernel_rfl)) (fun _ _ _ h => h) (Or.inl ⟨by rfl, ?_⟩) ?_ ?_
       rotate_left
       ·intro w'
        go_simp
        with_reducible rfl
       rotate_left
       ·simp only [Act.put, List.setIfInBounds_toArray, List.set_cons_zero, List.set_cons_succ, i64_w, i32_w]
        rfl
       refine pure_ (i := 14) (N := some 35) (v := ?_) (a' := ?_) (bs 20 32767) rfl rfl (any_of HT_.out (by kernel_rfl)) (fun _ _ _ h => h) (Or.inl ⟨by rfl, ?_⟩) ?_ ?_
       rotate_left
       ·intro w'
        go_simp
        with_reducible rfl
       rotate_left
       ·simp only [Act.put, List.setIfInBounds_toArray, List.set_cons_zero, List.set_cons_succ, i64_w, i32_w]
        rfl
       refine pure_ (i := 15) (N := some 36) (v := undef) (a' := ?_) (bs 20 65535) rfl rfl (any_of HT_.out (by kernel_rfl)) (fun _ _ _ h => h) (Or.inr ⟨by rfl, rfl⟩) ?_ ?_
       rotate_left
       ·simp only [Act.put, List.setIfInBounds_toArray, List.set_cons_zero, List.set_cons_succ, i64_w, i32_w]
        rfl
       refine pure_ (i := 16) (N := some 37) (v := undef) (a' := ?_) (bs 20 131071) rfl rfl (any_of HT_.out (by kernel_rfl)) (fun _ _ _ h => h) (Or.inr ⟨by rfl, rfl⟩) ?_ ?_
       rotate_left
       ·simp only [Act.put, List.setIfInBounds_toArray, List.set_cons_zero, List.set_cons_succ, i64_w, i32_w]
        rfl
       refine pure_ (i := 17) (N := some 38) (v := undef) (a' := ?_) (bs 20 262143) rfl rfl (any_of HT_.out (by kernel_rfl)) (fun _ _ _ h => h) (Or.inr ⟨by rfl, rfl⟩) ?_ ?_
       rotate_left
       ·simp only [Act.put, List.setIfInBounds_toArray, List.set_cons_zero, List.set_cons_succ, i64_w, i32_w]
        rfl
       refine pure_ (i := 18) (N := some 39) (v := undef) (a' := ?_) (bs 20 524287) rfl rfl (any_of HT_.out (by kernel_rfl)) (fun _ _ _ h => h) (Or.inr ⟨by rfl, rfl⟩) ?_ ?_
       rotate_left
       ·simp only [Act.put, List.setIfInBounds_toArray, List.set_cons_zero, List.set_cons_succ, i64_w, i32_w]
        rfl
       refine pure_ (i := 19) (N := some 40) (v := ?_) (a' := ?_) (bs 20 1048575) rfl rfl (any_of HT_.out (by kernel_rfl)) (fun _ _ _ h => h) (Or.inl ⟨by rfl, ?_⟩) ?_ ?_
       rotate_left
       ·intro w'
        go_simp
        with_reducible rfl
       rotate_left
       ·simp only [Act.put, List.setIfInBounds_toArray, List.set_cons_zero, List.set_cons_succ, i64_w, i32_w]
        rfl
       refine done_ (done_of HT_.out (by kernel_rfl)) ?_
       try go_wp2
       go_meet
       case rel => exact ⟨_, (true), ap3, H', ⟨by have := HJ4.out; first | omega | exact Nat.le_refl _⟩, ⟨ru HO579.out⟩, ⟨by (with_reducible repeat (first | refine blk_drewN ?_ _ | refine blk_drew ?_ | refine blk_alloc ?_ _)); exact BK573.out⟩, ⟨by (with_reducible repeat (first | refine blk_drewN ?_ _ | refine blk_drew ?_ | refine blk_alloc ?_ _)); exact BK574.out⟩, ⟨by (with_reducible repeat (first | refine blk_drewN ?_ _ | refine blk_drew ?_ | refine blk_alloc ?_ _)); exact BK588.out⟩, ⟨beu HB.out⟩⟩
      ·rw [if_neg c28] at H
       have c28b0 : (t589 != t590) = false := by simpa using c28
       (try (have c28b1 : decide (t589 = t590) = true := by simpa using c28))
       (try (have c28b2 : (t589 == t590) = true := by simpa using c28))
       clear c28
       (first | rw [c28b0] | (simp only [i64_w, i32_w]; rw [c28b0]) | skip)
       replace H := obm H; obtain ⟨t591, A330, H⟩ := H; replace H : ((packhorseref10_Same.f kj4 a0_0 l0_1 a0_2 a0_3 a0_4 a0_5 a0_6 a0_7 a0_8 a0_9 a1_0 l1_1 a1_2 a1_3 a1_4 a1_5 a1_6 a1_7 a1_8 a1_9).bind fun t592 => (if (t591 != t592) = true then (packhorselaw10_OrderTells.j1 kj4 true a0_0 l0_1 a0_2 a0_3 a0_4 a0_5 a0_6 a0_7 a0_8 a0_9 t576 t577 t580 t581 t582 t583 t584 t585 t586 t587) else ((order_Same.f kj4 a0_0 l0_1 a0_2 a0_3 a0_4 a0_5 a0_6 a0_7 a0_8 a0_9 t576 t577 t580 t581 t582 t583 t584 t585 t586 t587).bind fun t593 => (packhorselaw10_OrderTells.j1 kj4 (!t593) a0_0 l0_1 a0_2 a0_3 a0_4 a0_5 a0_6 a0_7 a0_8 a0_9 t576 t577 t580 t581 t582 t583 t584 t585 t586 t587)))) = some r := H; have A33 := Aside0.mk A330; clear A330; replace H := obm H; obtain ⟨t592, A340, H⟩ := H; replace H : (if (t591 != t592) = true then (packhorselaw10_OrderTells.j1 kj4 true a0_0 l0_1 a0_2 a0_3 a0_4 a0_5 a0_6 a0_7 a0_8 a0_9 t576 t577 t580 t581 t582 t583 t584 t585 t586 t587) else ((order_Same.f kj4 a0_0 l0_1 a0_2 a0_3 a0_4 a0_5 a0_6 a0_7 a0_8 a0_9 t576 t577 t580 t581 t582 t583 t584 t585 t586 t587).bind fun t593 => (packhorselaw10_OrderTells.j1 kj4 (!t593) a0_0 l0_1 a0_2 a0_3 a0_4 a0_5 a0_6 a0_7 a0_8 a0_9 t576 t577 t580 t581 t582 t583 t584 t585 t586 t587))) = some r := H; have A34 := Aside0.mk A340; clear A340
       by_cases c35 : (t591 != t592) = true
       ·rw [if_pos c35] at H
        have c35b0 : (t591 != t592) = true := c35
        (try (have c35b1 : decide (t591 = t592) = false := by simpa using c35))
        (try (have c35b2 : (t591 == t592) = false := by simpa using c35))
        (try (have c35b3 : ¬ (t591 = t592) := by simpa using c35))
        clear c35; have H' := Aside0.mk H; clear H
        try go_wp2
        have n0_ : Aside0 (Kd.R k52 52 ((((((((((w21.setCell ⟨gb588, 0, none⟩ (.string t576)).setCell ⟨gb588, 1, none⟩ (.slice Ao25 t577.length co25)).setCell ⟨gb588, 2, none⟩ (.string t580)).setCell ⟨gb588, 3, none⟩ (.string t581)).setCell ⟨gb588, 4, none⟩ (.string t582)).setCell ⟨gb588, 5, none⟩ (.int .i64 t583)).setCell ⟨gb588, 6, none⟩ (.int .i64 t584)).setCell ⟨gb588, 7, none⟩ (.bool t585)).setCell ⟨gb588, 8, none⟩ (.int .i64 t586)).setCell ⟨gb588, 9, none⟩ (.int .i64 t587)) w.heap.size (fun _ => True) (.slice Ao25 t577.length co25) t577) := ⟨ru (Kd.R_mono (Kd.R_far (p := ⟨gb588, 9, none⟩) (Kd.R_far (p := ⟨gb588, 8, none⟩) (Kd.R_far (p := ⟨gb588, 7, none⟩) (Kd.R_far (p := ⟨gb588, 6, none⟩) (Kd.R_far (p := ⟨gb588, 5, none⟩) (Kd.R_far (p := ⟨gb588, 4, none⟩) (Kd.R_far (p := ⟨gb588, 3, none⟩) (Kd.R_far (p := ⟨gb588, 2, none⟩) (Kd.R_far (p := ⟨gb588, 1, none⟩) (Kd.R_far (p := ⟨gb588, 0, none⟩) (Kd.R_types HO579.out BK588.out (by decide)) (fun _ hk => hk.2) (.string t576)) (fun _ hk => hk.2) (.slice Ao25 t577.length co25)) (fun _ hk => hk.2) (.string t580)) (fun _ hk => hk.2) (.string t581)) (fun _ hk => hk.2) (.string t582)) (fun _ hk => hk.2) (.int .i64 t583)) (fun _ hk => hk.2) (.int .i64 t584)) (fun _ hk => hk.2) (.bool t585)) (fun _ hk => hk.2) (.int .i64 t586)) (fun _ hk => hk.2) (.int .i64 t587)) (fun _ hk => trivial))⟩; have n1_ : Aside0 (((((((((((w21.setCell ⟨gb588, 0, none⟩ (.string t576)).setCell ⟨gb588, 1, none⟩ (.slice Ao25 t577.length co25)).setCell ⟨gb588, 2, none⟩ (.string t580)).setCell ⟨gb588, 3, none⟩ (.string t581)).setCell ⟨gb588, 4, none⟩ (.string t582)).setCell ⟨gb588, 5, none⟩ (.int .i64 t583)).setCell ⟨gb588, 6, none⟩ (.int .i64 t584)).setCell ⟨gb588, 7, none⟩ (.bool t585)).setCell ⟨gb588, 8, none⟩ (.int .i64 t586)).setCell ⟨gb588, 9, none⟩ (.int .i64 t587)).heap[gb573]? = some (.cells #[.string a0_0, .slice A0_1 l0_1.length c0_1, .string a0_2, .string a0_3, .string a0_4, .int .i64 a0_5, .int .i64 a0_6, .bool a0_7, .int .i64 a0_8, .int .i64 a0_9] 28 (0, 0))) := ⟨by (with_reducible repeat (first | refine blk_drewN ?_ _ | refine blk_drew ?_ | refine blk_alloc ?_ _)); refine blk_far ?_ NB573_588.out _; (with_reducible repeat (first | refine blk_drewN ?_ _ | refine blk_drew ?_ | refine blk_alloc ?_ _)); refine blk_far ?_ NB573_588.out _; (with_reducible repeat (first | refine blk_drewN ?_ _ | refine blk_drew ?_ | refine blk_alloc ?_ _)); refine blk_far ?_ NB573_588.out _; (with_reducible repeat (first | refine blk_drewN ?_ _ | refine blk_drew ?_ | refine blk_alloc ?_ _)); refine blk_far ?_ NB573_588.out _; (with_reducible repeat (first | refine blk_drewN ?_ _ | refine blk_drew ?_ | refine blk_alloc ?_ _)); refine blk_far ?_ NB573_588.out _; (with_reducible repeat (first | refine blk_drewN ?_ _ | refine blk_drew ?_ | refine blk_alloc ?_ _)); refine blk_far ?_ NB573_588.out _; (with_reducible repeat (first | refine blk_drewN ?_ _ | refine blk_drew ?_ | refine blk_alloc ?_ _)); refine blk_far ?_ NB573_588.out _; (with_reducible repeat (first | refine blk_drewN ?_ _ | refine blk_drew ?_ | refine blk_alloc ?_ _)); refine blk_far ?_ NB573_588.out _; (with_reducible repeat (first | refine blk_drewN ?_ _ | refine blk_drew ?_ | refine blk_alloc ?_ _)); refine blk_far ?_ NB573_588.out _; (with_reducible repeat (first | refine blk_drewN ?_ _ | refine blk_drew ?_ | refine blk_alloc ?_ _)); refine blk_far ?_ NB573_588.out _; (with_reducible repeat (first | refine blk_drewN ?_ _ | refine blk_drew ?_ | refine blk_alloc ?_ _)); exact BK573.out⟩; have n2_ : Aside0 (((((((((((w21.setCell ⟨gb588, 0, none⟩ (.string t576)).setCell ⟨gb588, 1, none⟩ (.slice Ao25 t577.length co25)).setCell ⟨gb588, 2, none⟩ (.string t580)).setCell ⟨gb588, 3, none⟩ (.string t581)).setCell ⟨gb588, 4, none⟩ (.string t582)).setCell ⟨gb588, 5, none⟩ (.int .i64 t583)).setCell ⟨gb588, 6, none⟩ (.int .i64 t584)).setCell ⟨gb588, 7, none⟩ (.bool t585)).setCell ⟨gb588, 8, none⟩ (.int .i64 t586)).setCell ⟨gb588, 9, none⟩ (.int .i64 t587)).heap[gb574]? = some (.cells #[.string a1_0, .slice A1_1 l1_1.length c1_1, .string a1_2, .string a1_3, .string a1_4, .int .i64 a1_5, .int .i64 a1_6, .bool a1_7, .int .i64 a1_8, .int .i64 a1_9] 28 (0, 0))) := ⟨by (with_reducible repeat (first | refine blk_drewN ?_ _ | refine blk_drew ?_ | refine blk_alloc ?_ _)); refine blk_far ?_ NB574_588.out _; (with_reducible repeat (first | refine blk_drewN ?_ _ | refine blk_drew ?_ | refine blk_alloc ?_ _)); refine blk_far ?_ NB574_588.out _; (with_reducible repeat (first | refine blk_drewN ?_ _ | refine blk_drew ?_ | refine blk_alloc ?_ _)); refine blk_far ?_ NB574_588.out _; (with_reducible repeat (first | refine blk_drewN ?_ _ | refine blk_drew ?_ | refine blk_alloc ?_ _)); refine blk_far ?_ NB574_588.out _; (with_reducible repeat (first | refine blk_drewN ?_ _ | refine blk_drew ?_ | refine blk_alloc ?_ _)); refine blk_far ?_ NB574_588.out _; (with_reducible repeat (first | refine blk_drewN ?_ _ | refine blk_drew ?_ | refine blk_alloc ?_ _)); refine blk_far ?_ NB574_588.out _; (with_reducible repeat (first | refine blk_drewN ?_ _ | refine blk_drew ?_ | refine blk_alloc ?_ _)); refine blk_far ?_ NB574_588.out _; (with_reducible repeat (first | refine blk_drewN ?_ _ | refine blk_drew ?_ | refine blk_alloc ?_ _)); refine blk_far ?_ NB574_588.out _; (with_reducible repeat (first | refine blk_drewN ?_ _ | refine blk_drew ?_ | refine blk_alloc ?_ _)); refine blk_far ?_ NB574_588.out _; (with_reducible repeat (first | refine blk_drewN ?_ _ | refine blk_drew ?_ | refine blk_alloc ?_ _)); refine blk_far ?_ NB574_588.out _; (with_reducible repeat (first | refine blk_drewN ?_ _ | refine blk_drew ?_ | refine blk_alloc ?_ _)); exact BK574.out⟩
        have n3_ : Aside0 (((((((((((w21.setCell ⟨gb588, 0, none⟩ (.string t576)).setCell ⟨gb588, 1, none⟩ (.slice Ao25 t577.length co25)).setCell ⟨gb588, 2, none⟩ (.string t580)).setCell ⟨gb588, 3, none⟩ (.string t581)).setCell ⟨gb588, 4, none⟩ (.string t582)).setCell ⟨gb588, 5, none⟩ (.int .i64 t583)).setCell ⟨gb588, 6, none⟩ (.int .i64 t584)).setCell ⟨gb588, 7, none⟩ (.bool t585)).setCell ⟨gb588, 8, none⟩ (.int .i64 t586)).setCell ⟨gb588, 9, none⟩ (.int .i64 t587)).heap[gb588]? = some (.cells #[.string t576, .slice Ao25 t577.length co25, .string t580, .string t581, .string t582, .int .i64 t583, .int .i64 t584, .bool t585, .int .i64 t586, .int .i64 t587] 28 (0, 0))) := ⟨by (with_reducible repeat (first | refine blk_drewN ?_ _ | refine blk_drew ?_ | refine blk_alloc ?_ _)); refine blk_put (cs := #[.string t576, .slice Ao25 t577.length co25, .string t580, .string t581, .string t582, .int .i64 t583, .int .i64 t584, .bool t585, .int .i64 t586, .int .i64 0]) ?_ 9 _ rfl; (with_reducible repeat (first | refine blk_drewN ?_ _ | refine blk_drew ?_ | refine blk_alloc ?_ _)); refine blk_put (cs := #[.string t576, .slice Ao25 t577.length co25, .string t580, .string t581, .string t582, .int .i64 t583, .int .i64 t584, .bool t585, .int .i64 0, .int .i64 0]) ?_ 8 _ rfl; (with_reducible repeat (first | refine blk_drewN ?_ _ | refine blk_drew ?_ | refine blk_alloc ?_ _)); refine blk_put (cs := #[.string t576, .slice Ao25 t577.length co25, .string t580, .string t581, .string t582, .int .i64 t583, .int .i64 t584, .bool false, .int .i64 0, .int .i64 0]) ?_ 7 _ rfl; (with_reducible repeat (first | refine blk_drewN ?_ _ | refine blk_drew ?_ | refine blk_alloc ?_ _)); refine blk_put (cs := #[.string t576, .slice Ao25 t577.length co25, .string t580, .string t581, .string t582, .int .i64 t583, .int .i64 0, .bool false, .int .i64 0, .int .i64 0]) ?_ 6 _ rfl; (with_reducible repeat (first | refine blk_drewN ?_ _ | refine blk_drew ?_ | refine blk_alloc ?_ _)); refine blk_put (cs := #[.string t576, .slice Ao25 t577.length co25, .string t580, .string t581, .string t582, .int .i64 0, .int .i64 0, .bool false, .int .i64 0, .int .i64 0]) ?_ 5 _ rfl; (with_reducible repeat (first | refine blk_drewN ?_ _ | refine blk_drew ?_ | refine blk_alloc ?_ _)); refine blk_put (cs := #[.string t576, .slice Ao25 t577.length co25, .string t580, .string t581, .string ⟨#[]⟩, .int .i64 0, .int .i64 0, .bool false, .int .i64 0, .int .i64 0]) ?_ 4 _ rfl; (with_reducible repeat (first | refine blk_drewN ?_ _ | refine blk_drew ?_ | refine blk_alloc ?_ _)); refine blk_put (cs := #[.string t576, .slice Ao25 t577.length co25, .string t580, .string ⟨#[]⟩, .string ⟨#[]⟩, .int .i64 0, .int .i64 0, .bool false, .int .i64 0, .int .i64 0]) ?_ 3 _ rfl; (with_reducible repeat (first | refine blk_drewN ?_ _ | refine blk_drew ?_ | refine blk_alloc ?_ _)); refine blk_put (cs := #[.string t576, .slice Ao25 t577.length co25, .string ⟨#[]⟩, .string ⟨#[]⟩, .string ⟨#[]⟩, .int .i64 0, .int .i64 0, .bool false, .int .i64 0, .int .i64 0]) ?_ 2 _ rfl; (with_reducible repeat (first | refine blk_drewN ?_ _ | refine blk_drew ?_ | refine blk_alloc ?_ _)); refine blk_put (cs := #[.string t576, .slice none 0 0, .string ⟨#[]⟩, .string ⟨#[]⟩, .string ⟨#[]⟩, .int .i64 0, .int .i64 0, .bool false, .int .i64 0, .int .i64 0]) ?_ 1 _ rfl; (with_reducible repeat (first | refine blk_drewN ?_ _ | refine blk_drew ?_ | refine blk_alloc ?_ _)); refine blk_put (cs := #[.string ⟨#[]⟩, .slice none 0 0, .string ⟨#[]⟩, .string ⟨#[]⟩, .string ⟨#[]⟩, .int .i64 0, .int .i64 0, .bool false, .int .i64 0, .int .i64 0]) ?_ 0 _ rfl; (with_reducible repeat (first | refine blk_drewN ?_ _ | refine blk_drew ?_ | refine blk_alloc ?_ _)); exact BK588.out⟩; have n4_ : Aside0 (Below w.heap.size w ((((((((((w21.setCell ⟨gb588, 0, none⟩ (.string t576)).setCell ⟨gb588, 1, none⟩ (.slice Ao25 t577.length co25)).setCell ⟨gb588, 2, none⟩ (.string t580)).setCell ⟨gb588, 3, none⟩ (.string t581)).setCell ⟨gb588, 4, none⟩ (.string t582)).setCell ⟨gb588, 5, none⟩ (.int .i64 t583)).setCell ⟨gb588, 6, none⟩ (.int .i64 t584)).setCell ⟨gb588, 7, none⟩ (.bool t585)).setCell ⟨gb588, 8, none⟩ (.int .i64 t586)).setCell ⟨gb588, 9, none⟩ (.int .i64 t587))) := ⟨beu HB.out⟩
        (try clear HO579)
        (try clear BK573)
        (try clear BK574)
        (try clear BK588)
        (try clear HB)
        generalize ((((((((((w21.setCell ⟨gb588, 0, none⟩ (.string t576)).setCell ⟨gb588, 1, none⟩ (.slice Ao25 t577.length co25)).setCell ⟨gb588, 2, none⟩ (.string t580)).setCell ⟨gb588, 3, none⟩ (.string t581)).setCell ⟨gb588, 4, none⟩ (.string t582)).setCell ⟨gb588, 5, none⟩ (.int .i64 t583)).setCell ⟨gb588, 6, none⟩ (.int .i64 t584)).setCell ⟨gb588, 7, none⟩ (.bool t585)).setCell ⟨gb588, 8, none⟩ (.int .i64 t586)).setCell ⟨gb588, 9, none⟩ (.int .i64 t587)) = w36 at n0_ n1_ n2_ n3_ n4_ ⊢; have HO579 := n0_; have BK573 := n1_; have BK574 := n2_; have BK588 := n3_; have HB := n4_; clear n0_ n1_ n2_ n3_ n4_
        (try (rw [drewN_self w36]; generalize hq_ : World.drewN w36 _ = w36; have _ := Aside0.mk (show Kd.R _ _ w36 _ _ _ _ from by rw [← hq_]; exact Kd.R_drewN HO579.out _); have _ := Aside0.mk (blk_at hq_ BK573.out); have _ := Aside0.mk (blk_at hq_ BK574.out); have _ := Aside0.mk (blk_at hq_ BK588.out); have _ := Aside0.mk (below_at hq_ HB.out); clear hq_ HO579 BK573 BK574 BK588 HB; rename_i HO579 BK573 BK574 BK588 HB))
        have n0_ := Aside0.mk (Kd.R_drew HO579.out); have n1_ := Aside0.mk (blk_drew BK573.out); have n2_ := Aside0.mk (blk_drew BK574.out); have n3_ := Aside0.mk (blk_drew BK588.out); have n4_ := Aside0.mk (below_drew1 HB.out); clear HO579 BK573 BK574 BK588 HB; have HO579 := n0_; have BK573 := n1_; have BK574 := n2_; have BK588 := n3_; have HB := n4_; clear n0_ n1_ n2_ n3_ n4_
        refine start_ (n := 20) (S := fun w' => w'.cell? ⟨gb573, 0, none⟩ = some (.string a0_0) ∧ w'.cell? ⟨gb573, 1, none⟩ = some (.slice A0_1 l0_1.length c0_1) ∧ w'.cell? ⟨gb573, 2, none⟩ = some (.string a0_2) ∧ w'.cell? ⟨gb573, 3, none⟩ = some (.string a0_3) ∧ w'.cell? ⟨gb573, 4, none⟩ = some (.string a0_4) ∧ w'.cell? ⟨gb573, 5, none⟩ = some (.int .i64 a0_5) ∧ w'.cell? ⟨gb573, 6, none⟩ = some (.int .i64 a0_6) ∧ w'.cell? ⟨gb573, 7, none⟩ = some (.bool a0_7) ∧ w'.cell? ⟨gb573, 8, none⟩ = some (.int .i64 a0_8) ∧ w'.cell? ⟨gb573, 9, none⟩ = some (.int .i64 a0_9) ∧ w'.cell? ⟨gb574, 0, none⟩ = some (.string a1_0) ∧ w'.cell? ⟨gb574, 1, none⟩ = some (.slice A1_1 l1_1.length c1_1) ∧ w'.cell? ⟨gb574, 2, none⟩ = some (.string a1_2) ∧ w'.cell? ⟨gb574, 3, none⟩ = some (.string a1_3) ∧ w'.cell? ⟨gb574, 4, none⟩ = some (.string a1_4) ∧ w'.cell? ⟨gb574, 5, none⟩ = some (.int .i64 a1_5) ∧ w'.cell? ⟨gb574, 6, none⟩ = some (.int .i64 a1_6) ∧ w'.cell? ⟨gb574, 7, none⟩ = some (.bool a1_7) ∧ w'.cell? ⟨gb574, 8, none⟩ = some (.int .i64 a1_8) ∧ w'.cell? ⟨gb574, 9, none⟩ = some (.int .i64 a1_9)) (ds := []) #[false, false, false, false, false, false, false, false, false, false, false, false, false, false, false, false, false, false, false, false] (by kernel_rfl) rfl rfl ⟨(blk_cell BK573.out 0).trans rfl, (blk_cell BK573.out 1).trans rfl, (blk_cell BK573.out 2).trans rfl, (blk_cell BK573.out 3).trans rfl, (blk_cell BK573.out 4).trans rfl, (blk_cell BK573.out 5).trans rfl, (blk_cell BK573.out 6).trans rfl, (blk_cell BK573.out 7).trans rfl, (blk_cell BK573.out 8).trans rfl, (blk_cell BK573.out 9).trans rfl, (blk_cell BK574.out 0).trans rfl, (blk_cell BK574.out 1).trans rfl, (blk_cell BK574.out 2).trans rfl, (blk_cell BK574.out 3).trans rfl, (blk_cell BK574.out 4).trans rfl, (blk_cell BK574.out 5).trans rfl, (blk_cell BK574.out 6).trans rfl, (blk_cell BK574.out 7).trans rfl, (blk_cell BK574.out 8).trans rfl, (blk_cell BK574.out 9).trans rfl⟩ (fun hHeld => ?_); refine with_tabW packhorselaw10_OrderTells.tab6 packhorselaw10_OrderTells.bits6 (fun HT_ HW_ => ?_)
        generalize w36.drew = w37 at HO579 BK573 BK574 BK588 HB hHeld ⊢
        refine take_ (i := 0) (N := some 21) (v := ?_) (a' := ?_) (bs 20 1) rfl rfl (take_ofW HT_.out HW_.out (by kernel_rfl)) (fun _ _ _ h => h) (Or.inl ⟨by rfl, ?_⟩) hHeld ?_ ?_
        rotate_left
        ·rintro w' ⟨s0, s1, s2, s3, s4, s5, s6, s7, s8, s9, s10, s11, s12, s13, s14, s15, s16, s17, s18, s19⟩
         go_simp
         with_reducible rfl
        rotate_left
        ·simp only [Act.put, List.setIfInBounds_toArray, List.set_cons_zero, List.set_cons_succ, i64_w, i32_w]
         rfl
        refine take_ (i := 2) (N := some 23) (v := ?_) (a' := ?_) (bs 20 5) rfl rfl (take_ofW HT_.out HW_.out (by kernel_rfl)) (fun _ _ _ h => h) (Or.inl ⟨by rfl, ?_⟩) hHeld ?_ ?_
        rotate_left
        ·rintro w' ⟨s0, s1, s2, s3, s4, s5, s6, s7, s8, s9, s10, s11, s12, s13, s14, s15, s16, s17, s18, s19⟩
         go_simp
         with_reducible rfl
        rotate_left
        ·simp only [Act.put, List.setIfInBounds_toArray, List.set_cons_zero, List.set_cons_succ, i64_w, i32_w]
         rfl
        refine one_ (i := 1) (N := some 22) (bs 20 7) rfl rfl (one_of HT_.out (by kernel_rfl)) (by decide) (fun K hK => ?_)
        refine goes_ Tryd.func10 (by kernel_rfl) rfl #[.agg #[.string a0_0, .slice A0_1 l0_1.length c0_1, .string a0_2, .string a0_3, .string a0_4, .int .i64 a0_5, .int .i64 a0_6, .bool a0_7, .int .i64 a0_8, .int .i64 a0_9]] (by rfl) rfl rfl ap1 ?_
        with_reducible refine (order_Right.calls kj4 a0_0 _ _ l0_1 a0_2 a0_3 a0_4 a0_5 a0_6 a0_7 a0_8 a0_9 t589 _ ?side1 ?side2 ?side3 A26.out).mono ?_
        (case side1 => exact cu (Kd.C_below HR0_1.out HB.out))
        (case side2 => exact HC0_1.out)
        (case side3 => first | exact HT.out | exact Tabs.below HT.out (beu HB.out))
        rintro e w38 ⟨rfl, hb⟩
        refine ⟨_, rfl, ?_⟩
        have n0_ := Aside0.mk (Kd.R_below (ru HO579.out) hb); have n1_ := Aside0.mk (blk_below (bu BK573.out) hb); have n2_ := Aside0.mk (blk_below (bu BK574.out) hb); have n3_ := Aside0.mk (blk_below (bu BK588.out) hb); have n4_ := Aside0.mk (below_step (beu HB.out) hb); clear HO579 BK573 BK574 BK588 HB; have HO579 := n0_; have BK573 := n1_; have BK574 := n2_; have BK588 := n3_; have HB := n4_; clear n0_ n1_ n2_ n3_ n4_
        (try clear hb)
        (try clear hb2)
        (try clear hk)
        (try clear hi)
        refine hK.out _ _ ⟨(blk_cell BK573.out 0).trans rfl, (blk_cell BK573.out 1).trans rfl, (blk_cell BK573.out 2).trans rfl, (blk_cell BK573.out 3).trans rfl, (blk_cell BK573.out 4).trans rfl, (blk_cell BK573.out 5).trans rfl, (blk_cell BK573.out 6).trans rfl, (blk_cell BK573.out 7).trans rfl, (blk_cell BK573.out 8).trans rfl, (blk_cell BK573.out 9).trans rfl, (blk_cell BK574.out 0).trans rfl, (blk_cell BK574.out 1).trans rfl, (blk_cell BK574.out 2).trans rfl, (blk_cell BK574.out 3).trans rfl, (blk_cell BK574.out 4).trans rfl, (blk_cell BK574.out 5).trans rfl, (blk_cell BK574.out 6).trans rfl, (blk_cell BK574.out 7).trans rfl, (blk_cell BK574.out 8).trans rfl, (blk_cell BK574.out 9).trans rfl⟩ (fun hHeld => ?_)
        clear hK K
        refine norm_ (a' := ?_) ?_ ?_
        rotate_left
        ·show Act.put _ (some 22) _ = _
         simp only [Act.put, List.setIfInBounds_toArray, List.set_cons_zero, List.set_cons_succ, i64_w, i32_w]
         rfl
        refine one_ (i := 3) (N := some 24) (bs 20 15) rfl rfl (one_of HT_.out (by kernel_rfl)) (by decide) (fun K hK => ?_)
        refine goes_ Tryd.func13 (by kernel_rfl) rfl #[.agg #[.string a0_0, .slice A0_1 l0_1.length c0_1, .string a0_2, .string a0_3, .string a0_4, .int .i64 a0_5, .int .i64 a0_6, .bool a0_7, .int .i64 a0_8, .int .i64 a0_9]] (by rfl) rfl rfl ap1 ?_
        with_reducible refine (packhorseref10_Right.calls kj4 a0_0 _ _ l0_1 a0_2 a0_3 a0_4 a0_5 a0_6 a0_7 a0_8 a0_9 t590 _ ?side1 ?side2 A27.out).mono ?_
        (case side1 => exact cu (Kd.C_below HR0_1.out HB.out))
        (case side2 => exact HC0_1.out)
        rintro e w39 ⟨rfl, hb⟩
        refine ⟨_, rfl, ?_⟩
        have n0_ := Aside0.mk (Kd.R_below (ru HO579.out) hb); have n1_ := Aside0.mk (blk_below (bu BK573.out) hb); have n2_ := Aside0.mk (blk_below (bu BK574.out) hb); have n3_ := Aside0.mk (blk_below (bu BK588.out) hb); have n4_ := Aside0.mk (below_step (beu HB.out) hb); clear HO579 BK573 BK574 BK588 HB; have HO579 := n0_; have BK573 := n1_; have BK574 := n2_; have BK588 := n3_; have HB := n4_; clear n0_ n1_ n2_ n3_ n4_
        (try clear hb)
        (try clear hb2)
        (try clear hk)
        (try clear hi)
        refine hK.out _ _ ⟨(blk_cell BK573.out 0).trans rfl, (blk_cell BK573.out 1).trans rfl, (blk_cell BK573.out 2).trans rfl, (blk_cell BK573.out 3).trans rfl, (blk_cell BK573.out 4).trans rfl, (blk_cell BK573.out 5).trans rfl, (blk_cell BK573.out 6).trans rfl, (blk_cell BK573.out 7).trans rfl, (blk_cell BK573.out 8).trans rfl, (blk_cell BK573.out 9).trans rfl, (blk_cell BK574.out 0).trans rfl, (blk_cell BK574.out 1).trans rfl, (blk_cell BK574.out 2).trans rfl, (blk_cell BK574.out 3).trans rfl, (blk_cell BK574.out 4).trans rfl, (blk_cell BK574.out 5).trans rfl, (blk_cell BK574.out 6).trans rfl, (blk_cell BK574.out 7).trans rfl, (blk_cell BK574.out 8).trans rfl, (blk_cell BK574.out 9).trans rfl⟩ (fun hHeld => ?_)
        clear hK K
        refine norm_ (a' := ?_) ?_ ?_
        rotate_left
        ·show Act.put _ (some 24) _ = _
         simp only [Act.put, List.setIfInBounds_toArray, List.set_cons_zero, List.set_cons_succ, i64_w, i32_w]
         rfl
        refine pure_ (i := 4) (N := some 25) (v := ?_) (a' := ?_) (bs 20 31) rfl rfl (any_of HT_.out (by kernel_rfl)) (fun _ _ _ h => h) (Or.inl ⟨by rfl, ?_⟩) ?_ ?_
        rotate_left
        ·intro w'
         go_simp
         with_reducible rfl
        rotate_left
        ·simp only [Act.put, List.setIfInBounds_toArray, List.set_cons_zero, List.set_cons_succ, i64_w, i32_w]
         rfl
        refine pure_ (i := 5) (N := some 26) (v := ?_) (a' := ?_) (bs 20 63) rfl rfl (any_of HT_.out (by kernel_rfl)) (fun _ _ _ h => h) (Or.inl ⟨by rfl, ?_⟩) ?_ ?_
        rotate_left
        ·intro w'
         go_simp
         with_reducible rfl
        rotate_left
        ·simp only [Act.put, List.setIfInBounds_toArray, List.set_cons_zero, List.set_cons_succ, i64_w, i32_w]
         rfl
        refine take_ (i := 6) (N := some 27) (v := ?_) (a' := ?_) (bs 20 127) rfl rfl (take_ofW HT_.out HW_.out (by kernel_rfl)) (fun _ _ _ h => h) (Or.inl ⟨by rfl, ?_⟩) hHeld ?_ ?_
        rotate_left
        ·rintro w' ⟨s0, s1, s2, s3, s4, s5, s6, s7, s8, s9, s10, s11, s12, s13, s14, s15, s16, s17, s18, s19⟩
         go_simp
         with_reducible rfl
        rotate_left
        ·simp only [Act.put, List.setIfInBounds_toArray, List.set_cons_zero, List.set_cons_succ, i64_w, i32_w]
         rfl
        refine take_ (i := 7) (N := some 28) (v := ?_) (a' := ?_) (bs 20 255) rfl rfl (take_ofW HT_.out HW_.out (by kernel_rfl)) (fun _ _ _ h => h) (Or.inl ⟨by rfl, ?_⟩) hHeld ?_ ?_
        rotate_left
        ·rintro w' ⟨s0, s1, s2, s3, s4, s5, s6, s7, s8, s9, s10, s11, s12, s13, s14, s15, s16, s17, s18, s19⟩
         go_simp
         with_reducible rfl
        rotate_left
        ·simp only [Act.put, List.setIfInBounds_toArray, List.set_cons_zero, List.set_cons_succ, i64_w, i32_w]
         rfl
        refine take_ (i := 9) (N := some 30) (v := ?_) (a' := ?_) (bs 20 767) rfl rfl (take_ofW HT_.out HW_.out (by kernel_rfl)) (fun _ _ _ h => h) (Or.inl ⟨by rfl, ?_⟩) hHeld ?_ ?_
        rotate_left
        ·rintro w' ⟨s0, s1, s2, s3, s4, s5, s6, s7, s8, s9, s10, s11, s12, s13, s14, s15, s16, s17, s18, s19⟩
         go_simp
         with_reducible rfl
        rotate_left
        ·simp only [Act.put, List.setIfInBounds_toArray, List.set_cons_zero, List.set_cons_succ, i64_w, i32_w]
         rfl
        refine take_ (i := 10) (N := some 31) (v := ?_) (a' := ?_) (bs 20 1791) rfl rfl (take_ofW HT_.out HW_.out (by kernel_rfl)) (fun _ _ _ h => h) (Or.inl ⟨by rfl, ?_⟩) hHeld ?_ ?_
        rotate_left
        ·rintro w' ⟨s0, s1, s2, s3, s4, s5, s6, s7, s8, s9, s10, s11, s12, s13, s14, s15, s16, s17, s18, s19⟩
         go_simp
         with_reducible rfl
        rotate_left
        ·simp only [Act.put, List.setIfInBounds_toArray, List.set_cons_zero, List.set_cons_succ, i64_w, i32_w]
         rfl
        refine one_ (i := 8) (N := some 29) (bs 20 2047) rfl rfl (one_of HT_.out (by kernel_rfl)) (by decide) (fun K hK => ?_)
        refine goes_ Tryd.func12 (by kernel_rfl) rfl #[.agg #[.string a0_0, .slice A0_1 l0_1.length c0_1, .string a0_2, .string a0_3, .string a0_4, .int .i64 a0_5, .int .i64 a0_6, .bool a0_7, .int .i64 a0_8, .int .i64 a0_9], .agg #[.string a1_0, .slice A1_1 l1_1.length c1_1, .string a1_2, .string a1_3, .string a1_4, .int .i64 a1_5, .int .i64 a1_6, .bool a1_7, .int .i64 a1_8, .int .i64 a1_9]] (by rfl) rfl rfl ap1 ?_
        with_reducible refine (order_Same.calls kj4 a0_0 _ _ l0_1 a0_2 a0_3 a0_4 a0_5 a0_6 a0_7 a0_8 a0_9 a1_0 _ _ l1_1 a1_2 a1_3 a1_4 a1_5 a1_6 a1_7 a1_8 a1_9 t591 _ ?side1 ?side2 ?side3 ?side4 A33.out).mono ?_
        (case side1 => exact cu (Kd.C_below HR0_1.out HB.out))
        (case side2 => exact HC0_1.out)
        (case side3 => exact cu (Kd.C_below HR1_1.out HB.out))
        (case side4 => exact HC1_1.out)
        rintro e w40 ⟨rfl, hb⟩
        refine ⟨_, rfl, ?_⟩
        have n0_ := Aside0.mk (Kd.R_below (ru HO579.out) hb); have n1_ := Aside0.mk (blk_below (bu BK573.out) hb); have n2_ := Aside0.mk (blk_below (bu BK574.out) hb); have n3_ := Aside0.mk (blk_below (bu BK588.out) hb); have n4_ := Aside0.mk (below_step (beu HB.out) hb); clear HO579 BK573 BK574 BK588 HB; have HO579 := n0_; have BK573 := n1_; have BK574 := n2_; have BK588 := n3_; have HB := n4_; clear n0_ n1_ n2_ n3_ n4_
        (try clear hb)
        (try clear hb2)
        (try clear hk)
        (try clear hi)
        refine hK.out _ _ ⟨(blk_cell BK573.out 0).trans rfl, (blk_cell BK573.out 1).trans rfl, (blk_cell BK573.out 2).trans rfl, (blk_cell BK573.out 3).trans rfl, (blk_cell BK573.out 4).trans rfl, (blk_cell BK573.out 5).trans rfl, (blk_cell BK573.out 6).trans rfl, (blk_cell BK573.out 7).trans rfl, (blk_cell BK573.out 8).trans rfl, (blk_cell BK573.out 9).trans rfl, (blk_cell BK574.out 0).trans rfl, (blk_cell BK574.out 1).trans rfl, (blk_cell BK574.out 2).trans rfl, (blk_cell BK574.out 3).trans rfl, (blk_cell BK574.out 4).trans rfl, (blk_cell BK574.out 5).trans rfl, (blk_cell BK574.out 6).trans rfl, (blk_cell BK574.out 7).trans rfl, (blk_cell BK574.out 8).trans rfl, (blk_cell BK574.out 9).trans rfl⟩ (fun hHeld => ?_)
        clear hK K
        refine norm_ (a' := ?_) ?_ ?_
        rotate_left
        ·show Act.put _ (some 29) _ = _
         simp only [Act.put, List.setIfInBounds_toArray, List.set_cons_zero, List.set_cons_succ, i64_w, i32_w]
         rfl
        refine one_ (i := 11) (N := some 32) (bs 20 4095) rfl rfl (one_of HT_.out (by kernel_rfl)) (by decide) (fun K hK => ?_)
        refine goes_ Tryd.func21 (by kernel_rfl) rfl #[.agg #[.string a0_0, .slice A0_1 l0_1.length c0_1, .string a0_2, .string a0_3, .string a0_4, .int .i64 a0_5, .int .i64 a0_6, .bool a0_7, .int .i64 a0_8, .int .i64 a0_9], .agg #[.string a1_0, .slice A1_1 l1_1.length c1_1, .string a1_2, .string a1_3, .string a1_4, .int .i64 a1_5, .int .i64 a1_6, .bool a1_7, .int .i64 a1_8, .int .i64 a1_9]] (by rfl) rfl rfl ap1 ?_
        with_reducible refine (packhorseref10_Same.calls kj4 a0_0 _ _ l0_1 a0_2 a0_3 a0_4 a0_5 a0_6 a0_7 a0_8 a0_9 a1_0 _ _ l1_1 a1_2 a1_3 a1_4 a1_5 a1_6 a1_7 a1_8 a1_9 t592 _ ?side1 ?side2 ?side3 ?side4 A34.out).mono ?_
        (case side1 => exact cu (Kd.C_below HR0_1.out HB.out))
        (case side2 => exact HC0_1.out)
        (case side3 => exact cu (Kd.C_below HR1_1.out HB.out))
        (case side4 => exact HC1_1.out)
        rintro e w41 ⟨rfl, hb⟩
        refine ⟨_, rfl, ?_⟩
        have n0_ := Aside0.mk (Kd.R_below (ru HO579.out) hb); have n1_ := Aside0.mk (blk_below (bu BK573.out) hb); have n2_ := Aside0.mk (blk_below (bu BK574.out) hb); have n3_ := Aside0.mk (blk_below (bu BK588.out) hb); have n4_ := Aside0.mk (below_step (beu HB.out) hb); clear HO579 BK573 BK574 BK588 HB; have HO579 := n0_; have BK573 := n1_; have BK574 := n2_; have BK588 := n3_; have HB := n4_; clear n0_ n1_ n2_ n3_ n4_
        (try clear hb)
        (try clear hb2)
        (try clear hk)
        (try clear hi)
        refine hK.out _ _ ⟨(blk_cell BK573.out 0).trans rfl, (blk_cell BK573.out 1).trans rfl, (blk_cell BK573.out 2).trans rfl, (blk_cell BK573.out 3).trans rfl, (blk_cell BK573.out 4).trans rfl, (blk_cell BK573.out 5).trans rfl, (blk_cell BK573.out 6).trans rfl, (blk_cell BK573.out 7).trans rfl, (blk_cell BK573.out 8).trans rfl, (blk_cell BK573.out 9).trans rfl, (blk_cell BK574.out 0).trans rfl, (blk_cell BK574.out 1).trans rfl, (blk_cell BK574.out 2).trans rfl, (blk_cell BK574.out 3).trans rfl, (blk_cell BK574.out 4).trans rfl, (blk_cell BK574.out 5).trans rfl, (blk_cell BK574.out 6).trans rfl, (blk_cell BK574.out 7).trans rfl, (blk_cell BK574.out 8).trans rfl, (blk_cell BK574.out 9).trans rfl⟩ (fun hHeld => ?_)
        clear hK K
        refine norm_ (a' := ?_) ?_ ?_
        rotate_left
        ·show Act.put _ (some 32) _ = _
         simp only [Act.put, List.setIfInBounds_toArray, List.set_cons_zero, List.set_cons_succ, i64_w, i32_w]
         rfl
        refine pure_ (i := 12) (N := some 33) (v := ?_) (a' := ?_) (bs 20 8191) rfl rfl (any_of HT_.out (by kernel_rfl)) (fun _ _ _ h => h) (Or.inl ⟨by rfl, ?_⟩) ?_ ?_
        rotate_left
        ·intro w'
         go_simp
         with_reducible rfl
        rotate_left
        ·simp only [Act.put, List.setIfInBounds_toArray, List.set_cons_zero, List.set_cons_succ, i64_w, i32_w]
         rfl
        refine pure_ (i := 13) (N := some 34) (v := ?_) (a' := ?_) (bs 20 16383) rfl rfl (any_of HT_.out (by kernel_rfl)) (fun _ _ _ h => h) (Or.inl ⟨by rfl, ?_⟩) ?_ ?_
        rotate_left
        ·intro w'
         go_simp
         with_reducible rfl
        rotate_left
        ·simp only [Act.put, List.setIfInBounds_toArray, List.set_cons_zero, List.set_cons_succ, i64_w, i32_w]
         rfl
        refine pure_ (i := 14) (N := some 35) (v := ?_) (a' := ?_) (bs 20 32767) rfl rfl (any_of HT_.out (by kernel_rfl)) (fun _ _ _ h => h) (Or.inl ⟨by rfl, ?_⟩) ?_ ?_
        rotate_left
        ·intro w'
         go_simp
         with_reducible rfl
        rotate_left
        ·simp only [Act.put, List.setIfInBounds_toArray, List.set_cons_zero, List.set_cons_succ, i64_w, i32_w]
         rfl
        refine pure_ (i := 15) (N := some 36) (v := undef) (a' := ?_) (bs 20 65535) rfl rfl (any_of HT_.out (by kernel_rfl)) (fun _ _ _ h => h) (Or.inr ⟨by rfl, rfl⟩) ?_ ?_
        rotate_left
        ·simp only [Act.put, List.setIfInBounds_toArray, List.set_cons_zero, List.set_cons_succ, i64_w, i32_w]
         rfl
        refine pure_ (i := 16) (N := some 37) (v := undef) (a' := ?_) (bs 20 131071) rfl rfl (any_of HT_.out (by kernel_rfl)) (fun _ _ _ h => h) (Or.inr ⟨by rfl, rfl⟩) ?_ ?_
        rotate_left
        ·simp only [Act.put, List.setIfInBounds_toArray, List.set_cons_zero, List.set_cons_succ, i64_w, i32_w]
         rfl
        refine pure_ (i := 17) (N := some 38) (v := undef) (a' := ?_) (bs 20 262143) rfl rfl (any_of HT_.out (by kernel_rfl)) (fun _ _ _ h => h) (Or.inr ⟨by rfl, rfl⟩) ?_ ?_
        rotate_left
        ·simp only [Act.put, List.setIfInBounds_toArray, List.set_cons_zero, List.set_cons_succ, i64_w, i32_w]
         rfl
        refine pure_ (i := 18) (N := some 39) (v := undef) (a' := ?_) (bs 20 524287) rfl rfl (any_of HT_.out (by kernel_rfl)) (fun _ _ _ h => h) (Or.inr ⟨by rfl, rfl⟩) ?_ ?_
        rotate_left
        ·simp only [Act.put, List.setIfInBounds_toArray, List.set_cons_zero, List.set_cons_succ, i64_w, i32_w]
         rfl
        refine pure_ (i := 19) (N := some 40) (v := ?_) (a' := ?_) (bs 20 1048575) rfl rfl (any_of HT_.out (by kernel_rfl)) (fun _ _ _ h => h) (Or.inl ⟨by rfl, ?_⟩) ?_ ?_
        rotate_left
        ·intro w'
         go_simp
         with_reducible rfl
        rotate_left
        ·simp only [Act.put, List.setIfInBounds_toArray, List.set_cons_zero, List.set_cons_succ, i64_w, i32_w]
         rfl
        refine done_ (done_of HT_.out (by kernel_rfl)) ?_
        try go_wp2
        go_meet
        case rel => exact ⟨_, (true), ap3, H', ⟨by have := HJ4.out; first | omega | exact Nat.le_refl _⟩, ⟨ru HO579.out⟩, ⟨by (with_reducible repeat (first | refine blk_drewN ?_ _ | refine blk_drew ?_ | refine blk_alloc ?_ _)); exact BK573.out⟩, ⟨by (with_reducible repeat (first | refine blk_drewN ?_ _ | refine blk_drew ?_ | refine blk_alloc ?_ _)); exact BK574.out⟩, ⟨by (with_reducible repeat (first | refine blk_drewN ?_ _ | refine blk_drew ?_ | refine blk_alloc ?_ _)); exact BK588.out⟩, ⟨beu HB.out⟩⟩
       ·rw [if_neg c35] at H
        have c35b0 : (t591 != t592) = false := by simpa using c35
        (try (have c35b1 : decide (t591 = t592) = true := by simpa using c35))
        (try (have c35b2 : (t591 == t592) = true := by simpa using c35))
        clear c35; replace H := obm H; obtain ⟨t593, A420, H⟩ := H; replace H : (packhorselaw10_OrderTells.j1 kj4 (!t593) a0_0 l0_1 a0_2 a0_3 a0_4 a0_5 a0_6 a0_7 a0_8 a0_9 t576 t577 t580 t581 t582 t583 t584 t585 t586 t587) = some r := H; have A42 := Aside0.mk A420; clear A420; have H' := Aside0.mk H; clear H
        try go_wp2
        have n0_ : Aside0 (Kd.R k52 52 ((((((((((w21.setCell ⟨gb588, 0, none⟩ (.string t576)).setCell ⟨gb588, 1, none⟩ (.slice Ao25 t577.length co25)).setCell ⟨gb588, 2, none⟩ (.string t580)).setCell ⟨gb588, 3, none⟩ (.string t581)).setCell ⟨gb588, 4, none⟩ (.string t582)).setCell ⟨gb588, 5, none⟩ (.int .i64 t583)).setCell ⟨gb588, 6, none⟩ (.int .i64 t584)).setCell ⟨gb588, 7, none⟩ (.bool t585)).setCell ⟨gb588, 8, none⟩ (.int .i64 t586)).setCell ⟨gb588, 9, none⟩ (.int .i64 t587)) w.heap.size (fun _ => True) (.slice Ao25 t577.length co25) t577) := ⟨ru (Kd.R_mono (Kd.R_far (p := ⟨gb588, 9, none⟩) (Kd.R_far (p := ⟨gb588, 8, none⟩) (Kd.R_far (p := ⟨gb588, 7, none⟩) (Kd.R_far (p := ⟨gb588, 6, none⟩) (Kd.R_far (p := ⟨gb588, 5, none⟩) (Kd.R_far (p := ⟨gb588, 4, none⟩) (Kd.R_far (p := ⟨gb588, 3, none⟩) (Kd.R_far (p := ⟨gb588, 2, none⟩) (Kd.R_far (p := ⟨gb588, 1, none⟩) (Kd.R_far (p := ⟨gb588, 0, none⟩) (Kd.R_types HO579.out BK588.out (by decide)) (fun _ hk => hk.2) (.string t576)) (fun _ hk => hk.2) (.slice Ao25 t577.length co25)) (fun _ hk => hk.2) (.string t580)) (fun _ hk => hk.2) (.string t581)) (fun _ hk => hk.2) (.string t582)) (fun _ hk => hk.2) (.int .i64 t583)) (fun _ hk => hk.2) (.int .i64 t584)) (fun _ hk => hk.2) (.bool t585)) (fun _ hk => hk.2) (.int .i64 t586)) (fun _ hk => hk.2) (.int .i64 t587)) (fun _ hk => trivial))⟩; have n1_ : Aside0 (((((((((((w21.setCell ⟨gb588, 0, none⟩ (.string t576)).setCell ⟨gb588, 1, none⟩ (.slice Ao25 t577.length co25)).setCell ⟨gb588, 2, none⟩ (.string t580)).setCell ⟨gb588, 3, none⟩ (.string t581)).setCell ⟨gb588, 4, none⟩ (.string t582)).setCell ⟨gb588, 5, none⟩ (.int .i64 t583)).setCell ⟨gb588, 6, none⟩ (.int .i64 t584)).setCell ⟨gb588, 7, none⟩ (.bool t585)).setCell ⟨gb588, 8, none⟩ (.int .i64 t586)).setCell ⟨gb588, 9, none⟩ (.int .i64 t587)).heap[gb573]? = some (.cells #[.string a0_0, .slice A0_1 l0_1.length c0_1, .string a0_2, .string a0_3, .string a0_4, .int .i64 a0_5, .int .i64 a0_6, .bool a0_7, .int .i64 a0_8, .int .i64 a0_9] 28 (0, 0))) := ⟨by (with_reducible repeat (first | refine blk_drewN ?_ _ | refine blk_drew ?_ | refine blk_alloc ?_ _)); refine blk_far ?_ NB573_588.out _; (with_reducible repeat (first | refine blk_drewN ?_ _ | refine blk_drew ?_ | refine blk_alloc ?_ _)); refine blk_far ?_ NB573_588.out _; (with_reducible repeat (first | refine blk_drewN ?_ _ | refine blk_drew ?_ | refine blk_alloc ?_ _)); refine blk_far ?_ NB573_588.out _; (with_reducible repeat (first | refine blk_drewN ?_ _ | refine blk_drew ?_ | refine blk_alloc ?_ _)); refine blk_far ?_ NB573_588.out _; (with_reducible repeat (first | refine blk_drewN ?_ _ | refine blk_drew ?_ | refine blk_alloc ?_ _)); refine blk_far ?_ NB573_588.out _; (with_reducible repeat (first | refine blk_drewN ?_ _ | refine blk_drew ?_ | refine blk_alloc ?_ _)); refine blk_far ?_ NB573_588.out _; (with_reducible repeat (first | refine blk_drewN ?_ _ | refine blk_drew ?_ | refine blk_alloc ?_ _)); refine blk_far ?_ NB573_588.out _; (with_reducible repeat (first | refine blk_drewN ?_ _ | refine blk_drew ?_ | refine blk_alloc ?_ _)); refine blk_far ?_ NB573_588.out _; (with_reducible repeat (first | refine blk_drewN ?_ _ | refine blk_drew ?_ | refine blk_alloc ?_ _)); refine blk_far ?_ NB573_588.out _; (with_reducible repeat (first | refine blk_drewN ?_ _ | refine blk_drew ?_ | refine blk_alloc ?_ _)); refine blk_far ?_ NB573_588.out _; (with_reducible repeat (first | refine blk_drewN ?_ _ | refine blk_drew ?_ | refine blk_alloc ?_ _)); exact BK573.out⟩; have n2_ : Aside0 (((((((((((w21.setCell ⟨gb588, 0, none⟩ (.string t576)).setCell ⟨gb588, 1, none⟩ (.slice Ao25 t577.length co25)).setCell ⟨gb588, 2, none⟩ (.string t580)).setCell ⟨gb588, 3, none⟩ (.string t581)).setCell ⟨gb588, 4, none⟩ (.string t582)).setCell ⟨gb588, 5, none⟩ (.int .i64 t583)).setCell ⟨gb588, 6, none⟩ (.int .i64 t584)).setCell ⟨gb588, 7, none⟩ (.bool t585)).setCell ⟨gb588, 8, none⟩ (.int .i64 t586)).setCell ⟨gb588, 9, none⟩ (.int .i64 t587)).heap[gb574]? = some (.cells #[.string a1_0, .slice A1_1 l1_1.length c1_1, .string a1_2, .string a1_3, .string a1_4, .int .i64 a1_5, .int .i64 a1_6, .bool a1_7, .int .i64 a1_8, .int .i64 a1_9] 28 (0, 0))) := ⟨by (with_reducible repeat (first | refine blk_drewN ?_ _ | refine blk_drew ?_ | refine blk_alloc ?_ _)); refine blk_far ?_ NB574_588.out _; (with_reducible repeat (first | refine blk_drewN ?_ _ | refine blk_drew ?_ | refine blk_alloc ?_ _)); refine blk_far ?_ NB574_588.out _; (with_reducible repeat (first | refine blk_drewN ?_ _ | refine blk_drew ?_ | refine blk_alloc ?_ _)); refine blk_far ?_ NB574_588.out _; (with_reducible repeat (first | refine blk_drewN ?_ _ | refine blk_drew ?_ | refine blk_alloc ?_ _)); refine blk_far ?_ NB574_588.out _; (with_reducible repeat (first | refine blk_drewN ?_ _ | refine blk_drew ?_ | refine blk_alloc ?_ _)); refine blk_far ?_ NB574_588.out _; (with_reducible repeat (first | refine blk_drewN ?_ _ | refine blk_drew ?_ | refine blk_alloc ?_ _)); refine blk_far ?_ NB574_588.out _; (with_reducible repeat (first | refine blk_drewN ?_ _ | refine blk_drew ?_ | refine blk_alloc ?_ _)); refine blk_far ?_ NB574_588.out _; (with_reducible repeat (first | refine blk_drewN ?_ _ | refine blk_drew ?_ | refine blk_alloc ?_ _)); refine blk_far ?_ NB574_588.out _; (with_reducible repeat (first | refine blk_drewN ?_ _ | refine blk_drew ?_ | refine blk_alloc ?_ _)); refine blk_far ?_ NB574_588.out _; (with_reducible repeat (first | refine blk_drewN ?_ _ | refine blk_drew ?_ | refine blk_alloc ?_ _)); refine blk_far ?_ NB574_588.out _; (with_reducible repeat (first | refine blk_drewN ?_ _ | refine blk_drew ?_ | refine blk_alloc ?_ _)); exact BK574.out⟩
        have n3_ : Aside0 (((((((((((w21.setCell ⟨gb588, 0, none⟩ (.string t576)).setCell ⟨gb588, 1, none⟩ (.slice Ao25 t577.length co25)).setCell ⟨gb588, 2, none⟩ (.string t580)).setCell ⟨gb588, 3, none⟩ (.string t581)).setCell ⟨gb588, 4, none⟩ (.string t582)).setCell ⟨gb588, 5, none⟩ (.int .i64 t583)).setCell ⟨gb588, 6, none⟩ (.int .i64 t584)).setCell ⟨gb588, 7, none⟩ (.bool t585)).setCell ⟨gb588, 8, none⟩ (.int .i64 t586)).setCell ⟨gb588, 9, none⟩ (.int .i64 t587)).heap[gb588]? = some (.cells #[.string t576, .slice Ao25 t577.length co25, .string t580, .string t581, .string t582, .int .i64 t583, .int .i64 t584, .bool t585, .int .i64 t586, .int .i64 t587] 28 (0, 0))) := ⟨by (with_reducible repeat (first | refine blk_drewN ?_ _ | refine blk_drew ?_ | refine blk_alloc ?_ _)); refine blk_put (cs := #[.string t576, .slice Ao25 t577.length co25, .string t580, .string t581, .string t582, .int .i64 t583, .int .i64 t584, .bool t585, .int .i64 t586, .int .i64 0]) ?_ 9 _ rfl; (with_reducible repeat (first | refine blk_drewN ?_ _ | refine blk_drew ?_ | refine blk_alloc ?_ _)); refine blk_put (cs := #[.string t576, .slice Ao25 t577.length co25, .string t580, .string t581, .string t582, .int .i64 t583, .int .i64 t584, .bool t585, .int .i64 0, .int .i64 0]) ?_ 8 _ rfl; (with_reducible repeat (first | refine blk_drewN ?_ _ | refine blk_drew ?_ | refine blk_alloc ?_ _)); refine blk_put (cs := #[.string t576, .slice Ao25 t577.length co25, .string t580, .string t581, .string t582, .int .i64 t583, .int .i64 t584, .bool false, .int .i64 0, .int .i64 0]) ?_ 7 _ rfl; (with_reducible repeat (first | refine blk_drewN ?_ _ | refine blk_drew ?_ | refine blk_alloc ?_ _)); refine blk_put (cs := #[.string t576, .slice Ao25 t577.length co25, .string t580, .string t581, .string t582, .int .i64 t583, .int .i64 0, .bool false, .int .i64 0, .int .i64 0]) ?_ 6 _ rfl; (with_reducible repeat (first | refine blk_drewN ?_ _ | refine blk_drew ?_ | refine blk_alloc ?_ _)); refine blk_put (cs := #[.string t576, .slice Ao25 t577.length co25, .string t580, .string t581, .string t582, .int .i64 0, .int .i64 0, .bool false, .int .i64 0, .int .i64 0]) ?_ 5 _ rfl; (with_reducible repeat (first | refine blk_drewN ?_ _ | refine blk_drew ?_ | refine blk_alloc ?_ _)); refine blk_put (cs := #[.string t576, .slice Ao25 t577.length co25, .string t580, .string t581, .string ⟨#[]⟩, .int .i64 0, .int .i64 0, .bool false, .int .i64 0, .int .i64 0]) ?_ 4 _ rfl; (with_reducible repeat (first | refine blk_drewN ?_ _ | refine blk_drew ?_ | refine blk_alloc ?_ _)); refine blk_put (cs := #[.string t576, .slice Ao25 t577.length co25, .string t580, .string ⟨#[]⟩, .string ⟨#[]⟩, .int .i64 0, .int .i64 0, .bool false, .int .i64 0, .int .i64 0]) ?_ 3 _ rfl; (with_reducible repeat (first | refine blk_drewN ?_ _ | refine blk_drew ?_ | refine blk_alloc ?_ _)); refine blk_put (cs := #[.string t576, .slice Ao25 t577.length co25, .string ⟨#[]⟩, .string ⟨#[]⟩, .string ⟨#[]⟩, .int .i64 0, .int .i64 0, .bool false, .int .i64 0, .int .i64 0]) ?_ 2 _ rfl; (with_reducible repeat (first | refine blk_drewN ?_ _ | refine blk_drew ?_ | refine blk_alloc ?_ _)); refine blk_put (cs := #[.string t576, .slice none 0 0, .string ⟨#[]⟩, .string ⟨#[]⟩, .string ⟨#[]⟩, .int .i64 0, .int .i64 0, .bool false, .int .i64 0, .int .i64 0]) ?_ 1 _ rfl; (with_reducible repeat (first | refine blk_drewN ?_ _ | refine blk_drew ?_ | refine blk_alloc ?_ _)); refine blk_put (cs := #[.string ⟨#[]⟩, .slice none 0 0, .string ⟨#[]⟩, .string ⟨#[]⟩, .string ⟨#[]⟩, .int .i64 0, .int .i64 0, .bool false, .int .i64 0, .int .i64 0]) ?_ 0 _ rfl; (with_reducible repeat (first | refine blk_drewN ?_ _ | refine blk_drew ?_ | refine blk_alloc ?_ _)); exact BK588.out⟩; have n4_ : Aside0 (Below w.heap.size w ((((((((((w21.setCell ⟨gb588, 0, none⟩ (.string t576)).setCell ⟨gb588, 1, none⟩ (.slice Ao25 t577.length co25)).setCell ⟨gb588, 2, none⟩ (.string t580)).setCell ⟨gb588, 3, none⟩ (.string t581)).setCell ⟨gb588, 4, none⟩ (.string t582)).setCell ⟨gb588, 5, none⟩ (.int .i64 t583)).setCell ⟨gb588, 6, none⟩ (.int .i64 t584)).setCell ⟨gb588, 7, none⟩ (.bool t585)).setCell ⟨gb588, 8, none⟩ (.int .i64 t586)).setCell ⟨gb588, 9, none⟩ (.int .i64 t587))) := ⟨beu HB.out⟩
        (try clear HO579)
        (try clear BK573)
        (try clear BK574)
        (try clear BK588)
        (try clear HB)
        generalize ((((((((((w21.setCell ⟨gb588, 0, none⟩ (.string t576)).setCell ⟨gb588, 1, none⟩ (.slice Ao25 t577.length co25)).setCell ⟨gb588, 2, none⟩ (.string t580)).setCell ⟨gb588, 3, none⟩ (.string t581)).setCell ⟨gb588, 4, none⟩ (.string t582)).setCell ⟨gb588, 5, none⟩ (.int .i64 t583)).setCell ⟨gb588, 6, none⟩ (.int .i64 t584)).setCell ⟨gb588, 7, none⟩ (.bool t585)).setCell ⟨gb588, 8, none⟩ (.int .i64 t586)).setCell ⟨gb588, 9, none⟩ (.int .i64 t587)) = w43 at n0_ n1_ n2_ n3_ n4_ ⊢; have HO579 := n0_; have BK573 := n1_; have BK574 := n2_; have BK588 := n3_; have HB := n4_; clear n0_ n1_ n2_ n3_ n4_
        (try (rw [drewN_self w43]; generalize hq_ : World.drewN w43 _ = w43; have _ := Aside0.mk (show Kd.R _ _ w43 _ _ _ _ from by rw [← hq_]; exact Kd.R_drewN HO579.out _); have _ := Aside0.mk (blk_at hq_ BK573.out); have _ := Aside0.mk (blk_at hq_ BK574.out); have _ := Aside0.mk (blk_at hq_ BK588.out); have _ := Aside0.mk (below_at hq_ HB.out); clear hq_ HO579 BK573 BK574 BK588 HB; rename_i HO579 BK573 BK574 BK588 HB))
        have n0_ := Aside0.mk (Kd.R_drew HO579.out); have n1_ := Aside0.mk (blk_drew BK573.out); have n2_ := Aside0.mk (blk_drew BK574.out); have n3_ := Aside0.mk (blk_drew BK588.out); have n4_ := Aside0.mk (below_drew1 HB.out); clear HO579 BK573 BK574 BK588 HB; have HO579 := n0_; have BK573 := n1_; have BK574 := n2_; have BK588 := n3_; have HB := n4_; clear n0_ n1_ n2_ n3_ n4_
        refine start_ (n := 20) (S := fun w' => w'.cell? ⟨gb573, 0, none⟩ = some (.string a0_0) ∧ w'.cell? ⟨gb573, 1, none⟩ = some (.slice A0_1 l0_1.length c0_1) ∧ w'.cell? ⟨gb573, 2, none⟩ = some (.string a0_2) ∧ w'.cell? ⟨gb573, 3, none⟩ = some (.string a0_3) ∧ w'.cell? ⟨gb573, 4, none⟩ = some (.string a0_4) ∧ w'.cell? ⟨gb573, 5, none⟩ = some (.int .i64 a0_5) ∧ w'.cell? ⟨gb573, 6, none⟩ = some (.int .i64 a0_6) ∧ w'.cell? ⟨gb573, 7, none⟩ = some (.bool a0_7) ∧ w'.cell? ⟨gb573, 8, none⟩ = some (.int .i64 a0_8) ∧ w'.cell? ⟨gb573, 9, none⟩ = some (.int .i64 a0_9) ∧ w'.cell? ⟨gb574, 0, none⟩ = some (.string a1_0) ∧ w'.cell? ⟨gb574, 1, none⟩ = some (.slice A1_1 l1_1.length c1_1) ∧ w'.cell? ⟨gb574, 2, none⟩ = some (.string a1_2) ∧ w'.cell? ⟨gb574, 3, none⟩ = some (.string a1_3) ∧ w'.cell? ⟨gb574, 4, none⟩ = some (.string a1_4) ∧ w'.cell? ⟨gb574, 5, none⟩ = some (.int .i64 a1_5) ∧ w'.cell? ⟨gb574, 6, none⟩ = some (.int .i64 a1_6) ∧ w'.cell? ⟨gb574, 7, none⟩ = some (.bool a1_7) ∧ w'.cell? ⟨gb574, 8, none⟩ = some (.int .i64 a1_8) ∧ w'.cell? ⟨gb574, 9, none⟩ = some (.int .i64 a1_9) ∧ w'.cell? ⟨gb588, 0, none⟩ = some (.string t576) ∧ w'.cell? ⟨gb588, 1, none⟩ = some (.slice Ao25 t577.length co25) ∧ w'.cell? ⟨gb588, 2, none⟩ = some (.string t580) ∧ w'.cell? ⟨gb588, 3, none⟩ = some (.string t581) ∧ w'.cell? ⟨gb588, 4, none⟩ = some (.string t582) ∧ w'.cell? ⟨gb588, 5, none⟩ = some (.int .i64 t583) ∧ w'.cell? ⟨gb588, 6, none⟩ = some (.int .i64 t584) ∧ w'.cell? ⟨gb588, 7, none⟩ = some (.bool t585) ∧ w'.cell? ⟨gb588, 8, none⟩ = some (.int .i64 t586) ∧ w'.cell? ⟨gb588, 9, none⟩ = some (.int .i64 t587)) (ds := []) #[false, false, false, false, false, false, false, false, false, false, false, false, false, false, false, false, false, false, false, false] (by kernel_rfl) rfl rfl ⟨(blk_cell BK573.out 0).trans rfl, (blk_cell BK573.out 1).trans rfl, (blk_cell BK573.out 2).trans rfl, (blk_cell BK573.out 3).trans rfl, (blk_cell BK573.out 4).trans rfl, (blk_cell BK573.out 5).trans rfl, (blk_cell BK573.out 6).trans rfl, (blk_cell BK573.out 7).trans rfl, (blk_cell BK573.out 8).trans rfl, (blk_cell BK573.out 9).trans rfl, (blk_cell BK574.out 0).trans rfl, (blk_cell BK574.out 1).trans rfl, (blk_cell BK574.out 2).trans rfl, (blk_cell BK574.out 3).trans rfl, (blk_cell BK574.out 4).trans rfl, (blk_cell BK574.out 5).trans rfl, (blk_cell BK574.out 6).trans rfl, (blk_cell BK574.out 7).trans rfl, (blk_cell BK574.out 8).trans rfl, (blk_cell BK574.out 9).trans rfl, (blk_cell BK588.out 0).trans rfl, (blk_cell BK588.out 1).trans rfl, (blk_cell BK588.out 2).trans rfl, (blk_cell BK588.out 3).trans rfl, (blk_cell BK588.out 4).trans rfl, (blk_cell BK588.out 5).trans rfl, (blk_cell BK588.out 6).trans rfl, (blk_cell BK588.out 7).trans rfl, (blk_cell BK588.out 8).trans rfl, (blk_cell BK588.out 9).trans rfl⟩ (fun hHeld => ?_); refine with_tabW packhorselaw10_OrderTells.tab6 packhorselaw10_OrderTells.bits6 (fun HT_ HW_ => ?_)
        generalize w43.drew = w44 at HO579 BK573 BK574 BK588 HB hHeld ⊢
        refine take_ (i := 0) (N := some 21) (v := ?_) (a' := ?_) (bs 20 1) rfl rfl (take_ofW HT_.out HW_.out (by kernel_rfl)) (fun _ _ _ h => h) (Or.inl ⟨by rfl, ?_⟩) hHeld ?_ ?_
        rotate_left
        ·rintro w' ⟨s0, s1, s2, s3, s4, s5, s6, s7, s8, s9, s10, s11, s12, s13, s14, s15, s16, s17, s18, s19, s20, s21, s22, s23, s24, s25, s26, s27, s28, s29⟩
         go_simp
         with_reducible rfl
        rotate_left
        ·simp only [Act.put, List.setIfInBounds_toArray, List.set_cons_zero, List.set_cons_succ, i64_w, i32_w]
         rfl
        refine take_ (i := 2) (N := some 23) (v := ?_) (a' := ?_) (bs 20 5) rfl rfl (take_ofW HT_.out HW_.out (by kernel_rfl)) (fun _ _ _ h => h) (Or.inl ⟨by rfl, ?_⟩) hHeld ?_ ?_
        rotate_left
        ·rintro w' ⟨s0, s1, s2, s3, s4, s5, s6, s7, s8, s9, s10, s11, s12, s13, s14, s15, s16, s17, s18, s19, s20, s21, s22, s23, s24, s25, s26, s27, s28, s29⟩
         go_simp
         with_reducible rfl
        rotate_left
        ·simp only [Act.put, List.setIfInBounds_toArray, List.set_cons_zero, List.set_cons_succ, i64_w, i32_w]
         rfl
        refine one_ (i := 1) (N := some 22) (bs 20 7) rfl rfl (one_of HT_.out (by kernel_rfl)) (by decide) (fun K hK => ?_)
        refine goes_ Tryd.func10 (by kernel_rfl) rfl #[.agg #[.string a0_0, .slice A0_1 l0_1.length c0_1, .string a0_2, .string a0_3, .string a0_4, .int .i64 a0_5, .int .i64 a0_6, .bool a0_7, .int .i64 a0_8, .int .i64 a0_9]] (by rfl) rfl rfl ap1 ?_
        with_reducible refine (order_Right.calls kj4 a0_0 _ _ l0_1 a0_2 a0_3 a0_4 a0_5 a0_6 a0_7 a0_8 a0_9 t589 _ ?side1 ?side2 ?side3 A26.out).mono ?_
        (case side1 => exact cu (Kd.C_below HR0_1.out HB.out))
        (case side2 => exact HC0_1.out)
        (case side3 => first | exact HT.out | exact Tabs.below HT.out (beu HB.out))
        rintro e w45 ⟨rfl, hb⟩
        refine ⟨_, rfl, ?_⟩
        have n0_ := Aside0.mk (Kd.R_below (ru HO579.out) hb); have n1_ := Aside0.mk (blk_below (bu BK573.out) hb); have n2_ := Aside0.mk (blk_below (bu BK574.out) hb); have n3_ := Aside0.mk (blk_below (bu BK588.out) hb); have n4_ := Aside0.mk (below_step (beu HB.out) hb); clear HO579 BK573 BK574 BK588 HB; have HO579 := n0_; have BK573 := n1_; have BK574 := n2_; have BK588 := n3_; have HB := n4_; clear n0_ n1_ n2_ n3_ n4_
        (try clear hb)
        (try clear hb2)
        (try clear hk)
        (try clear hi)
        refine hK.out _ _ ⟨(blk_cell BK573.out 0).trans rfl, (blk_cell BK573.out 1).trans rfl, (blk_cell BK573.out 2).trans rfl, (blk_cell BK573.out 3).trans rfl, (blk_cell BK573.out 4).trans rfl, (blk_cell BK573.out 5).trans rfl, (blk_cell BK573.out 6).trans rfl, (blk_cell BK573.out 7).trans rfl, (blk_cell BK573.out 8).trans rfl, (blk_cell BK573.out 9).trans rfl, (blk_cell BK574.out 0).trans rfl, (blk_cell BK574.out 1).trans rfl, (blk_cell BK574.out 2).trans rfl, (blk_cell BK574.out 3).trans rfl, (blk_cell BK574.out 4).trans rfl, (blk_cell BK574.out 5).trans rfl, (blk_cell BK574.out 6).trans rfl, (blk_cell BK574.out 7).trans rfl, (blk_cell BK574.out 8).trans rfl, (blk_cell BK574.out 9).trans rfl, (blk_cell BK588.out 0).trans rfl, (blk_cell BK588.out 1).trans rfl, (blk_cell BK588.out 2).trans rfl, (blk_cell BK588.out 3).trans rfl, (blk_cell BK588.out 4).trans rfl, (blk_cell BK588.out 5).trans rfl, (blk_cell BK588.out 6).trans rfl, (blk_cell BK588.out 7).trans rfl, (blk_cell BK588.out 8).trans rfl, (blk_cell BK588.out 9).trans rfl⟩ (fun hHeld => ?_)
        clear hK K
        refine norm_ (a' := ?_) ?_ ?_
        rotate_left
        ·show Act.put _ (some 22) _ = _
         simp only [Act.put, List.setIfInBounds_toArray, List.set_cons_zero, List.set_cons_succ, i64_w, i32_w]
         rfl
        refine one_ (i := 3) (N := some 24) (bs 20 15) rfl rfl (one_of HT_.out (by kernel_rfl)) (by decide) (fun K hK => ?_)
        refine goes_ Tryd.func13 (by kernel_rfl) rfl #[.agg #[.string a0_0, .slice A0_1 l0_1.length c0_1, .string a0_2, .string a0_3, .string a0_4, .int .i64 a0_5, .int .i64 a0_6, .bool a0_7, .int .i64 a0_8, .int .i64 a0_9]] (by rfl) rfl rfl ap1 ?_
        with_reducible refine (packhorseref10_Right.calls kj4 a0_0 _ _ l0_1 a0_2 a0_3 a0_4 a0_5 a0_6 a0_7 a0_8 a0_9 t590 _ ?side1 ?side2 A27.out).mono ?_
        (case side1 => exact cu (Kd.C_below HR0_1.out HB.out))
        (case side2 => exact HC0_1.out)
        rintro e w46 ⟨rfl, hb⟩
        refine ⟨_, rfl, ?_⟩
        have n0_ := Aside0.mk (Kd.R_below (ru HO579.out) hb); have n1_ := Aside0.mk (blk_below (bu BK573.out) hb); have n2_ := Aside0.mk (blk_below (bu BK574.out) hb); have n3_ := Aside0.mk (blk_below (bu BK588.out) hb); have n4_ := Aside0.mk (below_step (beu HB.out) hb); clear HO579 BK573 BK574 BK588 HB; have HO579 := n0_; have BK573 := n1_; have BK574 := n2_; have BK588 := n3_; have HB := n4_; clear n0_ n1_ n2_ n3_ n4_
        (try clear hb)
        (try clear hb2)
        (try clear hk)
        (try clear hi)
        refine hK.out _ _ ⟨(blk_cell BK573.out 0).trans rfl, (blk_cell BK573.out 1).trans rfl, (blk_cell BK573.out 2).trans rfl, (blk_cell BK573.out 3).trans rfl, (blk_cell BK573.out 4).trans rfl, (blk_cell BK573.out 5).trans rfl, (blk_cell BK573.out 6).trans rfl, (blk_cell BK573.out 7).trans rfl, (blk_cell BK573.out 8).trans rfl, (blk_cell BK573.out 9).trans rfl, (blk_cell BK574.out 0).trans rfl, (blk_cell BK574.out 1).trans rfl, (blk_cell BK574.out 2).trans rfl, (blk_cell BK574.out 3).trans rfl, (blk_cell BK574.out 4).trans rfl, (blk_cell BK574.out 5).trans rfl, (blk_cell BK574.out 6).trans rfl, (blk_cell BK574.out 7).trans rfl, (blk_cell BK574.out 8).trans rfl, (blk_cell BK574.out 9).trans rfl, (blk_cell BK588.out 0).trans rfl, (blk_cell BK588.out 1).trans rfl, (blk_cell BK588.out 2).trans rfl, (blk_cell BK588.out 3).trans rfl, (blk_cell BK588.out 4).trans rfl, (blk_cell BK588.out 5).trans rfl, (blk_cell BK588.out 6).trans rfl, (blk_cell BK588.out 7).trans rfl, (blk_cell BK588.out 8).trans rfl, (blk_cell BK588.out 9).trans rfl⟩ (fun hHeld => ?_)
        clear hK K
        refine norm_ (a' := ?_) ?_ ?_
        rotate_left
        ·show Act.put _ (some 24) _ = _
         simp only [Act.put, List.setIfInBounds_toArray, List.set_cons_zero, List.set_cons_succ, i64_w, i32_w]
         rfl
        refine pure_ (i := 4) (N := some 25) (v := ?_) (a' := ?_) (bs 20 31) rfl rfl (any_of HT_.out (by kernel_rfl)) (fun _ _ _ h => h) (Or.inl ⟨by rfl, ?_⟩) ?_ ?_
        rotate_left
        ·intro w'
         go_simp
         with_reducible rfl
        rotate_left
        ·simp only [Act.put, List.setIfInBounds_toArray, List.set_cons_zero, List.set_cons_succ, i64_w, i32_w]
         rfl
        refine pure_ (i := 5) (N := some 26) (v := ?_) (a' := ?_) (bs 20 63) rfl rfl (any_of HT_.out (by kernel_rfl)) (fun _ _ _ h => h) (Or.inl ⟨by rfl, ?_⟩) ?_ ?_
        rotate_left
        ·intro w'
         go_simp
         with_reducible rfl
        rotate_left
        ·simp only [Act.put, List.setIfInBounds_toArray, List.set_cons_zero, List.set_cons_succ, i64_w, i32_w]
         rfl
        refine take_ (i := 6) (N := some 27) (v := ?_) (a' := ?_) (bs 20 127) rfl rfl (take_ofW HT_.out HW_.out (by kernel_rfl)) (fun _ _ _ h => h) (Or.inl ⟨by rfl, ?_⟩) hHeld ?_ ?_
        rotate_left
        ·rintro w' ⟨s0, s1, s2, s3, s4, s5, s6, s7, s8, s9, s10, s11, s12, s13, s14, s15, s16, s17, s18, s19, s20, s21, s22, s23, s24, s25, s26, s27, s28, s29⟩
         go_simp
         with_reducible rfl
        rotate_left
        ·simp only [Act.put, List.setIfInBounds_toArray, List.set_cons_zero, List.set_cons_succ, i64_w, i32_w]
         rfl
        refine take_ (i := 7) (N := some 28) (v := ?_) (a' := ?_) (bs 20 255) rfl rfl (take_ofW HT_.out HW_.out (by kernel_rfl)) (fun _ _ _ h => h) (Or.inl ⟨by rfl, ?_⟩) hHeld ?_ ?_
        rotate_left
        ·rintro w' ⟨s0, s1, s2, s3, s4, s5, s6, s7, s8, s9, s10, s11, s12, s13, s14, s15, s16, s17, s18, s19, s20, s21, s22, s23, s24, s25, s26, s27, s28, s29⟩
         go_simp
         with_reducible rfl
        rotate_left
        ·simp only [Act.put, List.setIfInBounds_toArray, List.set_cons_zero, List.set_cons_succ, i64_w, i32_w]
         rfl
        refine take_ (i := 9) (N := some 30) (v := ?_) (a' := ?_) (bs 20 767) rfl rfl (take_ofW HT_.out HW_.out (by kernel_rfl)) (fun _ _ _ h => h) (Or.inl ⟨by rfl, ?_⟩) hHeld ?_ ?_
        rotate_left
        ·rintro w' ⟨s0, s1, s2, s3, s4, s5, s6, s7, s8, s9, s10, s11, s12, s13, s14, s15, s16, s17, s18, s19, s20, s21, s22, s23, s24, s25, s26, s27, s28, s29⟩
         go_simp
         with_reducible rfl
        rotate_left
        ·simp only [Act.put, List.setIfInBounds_toArray, List.set_cons_zero, List.set_cons_succ, i64_w, i32_w]
         rfl
        refine take_ (i := 10) (N := some 31) (v := ?_) (a' := ?_) (bs 20 1791) rfl rfl (take_ofW HT_.out HW_.out (by kernel_rfl)) (fun _ _ _ h => h) (Or.inl ⟨by rfl, ?_⟩) hHeld ?_ ?_
        rotate_left
        ·rintro w' ⟨s0, s1, s2, s3, s4, s5, s6, s7, s8, s9, s10, s11, s12, s13, s14, s15, s16, s17, s18, s19, s20, s21, s22, s23, s24, s25, s26, s27, s28, s29⟩
         go_simp
         with_reducible rfl
        rotate_left
        ·simp only [Act.put, List.setIfInBounds_toArray, List.set_cons_zero, List.set_cons_succ, i64_w, i32_w]
         rfl
        refine one_ (i := 8) (N := some 29) (bs 20 2047) rfl rfl (one_of HT_.out (by kernel_rfl)) (by decide) (fun K hK => ?_)
        refine goes_ Tryd.func12 (by kernel_rfl) rfl #[.agg #[.string a0_0, .slice A0_1 l0_1.length c0_1, .string a0_2, .string a0_3, .string a0_4, .int .i64 a0_5, .int .i64 a0_6, .bool a0_7, .int .i64 a0_8, .int .i64 a0_9], .agg #[.string a1_0, .slice A1_1 l1_1.length c1_1, .string a1_2, .string a1_3, .string a1_4, .int .i64 a1_5, .int .i64 a1_6, .bool a1_7, .int .i64 a1_8, .int .i64 a1_9]] (by rfl) rfl rfl ap1 ?_
        with_reducible refine (order_Same.calls kj4 a0_0 _ _ l0_1 a0_2 a0_3 a0_4 a0_5 a0_6 a0_7 a0_8 a0_9 a1_0 _ _ l1_1 a1_2 a1_3 a1_4 a1_5 a1_6 a1_7 a1_8 a1_9 t591 _ ?side1 ?side2 ?side3 ?side4 A33.out).mono ?_
        (case side1 => exact cu (Kd.C_below HR0_1.out HB.out))
        (case side2 => exact HC0_1.out)
        (case side3 => exact cu (Kd.C_below HR1_1.out HB.out))
        (case side4 => exact HC1_1.out)
        rintro e w47 ⟨rfl, hb⟩
        refine ⟨_, rfl, ?_⟩
        have n0_ := Aside0.mk (Kd.R_below (ru HO579.out) hb); have n1_ := Aside0.mk (blk_below (bu BK573.out) hb); have n2_ := Aside0.mk (blk_below (bu BK574.out) hb); have n3_ := Aside0.mk (blk_below (bu BK588.out) hb); have n4_ := Aside0.mk (below_step (beu HB.out) hb); clear HO579 BK573 BK574 BK588 HB; have HO579 := n0_; have BK573 := n1_; have BK574 := n2_; have BK588 := n3_; have HB := n4_; clear n0_ n1_ n2_ n3_ n4_
        (try clear hb)
        (try clear hb2)
        (try clear hk)
        (try clear hi)
        refine hK.out _ _ ⟨(blk_cell BK573.out 0).trans rfl, (blk_cell BK573.out 1).trans rfl, (blk_cell BK573.out 2).trans rfl, (blk_cell BK573.out 3).trans rfl, (blk_cell BK573.out 4).trans rfl, (blk_cell BK573.out 5).trans rfl, (blk_cell BK573.out 6).trans rfl, (blk_cell BK573.out 7).trans rfl, (blk_cell BK573.out 8).trans rfl, (blk_cell BK573.out 9).trans rfl, (blk_cell BK574.out 0).trans rfl, (blk_cell BK574.out 1).trans rfl, (blk_cell BK574.out 2).trans rfl, (blk_cell BK574.out 3).trans rfl, (blk_cell BK574.out 4).trans rfl, (blk_cell BK574.out 5).trans rfl, (blk_cell BK574.out 6).trans rfl, (blk_cell BK574.out 7).trans rfl, (blk_cell BK574.out 8).trans rfl, (blk_cell BK574.out 9).trans rfl, (blk_cell BK588.out 0).trans rfl, (blk_cell BK588.out 1).trans rfl, (blk_cell BK588.out 2).trans rfl, (blk_cell BK588.out 3).trans rfl, (blk_cell BK588.out 4).trans rfl, (blk_cell BK588.out 5).trans rfl, (blk_cell BK588.out 6).trans rfl, (blk_cell BK588.out 7).trans rfl, (blk_cell BK588.out 8).trans rfl, (blk_cell BK588.out 9).trans rfl⟩ (fun hHeld => ?_)
        clear hK K
        refine norm_ (a' := ?_) ?_ ?_
        rotate_left
        ·show Act.put _ (some 29) _ = _
         simp only [Act.put, List.setIfInBounds_toArray, List.set_cons_zero, List.set_cons_succ, i64_w, i32_w]
         rfl
        refine one_ (i := 11) (N := some 32) (bs 20 4095) rfl rfl (one_of HT_.out (by kernel_rfl)) (by decide) (fun K hK => ?_)
        refine goes_ Tryd.func21 (by kernel_rfl) rfl #[.agg #[.string a0_0, .slice A0_1 l0_1.length c0_1, .string a0_2, .string a0_3, .string a0_4, .int .i64 a0_5, .int .i64 a0_6, .bool a0_7, .int .i64 a0_8, .int .i64 a0_9], .agg #[.string a1_0, .slice A1_1 l1_1.length c1_1, .string a1_2, .string a1_3, .string a1_4, .int .i64 a1_5, .int .i64 a1_6, .bool a1_7, .int .i64 a1_8, .int .i64 a1_9]] (by rfl) rfl rfl ap1 ?_
        with_reducible refine (packhorseref10_Same.calls kj4 a0_0 _ _ l0_1 a0_2 a0_3 a0_4 a0_5 a0_6 a0_7 a0_8 a0_9 a1_0 _ _ l1_1 a1_2 a1_3 a1_4 a1_5 a1_6 a1_7 a1_8 a1_9 t592 _ ?side1 ?side2 ?side3 ?side4 A34.out).mono ?_
        (case side1 => exact cu (Kd.C_below HR0_1.out HB.out))
        (case side2 => exact HC0_1.out)
        (case side3 => exact cu (Kd.C_below HR1_1.out HB.out))
        (case side4 => exact HC1_1.out)
        rintro e w48 ⟨rfl, hb⟩
        refine ⟨_, rfl, ?_⟩
        have n0_ := Aside0.mk (Kd.R_below (ru HO579.out) hb); have n1_ := Aside0.mk (blk_below (bu BK573.out) hb); have n2_ := Aside0.mk (blk_below (bu BK574.out) hb); have n3_ := Aside0.mk (blk_below (bu BK588.out) hb); have n4_ := Aside0.mk (below_step (beu HB.out) hb); clear HO579 BK573 BK574 BK588 HB; have HO579 := n0_; have BK573 := n1_; have BK574 := n2_; have BK588 := n3_; have HB := n4_; clear n0_ n1_ n2_ n3_ n4_
        (try clear hb)
        (try clear hb2)
        (try clear hk)
        (try clear hi)
        refine hK.out _ _ ⟨(blk_cell BK573.out 0).trans rfl, (blk_cell BK573.out 1).trans rfl, (blk_cell BK573.out 2).trans rfl, (blk_cell BK573.out 3).trans rfl, (blk_cell BK573.out 4).trans rfl, (blk_cell BK573.out 5).trans rfl, (blk_cell BK573.out 6).trans rfl, (blk_cell BK573.out 7).trans rfl, (blk_cell BK573.out 8).trans rfl, (blk_cell BK573.out 9).trans rfl, (blk_cell BK574.out 0).trans rfl, (blk_cell BK574.out 1).trans rfl, (blk_cell BK574.out 2).trans rfl, (blk_cell BK574.out 3).trans rfl, (blk_cell BK574.out 4).trans rfl, (blk_cell BK574.out 5).trans rfl, (blk_cell BK574.out 6).trans rfl, (blk_cell BK574.out 7).trans rfl, (blk_cell BK574.out 8).trans rfl, (blk_cell BK574.out 9).trans rfl, (blk_cell BK588.out 0).trans rfl, (blk_cell BK588.out 1).trans rfl, (blk_cell BK588.out 2).trans rfl, (blk_cell BK588.out 3).trans rfl, (blk_cell BK588.out 4).trans rfl, (blk_cell BK588.out 5).trans rfl, (blk_cell BK588.out 6).trans rfl, (blk_cell BK588.out 7).trans rfl, (blk_cell BK588.out 8).trans rfl, (blk_cell BK588.out 9).trans rfl⟩ (fun hHeld => ?_)
        clear hK K
        refine norm_ (a' := ?_) ?_ ?_
        rotate_left
        ·show Act.put _ (some 32) _ = _
         simp only [Act.put, List.setIfInBounds_toArray, List.set_cons_zero, List.set_cons_succ, i64_w, i32_w]
         rfl
        refine pure_ (i := 12) (N := some 33) (v := ?_) (a' := ?_) (bs 20 8191) rfl rfl (any_of HT_.out (by kernel_rfl)) (fun _ _ _ h => h) (Or.inl ⟨by rfl, ?_⟩) ?_ ?_
        rotate_left
        ·intro w'
         go_simp
         with_reducible rfl
        rotate_left
        ·simp only [Act.put, List.setIfInBounds_toArray, List.set_cons_zero, List.set_cons_succ, i64_w, i32_w]
         rfl
        refine pure_ (i := 13) (N := some 34) (v := ?_) (a' := ?_) (bs 20 16383) rfl rfl (any_of HT_.out (by kernel_rfl)) (fun _ _ _ h => h) (Or.inl ⟨by rfl, ?_⟩) ?_ ?_
        rotate_left
        ·intro w'
         go_simp
         with_reducible rfl
        rotate_left
        ·simp only [Act.put, List.setIfInBounds_toArray, List.set_cons_zero, List.set_cons_succ, i64_w, i32_w]
         rfl
        refine pure_ (i := 14) (N := some 35) (v := ?_) (a' := ?_) (bs 20 32767) rfl rfl (any_of HT_.out (by kernel_rfl)) (fun _ _ _ h => h) (Or.inl ⟨by rfl, ?_⟩) ?_ ?_
        rotate_left
        ·intro w'
         go_simp
         with_reducible rfl
        rotate_left
        ·simp only [Act.put, List.setIfInBounds_toArray, List.set_cons_zero, List.set_cons_succ, i64_w, i32_w]
         rfl
        refine take_ (i := 15) (N := some 36) (v := ?_) (a' := ?_) (bs 20 65535) rfl rfl (take_ofW HT_.out HW_.out (by kernel_rfl)) (fun _ _ _ h => h) (Or.inl ⟨by rfl, ?_⟩) hHeld ?_ ?_
        rotate_left
        ·rintro w' ⟨s0, s1, s2, s3, s4, s5, s6, s7, s8, s9, s10, s11, s12, s13, s14, s15, s16, s17, s18, s19, s20, s21, s22, s23, s24, s25, s26, s27, s28, s29⟩
         go_simp
         with_reducible rfl
        rotate_left
        ·simp only [Act.put, List.setIfInBounds_toArray, List.set_cons_zero, List.set_cons_succ, i64_w, i32_w]
         rfl
        refine take_ (i := 16) (N := some 37) (v := ?_) (a' := ?_) (bs 20 131071) rfl rfl (take_ofW HT_.out HW_.out (by kernel_rfl)) (fun _ _ _ h => h) (Or.inl ⟨by rfl, ?_⟩) hHeld ?_ ?_
        rotate_left
        ·rintro w' ⟨s0, s1, s2, s3, s4, s5, s6, s7, s8, s9, s10, s11, s12, s13, s14, s15, s16, s17, s18, s19, s20, s21, s22, s23, s24, s25, s26, s27, s28, s29⟩
         go_simp
         with_reducible rfl
        rotate_left
        ·simp only [Act.put, List.setIfInBounds_toArray, List.set_cons_zero, List.set_cons_succ, i64_w, i32_w]
         rfl
        refine one_ (i := 17) (N := some 38) (bs 20 262143) rfl rfl (one_of HT_.out (by kernel_rfl)) (by decide) (fun K hK => ?_)
        refine goes_ Tryd.func12 (by kernel_rfl) rfl #[.agg #[.string a0_0, .slice A0_1 l0_1.length c0_1, .string a0_2, .string a0_3, .string a0_4, .int .i64 a0_5, .int .i64 a0_6, .bool a0_7, .int .i64 a0_8, .int .i64 a0_9], .agg #[.string t576, .slice Ao25 t577.length co25, .string t580, .string t581, .string t582, .int .i64 t583, .int .i64 t584, .bool t585, .int .i64 t586, .int .i64 t587]] (by rfl) rfl rfl ap1 ?_
        with_reducible refine (order_Same.calls kj4 a0_0 _ _ l0_1 a0_2 a0_3 a0_4 a0_5 a0_6 a0_7 a0_8 a0_9 t576 _ _ t577 t580 t581 t582 t583 t584 t585 t586 t587 t593 _ ?side1 ?side2 ?side3 ?side4 A42.out).mono ?_
        (case side1 => exact cu (Kd.C_below HR0_1.out HB.out))
        (case side2 => exact HC0_1.out)
        (case side3 => exact cu (Kd.R_reads' HO579.out).2.2)
        (case side4 => exact (Kd.R_reads' HO579.out).2.1)
        rintro e w49 ⟨rfl, hb⟩
        refine ⟨_, rfl, ?_⟩
        have n0_ := Aside0.mk (Kd.R_below (ru HO579.out) hb); have n1_ := Aside0.mk (blk_below (bu BK573.out) hb); have n2_ := Aside0.mk (blk_below (bu BK574.out) hb); have n3_ := Aside0.mk (blk_below (bu BK588.out) hb); have n4_ := Aside0.mk (below_step (beu HB.out) hb); clear HO579 BK573 BK574 BK588 HB; have HO579 := n0_; have BK573 := n1_; have BK574 := n2_; have BK588 := n3_; have HB := n4_; clear n0_ n1_ n2_ n3_ n4_
        (try clear hb)
        (try clear hb2)
        (try clear hk)
        (try clear hi)
        refine hK.out _ _ ⟨(blk_cell BK573.out 0).trans rfl, (blk_cell BK573.out 1).trans rfl, (blk_cell BK573.out 2).trans rfl, (blk_cell BK573.out 3).trans rfl, (blk_cell BK573.out 4).trans rfl, (blk_cell BK573.out 5).trans rfl, (blk_cell BK573.out 6).trans rfl, (blk_cell BK573.out 7).trans rfl, (blk_cell BK573.out 8).trans rfl, (blk_cell BK573.out 9).trans rfl, (blk_cell BK574.out 0).trans rfl, (blk_cell BK574.out 1).trans rfl, (blk_cell BK574.out 2).trans rfl, (blk_cell BK574.out 3).trans rfl, (blk_cell BK574.out 4).trans rfl, (blk_cell BK574.out 5).trans rfl, (blk_cell BK574.out 6).trans rfl, (blk_cell BK574.out 7).trans rfl, (blk_cell BK574.out 8).trans rfl, (blk_cell BK574.out 9).trans rfl, (blk_cell BK588.out 0).trans rfl, (blk_cell BK588.out 1).trans rfl, (blk_cell BK588.out 2).trans rfl, (blk_cell BK588.out 3).trans rfl, (blk_cell BK588.out 4).trans rfl, (blk_cell BK588.out 5).trans rfl, (blk_cell BK588.out 6).trans rfl, (blk_cell BK588.out 7).trans rfl, (blk_cell BK588.out 8).trans rfl, (blk_cell BK588.out 9).trans rfl⟩ (fun hHeld => ?_)
        clear hK K
        refine norm_ (a' := ?_) ?_ ?_
        rotate_left
        ·show Act.put _ (some 38) _ = _
         simp only [Act.put, List.setIfInBounds_toArray, List.set_cons_zero, List.set_cons_succ, i64_w, i32_w]
         rfl
        refine pure_ (i := 18) (N := some 39) (v := ?_) (a' := ?_) (bs 20 524287) rfl rfl (any_of HT_.out (by kernel_rfl)) (fun _ _ _ h => h) (Or.inl ⟨by rfl, ?_⟩) ?_ ?_
        rotate_left
        ·intro w'
         go_simp
         with_reducible rfl
        rotate_left
        ·simp only [Act.put, List.setIfInBounds_toArray, List.set_cons_zero, List.set_cons_succ, i64_w, i32_w]
         rfl
        refine pure_ (i := 19) (N := some 40) (v := ?_) (a' := ?_) (bs 20 1048575) rfl rfl (any_of HT_.out (by kernel_rfl)) (fun _ _ _ h => h) (Or.inl ⟨by rfl, ?_⟩) ?_ ?_
        rotate_left
        ·intro w'
         go_simp
         with_reducible rfl
        rotate_left
        ·simp only [Act.put, List.setIfInBounds_toArray, List.set_cons_zero, List.set_cons_succ, i64_w, i32_w]
         rfl
        refine done_ (done_of HT_.out (by kernel_rfl)) ?_
        try go_wp2
        go_meet
        case rel => exact ⟨_, (!t593), ap3, H', ⟨by have := HJ4.out; first | omega | exact Nat.le_refl _⟩, ⟨ru HO579.out⟩, ⟨by (with_reducible repeat (first | refine blk_drewN ?_ _ | refine blk_drew ?_ | refine blk_alloc ?_ _)); exact BK573.out⟩, ⟨by (with_reducible repeat (first | refine blk_drewN ?_ _ | refine blk_drew ?_ | refine blk_alloc ?_ _)); exact BK574.out⟩, ⟨by (with_reducible repeat (first | refine blk_drewN ?_ _ | refine blk_drew ?_ | refine blk_alloc ?_ _)); exact BK588.out⟩, ⟨beu HB.out⟩⟩
     case rest =>
      clear HC17; (try clear c1); (try clear c2); (try clear p2); (try clear c3); (try clear c10); (try clear c12); (try clear c13); (try clear c21); (try clear c35); (try clear c35b0); (try clear c35b1); (try clear c35b2); obtain ⟨kq, x40_16, rfl, HA, HJ16, HO_589001, BK573, BK574, BK588, HB⟩ := hcut
      cases kq with
      | zero => exact absurd HA.out (by simp [packhorselaw10_OrderTells.j1])
      | succ kj16 =>
       have H := HA.out; clear HA; simp only [packhorselaw10_OrderTells.j1] at H
       by_cases c50 : x40_16 = true
       ·subst c50
        have H1 : (some false) = some r := by rw [if_pos rfl] at H; exact H
        clear H; have H := H1; clear H1; obtain rfl := Option.some.inj H
        exact absurd HRT.out (by decide)
       ·replace c50 := Bool.eq_false_iff.mpr c50
        subst c50
        have H1 : (if (t577.length : Int) > 0 then (if 0 < (l0_1.length : Int) then (if 0 < (t577.length : Int) then ((order_Same.f kj16 a0_0 l0_1 a0_2 a0_3 a0_4 a0_5 a0_6 a0_7 a0_8 a0_9 t576 (t577.set (0 : Int).toNat (⟨(rd_T52 t577 0).f0, Go.bits .xor .i64 ((rd_T52 t577 0).f1) 1, (rd_T52 t577 0).f2⟩ : S52)) t580 t581 t582 t583 t584 t585 t586 t587).bind fun t599 => (some (!t599))) else (none)) else (none)) else (some true)) = some r := by rw [if_neg (show ¬ (false = true) by decide)] at H; exact H
        clear H; have H := H1; clear H1
        by_cases c51 : (t577.length : Int) > 0
        ·rw [if_pos c51] at H
         have c51b0 : decide (0 < (t577.length : Int)) = true := decide_eq_true c51; have c51b1 : decide (0 < t577.length) = true := decide_eq_true (by omega); clear c51
         by_cases c52 : 0 < (l0_1.length : Int)
         ·rw [if_pos c52] at H
          have c52b0 : decide (0 < (l0_1.length : Int)) = true := decide_eq_true c52; have c52b1 : decide (0 < l0_1.length) = true := decide_eq_true (by omega); clear c52
          by_cases c53 : 0 < (t577.length : Int)
          ·rw [if_pos c53] at H
           have c53b0 : decide (0 < (t577.length : Int)) = true := decide_eq_true c53; have c53b1 : decide (0 < t577.length) = true := decide_eq_true (by omega); clear c53; obtain ⟨y597, hy597⟩ : ∃ y_ : List (S52), y_ = (t577.set (0 : Int).toNat (⟨(rd_T52 t577 0).f0, Go.bits .xor .i64 ((rd_T52 t577 0).f1) 1, (rd_T52 t577 0).f2⟩ : S52)) := ⟨_, rfl⟩
           replace H : ((order_Same.f kj16 a0_0 l0_1 a0_2 a0_3 a0_4 a0_5 a0_6 a0_7 a0_8 a0_9 t576 y597 t580 t581 t582 t583 t584 t585 t586 t587).bind fun t599 => (some (!t599))) = some r := by first | (rw [hy597]; with_reducible exact H) | (have H2_ := (Option.bind_some _ _).symm.trans H; rw [hy597]; with_reducible exact H2_) | (have H2_ := (Option.bind_some _ _).symm.trans H; with_reducible exact H2_) | with_reducible exact H | (rw [hy597]; exact H) | exact H
           have Ny597 := Aside0.mk hy597; clear hy597; replace H := obm H; obtain ⟨t599, A550, H⟩ := H; replace H : (some (!t599)) = some r := H; have A55 := Aside0.mk A550; clear A550; obtain rfl := Option.some.inj H; simp only [Option.some.injEq, Prod.mk.injEq] at H; obtain ⟨rfl⟩ := H; have hnb56 := NB588_573.out; have hnc56 := NB573_588.out; have hnb57 := NB588_574.out; have hnc57 := NB574_588.out; obtain ⟨hcz58_0, hcz58_1, hcz58_2, hcz58_3, hcz58_4, hcz58_5, hcz58_6, hcz58_7, hcz58_8, hcz58_9⟩ := cells10 BK588.out; obtain ⟨hfz58_0, hfz58_1, hfz58_2, hfz58_3, hfz58_4, hfz58_5, hfz58_6, hfz58_7, hfz58_8, hfz58_9⟩ := frozens10 BK588.out; have hnb59 := NB573_574.out; have hnc59 := NB574_573.out; obtain ⟨hcz60_0, hcz60_1, hcz60_2, hcz60_3, hcz60_4, hcz60_5, hcz60_6, hcz60_7, hcz60_8, hcz60_9⟩ := cells10 BK573.out; obtain ⟨hfz60_0, hfz60_1, hfz60_2, hfz60_3, hfz60_4, hfz60_5, hfz60_6, hfz60_7, hfz60_8, hfz60_9⟩ := frozens10 BK573.out; have p594 : 0 ≤ (0 : Int) := (by omega); have q594 : 0 < (l0_1.length : Int) := of_decide_eq_true ap2; obtain ⟨ad594, e594, hx594_0, hx594_1, hx594_2⟩ := at_T52 HR0_1.out 0 p594 q594
           cases e594
           have qi594 : (0 < l0_1.length) = True := eq_true (by omega)
           (try rw [show ((0 : Int)).toNat = 0 from rfl] at hx594_0)
           (try rw [show 0 * 3 = 0 from rfl] at hx594_0)
           (try rw [Addr.add_zero'] at hx594_0)
           (try rw [show ((0 : Int)).toNat = 0 from rfl] at hx594_1)
           (try rw [show 0 * 3 = 0 from rfl] at hx594_1)
           (try rw [Addr.add_zero'] at hx594_1)
           (try rw [show ((0 : Int)).toNat = 0 from rfl] at hx594_2)
           (try rw [show 0 * 3 = 0 from rfl] at hx594_2)
           (try rw [Addr.add_zero'] at hx594_2)
           replace hx594_0 := (HB.out.cell (World.block_lt_of_cell? w _ hx594_0)).trans hx594_0; replace hx594_1 := (HB.out.cell (World.block_lt_of_cell? w _ hx594_1)).trans hx594_1; replace hx594_2 := (HB.out.cell (World.block_lt_of_cell? w _ hx594_2)).trans hx594_2; replace p594 := eq_true p594; replace q594 := eq_true q594
           try go_wp2_with (first | ((with_reducible refine gate_dst (N := 6) rfl ?_); (try (refine gate_guard (by rfl) ?_; dsimp only)); refine box_event ?hg (N := 6) ?hd (cs := #[.string ⟨#[]⟩, .int .i64 0, .int .i64 0]) (t := 52) ?hr ?_; (case hd => rfl); (case hg => rfl); (case hr => first | (go_simp; done) | (go_simp; rfl)); intro gb595 hg w61 hbox hb; have _ := Aside0.mk (Kd.R_below (Kd.R_elderB (ru HO_589001.out) gb595 (Nat.le_of_eq hg.symm)) hb); have _ := Aside0.mk (blk_below (bu BK573.out) hb); have _ := Aside0.mk (blk_below (bu BK574.out) hb); have _ := Aside0.mk (blk_below (bu BK588.out) hb); have _ := Aside0.mk (below_step (beu HB.out) hb); have _ := Aside0.mk (hbox); have _ := Aside0.mk ((by rw [hg]; exact (below_size (beu HB.out)) : w.heap.size ≤ gb595)); have _ := Aside0.mk ((by rw [hg]; exact (below_size (beu HB.out)) : w.heap.size ≤ gb595)); have _ := Aside0.mk (nb1 hg BK573.out : gb573 ≠ gb595); have _ := Aside0.mk (nb2 hg BK573.out : gb595 ≠ gb573); have _ := Aside0.mk (nb1 hg BK574.out : gb574 ≠ gb595); have _ := Aside0.mk (nb2 hg BK574.out : gb595 ≠ gb574); have _ := Aside0.mk (nb1 hg BK588.out : gb588 ≠ gb595); have _ := Aside0.mk (nb2 hg BK588.out : gb595 ≠ gb588); clear HO_589001 BK573 BK574 BK588 HB; rename_i HO_589001 BK573 BK574 BK588 HB BK595 GW595 GE595 NB573_595 NB595_573 NB574_595 NB595_574 NB588_595 NB595_588; clear hb hbox hg; have hnb62 := NB595_573.out; have hnc62 := NB573_595.out; have hnb63 := NB595_574.out; have hnc63 := NB574_595.out; have hnb64 := NB595_588.out; have hnc64 := NB588_595.out; obtain ⟨hcz65_0, hcz65_1, hcz65_2⟩ := cells3 BK595.out; obtain ⟨hfz65_0, hfz65_1, hfz65_2⟩ := frozens3 BK595.out) | ((with_reducible refine gate_store (t := 52) (p := 6) rfl ?_); refine store_event (t := 52) (p := 6) (v := ?vo_w66) (w1 := (((w61.setCell ⟨gb595, 0, none⟩ (.string ((rd_T52 l0_1 0).f0))).setCell ⟨gb595, 1, none⟩ (.int .i64 ((rd_T52 l0_1 0).f1))).setCell ⟨gb595, 2, none⟩ (.int .i64 ((rd_T52 l0_1 0).f2)))) ?hg ?ho ?hn ?hr ?_; (case ho => rfl); (case hg => rfl); (case hn => rfl); (case hr => first | (go_simp; done) | (go_simp; rfl)); intro w66 hw; have _ : Aside0 (Kd.R k52 52 w66 w.heap.size (fun k_ => k_ ≠ gb595) (.slice Ao25 t577.length co25) t577) := ⟨(by rw [hw]; exact (ru (Kd.R_mono (Kd.R_far (p := ⟨gb595, 2, none⟩) (Kd.R_far (p := ⟨gb595, 1, none⟩) (Kd.R_far (p := ⟨gb595, 0, none⟩) (Kd.R_mono HO_589001.out (fun k_ hk => (⟨hk, by first | exact hk.2 | exact hk.2.2.2 | exact hk.2.2 | exact hk.2.1 | exact hk.2.2.1⟩ : _ ∧ k_ ≠ gb595))) (fun _ hk => hk.2) (.string ((rd_T52 l0_1 0).f0))) (fun _ hk => hk.2) (.int .i64 ((rd_T52 l0_1 0).f1))) (fun _ hk => hk.2) (.int .i64 ((rd_T52 l0_1 0).f2))) (fun _ hk => hk.1.2))))⟩; have _ : Aside0 (w66.heap[gb573]? = some (.cells #[.string a0_0, .slice (some ad594) l0_1.length c0_1, .string a0_2, .string a0_3, .string a0_4, .int .i64 a0_5, .int .i64 a0_6, .bool a0_7, .int .i64 a0_8, .int .i64 a0_9] 28 (0, 0))) := ⟨(by rw [hw]; exact (by (with_reducible repeat (first | refine blk_drewN ?_ _ | refine blk_drew ?_ | refine blk_alloc ?_ _)); refine blk_far ?_ NB573_595.out _; (with_reducible repeat (first | refine blk_drewN ?_ _ | refine blk_drew ?_ | refine blk_alloc ?_ _)); refine blk_far ?_ NB573_595.out _; (with_reducible repeat (first | refine blk_drewN ?_ _ | refine blk_drew ?_ | refine blk_alloc ?_ _)); refine blk_far ?_ NB573_595.out _; (with_reducible repeat (first | refine blk_drewN ?_ _ | refine blk_drew ?_ | refine blk_alloc ?_ _)); exact BK573.out))⟩; have _ : Aside0 (w66.heap[gb574]? = some (.cells #[.string a1_0, .slice A1_1 l1_1.length c1_1, .string a1_2, .string a1_3, .string a1_4, .int .i64 a1_5, .int .i64 a1_6, .bool a1_7, .int .i64 a1_8, .int .i64 a1_9] 28 (0, 0))) := ⟨(by rw [hw]; exact (by (with_reducible repeat (first | refine blk_drewN ?_ _ | refine blk_drew ?_ | refine blk_alloc ?_ _)); refine blk_far ?_ NB574_595.out _; (with_reducible repeat (first | refine blk_drewN ?_ _ | refine blk_drew ?_ | refine blk_alloc ?_ _)); refine blk_far ?_ NB574_595.out _; (with_reducible repeat (first | refine blk_drewN ?_ _ | refine blk_drew ?_ | refine blk_alloc ?_ _)); refine blk_far ?_ NB574_595.out _; (with_reducible repeat (first | refine blk_drewN ?_ _ | refine blk_drew ?_ | refine blk_alloc ?_ _)); exact BK574.out))⟩; have _ : Aside0 (w66.heap[gb588]? = some (.cells #[.string t576, .slice Ao25 t577.length co25, .string t580, .string t581, .string t582, .int .i64 t583, .int .i64 t584, .bool t585, .int .i64 t586, .int .i64 t587] 28 (0, 0))) := ⟨(by rw [hw]; exact (by (with_reducible repeat (first | refine blk_drewN ?_ _ | refine blk_drew ?_ | refine blk_alloc ?_ _)); refine blk_far ?_ NB588_595.out _; (with_reducible repeat (first | refine blk_drewN ?_ _ | refine blk_drew ?_ | refine blk_alloc ?_ _)); refine blk_far ?_ NB588_595.out _; (with_reducible repeat (first | refine blk_drewN ?_ _ | refine blk_drew ?_ | refine blk_alloc ?_ _)); refine blk_far ?_ NB588_595.out _; (with_reducible repeat (first | refine blk_drewN ?_ _ | refine blk_drew ?_ | refine blk_alloc ?_ _)); exact BK588.out))⟩; have _ : Aside0 (w66.heap[gb595]? = some (.cells #[.string ((rd_T52 l0_1 0).f0), .int .i64 ((rd_T52 l0_1 0).f1), .int .i64 ((rd_T52 l0_1 0).f2)] 52 (0, 0))) := ⟨(by rw [hw]; exact (by (with_reducible repeat (first | refine blk_drewN ?_ _ | refine blk_drew ?_ | refine blk_alloc ?_ _)); refine blk_put (cs := #[.string ((rd_T52 l0_1 0).f0), .int .i64 ((rd_T52 l0_1 0).f1), .int .i64 0]) ?_ 2 _ rfl; (with_reducible repeat (first | refine blk_drewN ?_ _ | refine blk_drew ?_ | refine blk_alloc ?_ _)); refine blk_put (cs := #[.string ((rd_T52 l0_1 0).f0), .int .i64 0, .int .i64 0]) ?_ 1 _ rfl; (with_reducible repeat (first | refine blk_drewN ?_ _ | refine blk_drew ?_ | refine blk_alloc ?_ _)); refine blk_put (cs := #[.string ⟨#[]⟩, .int .i64 0, .int .i64 0]) ?_ 0 _ rfl; (with_reducible repeat (first | refine blk_drewN ?_ _ | refine blk_drew ?_ | refine blk_alloc ?_ _)); exact BK595.out))⟩; have _ : Aside0 (Below w.heap.size w w66) := ⟨(by rw [hw]; exact (beu HB.out))⟩; clear hw HO_589001 BK573 BK574 BK588 BK595 HB; rename_i HO_589001 BK573 BK574 BK588 BK595 HB; obtain ⟨hcz67_0, hcz67_1, hcz67_2, hcz67_3, hcz67_4, hcz67_5, hcz67_6, hcz67_7, hcz67_8, hcz67_9⟩ := cells10 BK588.out; obtain ⟨hfz67_0, hfz67_1, hfz67_2, hfz67_3, hfz67_4, hfz67_5, hfz67_6, hfz67_7, hfz67_8, hfz67_9⟩ := frozens10 BK588.out; have p596 : 0 ≤ (0 : Int) := (by omega); have q596 : 0 < (t577.length : Int) := of_decide_eq_true ap2; obtain ⟨ad596, e596, hx596_0, hx596_1, hx596_2⟩ := at_T52 (Kd.R_reads' HO_589001.out).2.2 0 p596 q596; cases e596; have qi596 : (0 < t577.length) = True := eq_true (by omega); (try rw [show ((0 : Int)).toNat = 0 from rfl] at hx596_0); (try rw [show 0 * 3 = 0 from rfl] at hx596_0); (try rw [Addr.add_zero'] at hx596_0); (try rw [show ((0 : Int)).toNat = 0 from rfl] at hx596_1); (try rw [show 0 * 3 = 0 from rfl] at hx596_1); (try rw [Addr.add_zero'] at hx596_1); (try rw [show ((0 : Int)).toNat = 0 from rfl] at hx596_2); (try rw [show 0 * 3 = 0 from rfl] at hx596_2); (try rw [Addr.add_zero'] at hx596_2); replace p596 := eq_true p596; replace q596 := eq_true q596; have p54 : 0 ≤ (0 : Int) := (by omega); have q54 : (0 : Int) < ((t577.length : Int) : Int) := of_decide_eq_true ap2; have qi54 : (0 < t577.length) = True := eq_true (by omega); obtain ⟨go54, co54, eo54, gb54, gl54, cl54, HG54⟩ := Kd.R_form HO_589001.out (by omega); (first | cases eo54 | (injection eo54 with ea_ en_ ec_; (first | subst ea_ | (injection ea_ with ea_; subst ea_)); subst ec_; clear en_)); have GB54 := Aside0.mk gb54; have GG54 := Aside0.mk HG54; clear gb54 gl54 HG54; (first | simp only [add_plain] at hx596_0 | skip); (first | simp only [add_plain] at hx596_1 | skip); (first | simp only [add_plain] at hx596_2 | skip); obtain ⟨ce54, hcl54, hM54, hcc54, hfr54⟩ := Kd.R_elem HO_589001.out z52 (0 : Int) p54 q54; obtain rfl := k52_openM hM54; have hx54_0 : w66.cell? ⟨go54, (0 : Int).toNat * 3, none⟩ = some (.string ((rd_T52 t577 0).f0)) := hcc54 0 _ rfl; have hx54_1 : w66.cell? ⟨go54, (0 : Int).toNat * 3 + 1, none⟩ = some (.int .i64 ((rd_T52 t577 0).f1)) := hcc54 1 _ rfl; have hx54_2 : w66.cell? ⟨go54, (0 : Int).toNat * 3 + 2, none⟩ = some (.int .i64 ((rd_T52 t577 0).f2)) := hcc54 2 _ rfl; have hf54_0 : w66.frozen? ⟨go54, (0 : Int).toNat * 3, none⟩ = false := hfr54 0; have hf54_1 : w66.frozen? ⟨go54, (0 : Int).toNat * 3 + 1, none⟩ = false := hfr54 1; have hf54_2 : w66.frozen? ⟨go54, (0 : Int).toNat * 3 + 2, none⟩ = false := hfr54 2; clear hcl54 hcc54 hfr54 hM54; (try rw [show ((0 : Int)).toNat = 0 from rfl] at hx54_0); (try simp only [Nat.reduceMul, Nat.zero_mul, Nat.zero_add, Nat.reduceAdd] at hx54_0); (try rw [show ((0 : Int)).toNat = 0 from rfl] at hf54_0); (try simp only [Nat.reduceMul, Nat.zero_mul, Nat.zero_add, Nat.reduceAdd] at hf54_0); (try rw [show ((0 : Int)).toNat = 0 from rfl] at hx54_1); (try simp only [Nat.reduceMul, Nat.zero_mul, Nat.zero_add, Nat.reduceAdd] at hx54_1); (try rw [show ((0 : Int)).toNat = 0 from rfl] at hf54_1); (try simp only [Nat.reduceMul, Nat.zero_mul, Nat.zero_add, Nat.reduceAdd] at hf54_1); (try rw [show ((0 : Int)).toNat = 0 from rfl] at hx54_2); (try simp only [Nat.reduceMul, Nat.zero_mul, Nat.zero_add, Nat.reduceAdd] at hx54_2); (try rw [show ((0 : Int)).toNat = 0 from rfl] at hf54_2); (try simp only [Nat.reduceMul, Nat.zero_mul, Nat.zero_add, Nat.reduceAdd] at hf54_2); replace p54 := eq_true p54; replace q54 := eq_true q54; have HX68 := Aside0.mk (show Kd.R k52 52 w66 w.heap.size (fun k_ => k_ ≠ gb595) (.slice (some ⟨go54, 0, none⟩) t577.length co25) t577 from (ru HO_589001.out)); obtain ⟨ce68, hcl68, hM68, hcc68, hfr68⟩ := Kd.R_elem HX68.out z52 (0 : Int) (by omega) (by have h_ : (0 : Int) < ((t577.length : Int) : Int) := of_decide_eq_true ap2; first | exact h_ | (have e_ := (Kd.R_reads' HO_589001.out).1; omega) | simpa using h_); obtain rfl := k52_openM hM68; have HP68 := Kd.R_seg HX68.out (0 : Int) (by omega) (by have h_ : (0 : Int) < ((t577.length : Int) : Int) := of_decide_eq_true ap2; first | exact h_ | (have e_ := (Kd.R_reads' HO_589001.out).1; omega) | simpa using h_) (seg := [.int .i64 (Go.bits .xor .i64 ((rd_T52 t577 0).f1) 1)]) (j := 1) hcl68 hcc68 (show 2 ≤ 3 from by decide) (x' := (⟨(rd_T52 t577 0).f0, Go.bits .xor .i64 ((rd_T52 t577 0).f1) 1, (rd_T52 t577 0).f2⟩ : S52)) (k52_mkM _ _ _ (⟨(rd_T52 t577 0).f0, Go.bits .xor .i64 ((rd_T52 t577 0).f1) 1, (rd_T52 t577 0).f2⟩ : S52) ) (fun _ hk => hk); have hx68_1 := hcc68 1 _ rfl; (try simp only [show (k52).sz = 3 from rfl, Nat.mul_one, Nat.add_zero] at hx68_1); (try rw [show ((0 : Int)).toNat = 0 from rfl] at hx68_1); (try simp only [Nat.reduceMul, Nat.zero_mul, Nat.zero_add, Nat.reduceAdd] at hx68_1); have hf68_1 := hfr68 1; (try simp only [show (k52).sz = 3 from rfl, Nat.mul_one, Nat.add_zero] at hf68_1); (try rw [show ((0 : Int)).toNat = 0 from rfl] at hf68_1); (try simp only [Nat.reduceMul, Nat.zero_mul, Nat.zero_add, Nat.reduceAdd] at hf68_1); clear hcl68 hcc68 hfr68 hM68) | ((with_reducible refine gate_store (t := 2) (p := 56) rfl ?_); refine store_event (t := 2) (p := 56) (v := ?vo_w69) (w1 := (w66.setCell ⟨go54, 1, none⟩ (.int .i64 (Go.bits .xor .i64 ((rd_T52 t577 0).f1) 1)))) ?hg ?ho ?hn ?hr ?_; (case ho => rfl); (case hg => rfl); (case hn => rfl); (case hr => first | (go_simp; done) | (go_simp; rfl)); intro w69 hw; have hg : w66.grownBy w69 (some go54) := (by rw [hw]; exact HP68.2); have hp_ : Kd.R k52 52 w69 w.heap.size (fun k_ => k_ ≠ gb595) (.slice (some ⟨go54, 0, none⟩) t577.length co25) y597 := (by rw [hw, Ny597.out]; exact HP68.1); clear HP68; have _ := Aside0.mk (hp_); have _ := Aside0.mk (blk_grown (bu BK573.out) hg (Kd.R_ne HO_589001.out BK573.out (by decide))); have _ := Aside0.mk (blk_grown (bu BK574.out) hg (Kd.R_ne HO_589001.out BK574.out (by decide))); have _ := Aside0.mk (blk_grown (bu BK588.out) hg (Kd.R_ne HO_589001.out BK588.out (by decide))); have _ := Aside0.mk (blk_grown (bu BK595.out) hg (Kd.R_away HO_589001.out (fun _ hk => hk))); have _ := Aside0.mk ((by rw [hw]; exact below_set (HB.out) GB54.out : Below w.heap.size w w69)); clear HO_589001 BK573 BK574 BK588 BK595 HB; rename_i HO_589001 BK573 BK574 BK588 BK595 HB; clear hg hw hp_))
           (try (rw [drewN_self w69]; generalize hq_ : World.drewN w69 _ = w69; have _ := Aside0.mk (show Kd.R _ _ w69 _ _ _ _ from by rw [← hq_]; exact Kd.R_drewN HO_589001.out _); have _ := Aside0.mk (blk_at hq_ BK573.out); have _ := Aside0.mk (blk_at hq_ BK574.out); have _ := Aside0.mk (blk_at hq_ BK588.out); have _ := Aside0.mk (blk_at hq_ BK595.out); have _ := Aside0.mk (below_at hq_ HB.out); clear hq_ HO_589001 BK573 BK574 BK588 BK595 HB; rename_i HO_589001 BK573 BK574 BK588 BK595 HB))
           have n0_ := Aside0.mk (Kd.R_drew HO_589001.out); have n1_ := Aside0.mk (blk_drew BK573.out); have n2_ := Aside0.mk (blk_drew BK574.out); have n3_ := Aside0.mk (blk_drew BK588.out); have n4_ := Aside0.mk (blk_drew BK595.out); have n5_ := Aside0.mk (below_drew1 HB.out); clear HO_589001 BK573 BK574 BK588 BK595 HB; have HO_589001 := n0_; have BK573 := n1_; have BK574 := n2_; have BK588 := n3_; have BK595 := n4_; have HB := n5_; clear n0_ n1_ n2_ n3_ n4_ n5_; have p598 : 0 ≤ (0 : Int) := (by omega); have q598 : 0 < (l0_1.length : Int) := of_decide_eq_true ap2; obtain ⟨ad598, e598, hx598_0, hx598_1, hx598_2⟩ := at_T52 HR0_1.out 0 p598 q598; have hw598_2 := hx598_2
           (try rw [show ((0 : Int)).toNat = 0 from rfl] at hw598_2)
           (try rw [show 0 * 3 = 0 from rfl] at hw598_2)
           (try rw [Addr.add_zero'] at hw598_2)
           have hw598_1 := hx598_1
           (try rw [show ((0 : Int)).toNat = 0 from rfl] at hw598_1)
           (try rw [show 0 * 3 = 0 from rfl] at hw598_1)
           (try rw [Addr.add_zero'] at hw598_1)
           have hw598_0 := hx598_0
           (try rw [show ((0 : Int)).toNat = 0 from rfl] at hw598_0)
           (try rw [show 0 * 3 = 0 from rfl] at hw598_0)
           (try rw [Addr.add_zero'] at hw598_0)
           obtain rfl : ad594 = ad598 := (by injection e598); have qi598 : (0 < l0_1.length) = True := eq_true (by omega)
           (try rw [show ((0 : Int)).toNat = 0 from rfl] at hx598_0)
           (try rw [show 0 * 3 = 0 from rfl] at hx598_0)
           (try rw [Addr.add_zero'] at hx598_0)
           (try rw [show ((0 : Int)).toNat = 0 from rfl] at hx598_1)
           (try rw [show 0 * 3 = 0 from rfl] at hx598_1)
           (try rw [Addr.add_zero'] at hx598_1)
           (try rw [show ((0 : Int)).toNat = 0 from rfl] at hx598_2)
           (try rw [show 0 * 3 = 0 from rfl] at hx598_2)
           (try rw [Addr.add_zero'] at hx598_2)
           replace hx598_0 := (HB.out.cell (World.block_lt_of_cell? w _ hx598_0)).trans hx598_0; replace hx598_1 := (HB.out.cell (World.block_lt_of_cell? w _ hx598_1)).trans hx598_1; replace hx598_2 := (HB.out.cell (World.block_lt_of_cell? w _ hx598_2)).trans hx598_2; replace p598 := eq_true p598; replace q598 := eq_true q598
           refine start_ (n := 13) (S := fun w' => w'.cell? ⟨gb573, 0, none⟩ = some (.string a0_0) ∧ w'.cell? ⟨gb573, 1, none⟩ = some (.slice (some ad594) l0_1.length c0_1) ∧ w'.cell? ⟨gb573, 2, none⟩ = some (.string a0_2) ∧ w'.cell? ⟨gb573, 3, none⟩ = some (.string a0_3) ∧ w'.cell? ⟨gb573, 4, none⟩ = some (.string a0_4) ∧ w'.cell? ⟨gb573, 5, none⟩ = some (.int .i64 a0_5) ∧ w'.cell? ⟨gb573, 6, none⟩ = some (.int .i64 a0_6) ∧ w'.cell? ⟨gb573, 7, none⟩ = some (.bool a0_7) ∧ w'.cell? ⟨gb573, 8, none⟩ = some (.int .i64 a0_8) ∧ w'.cell? ⟨gb573, 9, none⟩ = some (.int .i64 a0_9) ∧ w'.cell? ⟨gb595, 0, none⟩ = some (.string ((rd_T52 l0_1 0).f0)) ∧ w'.cell? ⟨gb595, 1, none⟩ = some (.int .i64 ((rd_T52 l0_1 0).f1)) ∧ w'.cell? ⟨gb595, 2, none⟩ = some (.int .i64 ((rd_T52 l0_1 0).f2)) ∧ w'.cell? ⟨gb588, 0, none⟩ = some (.string t576) ∧ w'.cell? ⟨gb588, 1, none⟩ = some (.slice (some ⟨go54, 0, none⟩) t577.length co25) ∧ w'.cell? ⟨gb588, 2, none⟩ = some (.string t580) ∧ w'.cell? ⟨gb588, 3, none⟩ = some (.string t581) ∧ w'.cell? ⟨gb588, 4, none⟩ = some (.string t582) ∧ w'.cell? ⟨gb588, 5, none⟩ = some (.int .i64 t583) ∧ w'.cell? ⟨gb588, 6, none⟩ = some (.int .i64 t584) ∧ w'.cell? ⟨gb588, 7, none⟩ = some (.bool t585) ∧ w'.cell? ⟨gb588, 8, none⟩ = some (.int .i64 t586) ∧ w'.cell? ⟨gb588, 9, none⟩ = some (.int .i64 t587) ∧ w'.cell? ad594 = some (.string ((rd_T52 l0_1 0).f0)) ∧ w'.cell? ⟨ad594.block, ad594.off + 1, none⟩ = some (.int .i64 ((rd_T52 l0_1 0).f1)) ∧ w'.cell? ⟨ad594.block, ad594.off + 2, none⟩ = some (.int .i64 ((rd_T52 l0_1 0).f2))) (ds := []) #[false, false, false, false, false, false, false, false, false, false, false, false, false] (by kernel_rfl) rfl rfl ⟨(blk_cell BK573.out 0).trans rfl, (blk_cell BK573.out 1).trans rfl, (blk_cell BK573.out 2).trans rfl, (blk_cell BK573.out 3).trans rfl, (blk_cell BK573.out 4).trans rfl, (blk_cell BK573.out 5).trans rfl, (blk_cell BK573.out 6).trans rfl, (blk_cell BK573.out 7).trans rfl, (blk_cell BK573.out 8).trans rfl, (blk_cell BK573.out 9).trans rfl, (blk_cell BK595.out 0).trans rfl, (blk_cell BK595.out 1).trans rfl, (blk_cell BK595.out 2).trans rfl, (blk_cell BK588.out 0).trans rfl, (blk_cell BK588.out 1).trans rfl, (blk_cell BK588.out 2).trans rfl, (blk_cell BK588.out 3).trans rfl, (blk_cell BK588.out 4).trans rfl, (blk_cell BK588.out 5).trans rfl, (blk_cell BK588.out 6).trans rfl, (blk_cell BK588.out 7).trans rfl, (blk_cell BK588.out 8).trans rfl, (blk_cell BK588.out 9).trans rfl, ((HB.out.cell (World.block_lt_of_cell? w _ hw598_0)).trans hw598_0), ((HB.out.cell (World.block_lt_of_cell? w _ hw598_1)).trans hw598_1), ((HB.out.cell (World.block_lt_of_cell? w _ hw598_2)).trans hw598_2)⟩ (fun hHeld => ?_); refine with_tabW packhorselaw10_OrderTells.tab11 packhorselaw10_OrderTells.bits11 (fun HT_ HW_ => ?_)
           generalize w69.drew = w70 at HO_589001 BK573 BK574 BK588 BK595 HB hx598_0 hx598_1 hx598_2 hHeld ⊢
           refine pure_ (i := 0) (N := some 57) (v := ?_) (a' := ?_) (bs 13 1) rfl rfl (any_of HT_.out (by kernel_rfl)) (fun _ _ _ h => h) (Or.inl ⟨by rfl, ?_⟩) ?_ ?_
           rotate_left
           ·intro w'
            go_simp
            with_reducible rfl
           rotate_left
           ·simp only [Act.put, List.setIfInBounds_toArray, List.set_cons_zero, List.set_cons_succ, i64_w, i32_w]
            rfl
           refine take_ (i := 1) (N := some 58) (v := ?_) (a' := ?_) (bs 13 3) rfl rfl (take_ofW HT_.out HW_.out (by kernel_rfl)) (fun _ _ _ h => h) (Or.inl ⟨by rfl, ?_⟩) hHeld ?_ ?_
           rotate_left
           ·rintro w' ⟨s0, s1, s2, s3, s4, s5, s6, s7, s8, s9, s10, s11, s12, s13, s14, s15, s16, s17, s18, s19, s20, s21, s22, s23, s24, s25⟩
            go_simp
            with_reducible rfl
           rotate_left
           ·simp only [Act.put, List.setIfInBounds_toArray, List.set_cons_zero, List.set_cons_succ, i64_w, i32_w]
            rfl
           refine pure_ (i := 2) (N := some 59) (v := ?_) (a' := ?_) (bs 13 7) rfl rfl (any_of HT_.out (by kernel_rfl)) (fun _ _ _ h => h) (Or.inl ⟨by rfl, ?_⟩) ?_ ?_
           rotate_left
           ·intro w'
            go_simp
            with_reducible rfl
           rotate_left
           ·simp only [Act.put, List.setIfInBounds_toArray, List.set_cons_zero, List.set_cons_succ, i64_w, i32_w]
            rfl
           refine take_ (i := 3) (N := some 60) (v := ?_) (a' := ?_) (bs 13 15) rfl rfl (take_ofW HT_.out HW_.out (by kernel_rfl)) (fun _ _ _ h => h) (Or.inl ⟨by rfl, ?_⟩) hHeld ?_ ?_
           rotate_left
           ·rintro w' ⟨s0, s1, s2, s3, s4, s5, s6, s7, s8, s9, s10, s11, s12, s13, s14, s15, s16, s17, s18, s19, s20, s21, s22, s23, s24, s25⟩
            go_simp
            with_reducible rfl
           rotate_left
           ·simp only [Act.put, List.setIfInBounds_toArray, List.set_cons_zero, List.set_cons_succ, i64_w, i32_w]
            rfl
           refine take_ (i := 4) (N := some 61) (v := ?_) (a' := ?_) (bs 13 31) rfl rfl (take_ofW HT_.out HW_.out (by kernel_rfl)) (fun _ _ _ h => h) (Or.inl ⟨by rfl, ?_⟩) hHeld ?_ ?_
           rotate_left
           ·rintro w' ⟨s0, s1, s2, s3, s4, s5, s6, s7, s8, s9, s10, s11, s12, s13, s14, s15, s16, s17, s18, s19, s20, s21, s22, s23, s24, s25⟩
            go_simp
            with_reducible rfl
           rotate_left
           ·simp only [Act.put, List.setIfInBounds_toArray, List.set_cons_zero, List.set_cons_succ, i64_w, i32_w]
            rfl
           refine pure_ (i := 5) (N := some 62) (v := ?_) (a' := ?_) (bs 13 63) rfl rfl (any_of HT_.out (by kernel_rfl)) (fun _ _ _ h => h) (Or.inl ⟨by rfl, ?_⟩) ?_ ?_
           rotate_left
           ·intro w'
            go_simp
            with_reducible rfl
           rotate_left
           ·simp only [Act.put, List.setIfInBounds_toArray, List.set_cons_zero, List.set_cons_succ, i64_w, i32_w]
            rfl
           refine pure_ (i := 6) (N := some 63) (v := ?_) (a' := ?_) (bs 13 127) rfl rfl (any_of HT_.out (by kernel_rfl)) (fun _ _ _ h => h) (Or.inl ⟨by rfl, ?_⟩) ?_ ?_
           rotate_left
           ·intro w'
            go_simp
            with_reducible rfl
           rotate_left
           ·simp only [Act.put, List.setIfInBounds_toArray, List.set_cons_zero, List.set_cons_succ, i64_w, i32_w]
            rfl
           refine take_ (i := 7) (N := some 64) (v := ?_) (a' := ?_) (bs 13 255) rfl rfl (take_ofW HT_.out HW_.out (by kernel_rfl)) (fun _ _ _ h => h) (Or.inl ⟨by rfl, ?_⟩) hHeld ?_ ?_
           rotate_left
           ·rintro w' ⟨s0, s1, s2, s3, s4, s5, s6, s7, s8, s9, s10, s11, s12, s13, s14, s15, s16, s17, s18, s19, s20, s21, s22, s23, s24, s25⟩
            go_simp
            with_reducible rfl
           rotate_left
           ·simp only [Act.put, List.setIfInBounds_toArray, List.set_cons_zero, List.set_cons_succ, i64_w, i32_w]
            rfl
           refine take_ (i := 8) (N := some 65) (v := ?_) (a' := ?_) (bs 13 511) rfl rfl (take_ofW HT_.out HW_.out (by kernel_rfl)) (fun _ _ _ h => h) (Or.inl ⟨by rfl, ?_⟩) hHeld ?_ ?_
           rotate_left
           ·rintro w' ⟨s0, s1, s2, s3, s4, s5, s6, s7, s8, s9, s10, s11, s12, s13, s14, s15, s16, s17, s18, s19, s20, s21, s22, s23, s24, s25⟩
            go_simp
            with_reducible rfl
           rotate_left
           ·simp only [Act.put, List.setIfInBounds_toArray, List.set_cons_zero, List.set_cons_succ, i64_w, i32_w]
            rfl
           refine one_ (i := 9) (N := some 66) (bs 13 1023) rfl rfl (one_of HT_.out (by kernel_rfl)) (by decide) (fun K hK => ?_)
           refine goes_ Tryd.func12 (by kernel_rfl) rfl #[.agg #[.string a0_0, .slice (some ad594) l0_1.length c0_1, .string a0_2, .string a0_3, .string a0_4, .int .i64 a0_5, .int .i64 a0_6, .bool a0_7, .int .i64 a0_8, .int .i64 a0_9], .agg #[.string t576, .slice (some ⟨go54, 0, none⟩) y597.length co25, .string t580, .string t581, .string t582, .int .i64 t583, .int .i64 t584, .bool t585, .int .i64 t586, .int .i64 t587]] (by rfl) rfl rfl (by (try simp only [List.map_toArray, List.map_cons, List.map_nil]); first | done | (rw [show y597.length = t577.length from (Kd.R_reads' HO_589001.out).1.symm] <;> rfl) | rfl | (simp only [List.length_drop, List.length_take]; rfl)) ?_
           with_reducible refine (order_Same.calls kj16 a0_0 _ _ l0_1 a0_2 a0_3 a0_4 a0_5 a0_6 a0_7 a0_8 a0_9 t576 _ _ y597 t580 t581 t582 t583 t584 t585 t586 t587 t599 _ ?side1 ?side2 ?side3 ?side4 A55.out).mono ?_
           (case side1 => exact cu (Kd.C_below HR0_1.out HB.out))
           (case side2 => exact HC0_1.out)
           (case side3 => exact cu (Kd.R_reads' HO_589001.out).2.2)
           (case side4 => rw [show y597.length = t577.length from (Kd.R_reads' HO_589001.out).1.symm]; exact (Kd.R_reads' HO_589001.out).2.1)
           rintro e w71 ⟨rfl, hb⟩
           refine ⟨_, rfl, ?_⟩
           have n0_ := Aside0.mk (Kd.R_below (ru HO_589001.out) hb); have n1_ := Aside0.mk (blk_below (bu BK573.out) hb); have n2_ := Aside0.mk (blk_below (bu BK574.out) hb); have n3_ := Aside0.mk (blk_below (bu BK588.out) hb); have n4_ := Aside0.mk (blk_below (bu BK595.out) hb); have n5_ := Aside0.mk (below_step (beu HB.out) hb); clear HO_589001 BK573 BK574 BK588 BK595 HB; have HO_589001 := n0_; have BK573 := n1_; have BK574 := n2_; have BK588 := n3_; have BK595 := n4_; have HB := n5_; clear n0_ n1_ n2_ n3_ n4_ n5_
           (try clear hb)
           (try clear hb2)
           (try clear hk)
           (try clear hi)
           refine hK.out _ _ ⟨(blk_cell BK573.out 0).trans rfl, (blk_cell BK573.out 1).trans rfl, (blk_cell BK573.out 2).trans rfl, (blk_cell BK573.out 3).trans rfl, (blk_cell BK573.out 4).trans rfl, (blk_cell BK573.out 5).trans rfl, (blk_cell BK573.out 6).trans rfl, (blk_cell BK573.out 7).trans rfl, (blk_cell BK573.out 8).trans rfl, (blk_cell BK573.out 9).trans rfl, (blk_cell BK595.out 0).trans rfl, (blk_cell BK595.out 1).trans rfl, (blk_cell BK595.out 2).trans rfl, (blk_cell BK588.out 0).trans rfl, (blk_cell BK588.out 1).trans rfl, (blk_cell BK588.out 2).trans rfl, (blk_cell BK588.out 3).trans rfl, (blk_cell BK588.out 4).trans rfl, (blk_cell BK588.out 5).trans rfl, (blk_cell BK588.out 6).trans rfl, (blk_cell BK588.out 7).trans rfl, (blk_cell BK588.out 8).trans rfl, (blk_cell BK588.out 9).trans rfl, ((HB.out.cell (World.block_lt_of_cell? w _ hw598_0)).trans hw598_0), ((HB.out.cell (World.block_lt_of_cell? w _ hw598_1)).trans hw598_1), ((HB.out.cell (World.block_lt_of_cell? w _ hw598_2)).trans hw598_2)⟩ (fun hHeld => ?_)
           clear hK K
           refine norm_ (a' := ?_) ?_ ?_
           rotate_left
           ·show Act.put _ (some 66) _ = _
            simp only [Act.put, List.setIfInBounds_toArray, List.set_cons_zero, List.set_cons_succ, i64_w, i32_w]
            rfl
           refine pure_ (i := 10) (N := some 67) (v := ?_) (a' := ?_) (bs 13 2047) rfl rfl (any_of HT_.out (by kernel_rfl)) (fun _ _ _ h => h) (Or.inl ⟨by rfl, ?_⟩) ?_ ?_
           rotate_left
           ·intro w'
            go_simp
            with_reducible rfl
           rotate_left
           ·simp only [Act.put, List.setIfInBounds_toArray, List.set_cons_zero, List.set_cons_succ, i64_w, i32_w]
            rfl
           refine pure_ (i := 11) (N := some 68) (v := ?_) (a' := ?_) (bs 13 4095) rfl rfl (any_of HT_.out (by kernel_rfl)) (fun _ _ _ h => h) (Or.inl ⟨by rfl, ?_⟩) ?_ ?_
           rotate_left
           ·intro w'
            go_simp
            with_reducible rfl
           rotate_left
           ·simp only [Act.put, List.setIfInBounds_toArray, List.set_cons_zero, List.set_cons_succ, i64_w, i32_w]
            rfl
           refine pure_ (i := 12) (N := some 4) (v := ?_) (a' := ?_) (bs 13 8191) rfl rfl (any_of HT_.out (by kernel_rfl)) (fun _ _ _ h => h) (Or.inl ⟨by rfl, ?_⟩) ?_ ?_
           rotate_left
           ·intro w'
            go_simp
            with_reducible rfl
           rotate_left
           ·simp only [Act.put, List.setIfInBounds_toArray, List.set_cons_zero, List.set_cons_succ, i64_w, i32_w]
            rfl
           refine done_ (done_of HT_.out (by kernel_rfl)) ?_
           try go_wp2
           go_ret
           exact ⟨ap4, beu HB.out⟩
          ·rw [if_neg c53] at H
           exact absurd H (by simp)
         ·rw [if_neg c52] at H
          exact absurd H (by simp)
        ·rw [if_neg c51] at H
         have c51b0 : decide (0 < (t577.length : Int)) = false := decide_eq_false c51; have c51b1 : decide (0 < t577.length) = false := decide_eq_false (by omega); clear c51; obtain rfl := Option.some.inj H; simp only [Option.some.injEq, Prod.mk.injEq] at H; obtain ⟨rfl⟩ := H; have hnb72 := NB588_573.out; have hnc72 := NB573_588.out; have hnb73 := NB588_574.out; have hnc73 := NB574_588.out; obtain ⟨hcz74_0, hcz74_1, hcz74_2, hcz74_3, hcz74_4, hcz74_5, hcz74_6, hcz74_7, hcz74_8, hcz74_9⟩ := cells10 BK588.out; obtain ⟨hfz74_0, hfz74_1, hfz74_2, hfz74_3, hfz74_4, hfz74_5, hfz74_6, hfz74_7, hfz74_8, hfz74_9⟩ := frozens10 BK588.out
         go_wp2
         go_ret
         exact ⟨ap4, beu HB.out⟩
 ·replace c4 := Bool.eq_false_iff.mpr c4
  subst c4
  have H1 : (some false) = some r := by rw [if_neg (show ¬ (false = true) by decide)] at H; exact H
  clear H; have H := H1; clear H1; obtain rfl := Option.some.inj H
  exact absurd HRT.out (by decide)
end Go.Proofs.YtmcdbjcbfjnfoaaDoor.PAll
