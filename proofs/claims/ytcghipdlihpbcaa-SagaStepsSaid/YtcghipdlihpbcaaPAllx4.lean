-- Made by a program of this session (wip/gen)
import Derived.Test.YtcghipdlihpbcaaPAllx0
import Derived.Test.YtcghipdlihpbcaaPAllx2
namespace Go.Proofs.Ytcghipdlihpbcaa.PAll
open Go.RowKit Go.Proofs.YtcghipdlihpbcaaW.PrintWords Go.Proofs.YtcghipdlihpbcaaW.PrintLast Go.Proofs.YtcghipdlihpbcaaW.PrintMore
attribute [local go_sem] max2_int min2_int max_two min_two max_three min_three max_four min_four   -- for this text's walks alone
set_option linter.unusedVariables false
set_option linter.unusedSimpArgs false

/-! ### saga_no: function 16 -/
mutual
def saga_no.j0 : Nat → Int → Int → Bool → Int → Bool → Int → Option (Int × Bool × Int × Int × Int)
  | 0, _, _, _, _, _, _ => none
  | k + 1, x1, x8, x23, x154000, x154001, x154002 => if x23 = true then ((saga_to.f x154000 x154001 x154002 9).bind fun bt165 => (some (bt165.1, bt165.2.1, bt165.2.2.1, bt165.2.2.2.1, bt165.2.2.2.2))) else (if x8 = 7 then ((saga_to.f x154000 x154001 x154002 7).bind fun bt170 => (some (bt170.1, bt170.2.1, bt170.2.2.1, bt170.2.2.2.1, bt170.2.2.2.2))) else (if x8 = 9 then (saga_no.j1 k x1 (x8 == 9) x154000 x154001 x154002) else (saga_no.j1 k x1 (x8 == 10) x154000 x154001 x154002)))
def saga_no.j1 : Nat → Int → Bool → Int → Bool → Int → Option (Int × Bool × Int × Int × Int)
  | 0, _, _, _, _, _ => none
  | k + 1, x1, x38, x154000, x154001, x154002 => if x38 = true then (if (wrap64 ((mn x154002 999999) + 1)) ≥ (mx x1 1) then ((saga_to.f x154000 x154001 (wrap64 ((mn x154002 999999) + 1)) 12).bind fun bt175 => (some (bt175.1, bt175.2.1, bt175.2.2.1, bt175.2.2.2.1, bt175.2.2.2.2))) else ((saga_to.f x154000 x154001 (wrap64 ((mn x154002 999999) + 1)) x154000).bind fun bt180 => (some (bt180.1, bt180.2.1, bt180.2.2.1, bt180.2.2.2.1, bt180.2.2.2.2)))) else ((saga_wrong.f x154000 x154001 x154002 142).bind fun bt185 => (some (bt185.1, bt185.2.1, bt185.2.2.1, bt185.2.2.2.1, bt185.2.2.2.2)))
end
def saga_no.f (k : Nat) (a0_0 : Int) (a0_1 : Bool) (a0_2 : Int) (a1 : Int) : Option (Int × Bool × Int × Int × Int) := if a0_0 = 1 then ((saga_to.f a0_0 a0_1 a0_2 11).bind fun bt155 => (some (bt155.1, bt155.2.1, bt155.2.2.1, bt155.2.2.2.1, bt155.2.2.2.2))) else (if a0_0 = 2 then ((saga_to.f a0_0 a0_1 a0_2 10).bind fun bt160 => (some (bt160.1, bt160.2.1, bt160.2.2.1, bt160.2.2.2.1, bt160.2.2.2.2))) else (if a0_0 = 4 then (saga_no.j0 k a1 a0_0 (a0_0 == 4) a0_0 a0_1 a0_2) else (saga_no.j0 k a1 a0_0 (a0_0 == 6) a0_0 a0_1 a0_2)))
theorem saga_no.mono_l : ∀ k, (∀ y0 y1 y2 y3 y4 y5, LeO (saga_no.j0 k y0 y1 y2 y3 y4 y5) (saga_no.j0 (k + 1) y0 y1 y2 y3 y4 y5)) ∧ (∀ y0 y1 y2 y3 y4, LeO (saga_no.j1 k y0 y1 y2 y3 y4) (saga_no.j1 (k + 1) y0 y1 y2 y3 y4))
  | 0 => ⟨fun _ _ _ _ _ _ r h => by simp [saga_no.j0] at h, fun _ _ _ _ _ r h => by simp [saga_no.j1] at h⟩
  | k + 1 => by
    obtain ⟨ih0, ih1⟩ := saga_no.mono_l k
    refine ⟨?_, ?_⟩
    · intro y0 y1 y2 y3 y4 y5
      unfold saga_no.j0
      repeat' first
      | (with_reducible exact ih0 _ _ _ _ _ _)
      | (with_reducible exact ih1 _ _ _ _ _)
      | (with_reducible exact LeO.refl _)
      | (with_reducible exact LeO.none _)
      | (with_reducible refine LeO.ite ?_ ?_)
      | (with_reducible refine LeO.bind ?_ (fun _ => ?_))
      | exact ih0 _ _ _ _ _ _
      | exact ih1 _ _ _ _ _
      | exact LeO.none _
      | refine LeO.ite ?_ ?_
      | refine LeO.bind ?_ (fun _ => ?_)
    · intro y0 y1 y2 y3 y4
      unfold saga_no.j1
      repeat' first
      | (with_reducible exact ih0 _ _ _ _ _ _)
      | (with_reducible exact ih1 _ _ _ _ _)
      | (with_reducible exact LeO.refl _)
      | (with_reducible exact LeO.none _)
      | (with_reducible refine LeO.ite ?_ ?_)
      | (with_reducible refine LeO.bind ?_ (fun _ => ?_))
      | exact ih0 _ _ _ _ _ _
      | exact ih1 _ _ _ _ _
      | exact LeO.none _
      | refine LeO.ite ?_ ?_
      | refine LeO.bind ?_ (fun _ => ?_)
theorem saga_no.mono : ∀ a0 a1 a2 a3 k, LeO (saga_no.f k a0 a1 a2 a3) (saga_no.f (k + 1) a0 a1 a2 a3) := by
  intro a0 a1 a2 a3 k
  obtain ⟨ih0, ih1⟩ := saga_no.mono_l k
  unfold saga_no.f
  repeat' first
      | (with_reducible exact ih0 _ _ _ _ _ _)
      | (with_reducible exact ih1 _ _ _ _ _)
      | (with_reducible exact LeO.refl _)
      | (with_reducible exact LeO.none _)
      | (with_reducible refine LeO.ite ?_ ?_)
      | (with_reducible refine LeO.bind ?_ (fun _ => ?_))
      | exact ih0 _ _ _ _ _ _
      | exact ih1 _ _ _ _ _
      | exact LeO.none _
      | refine LeO.ite ?_ ?_
      | refine LeO.bind ?_ (fun _ => ?_)
set_option maxHeartbeats 8000000 in
set_option maxRecDepth 100000 in
theorem saga_no.calls (k : Nat) (a0_0 : Int) (a0_1 : Bool) (a0_2 : Int) (a1 : Int) (r1 : Int) (r2 : Bool) (r3 : Int) (r4 : Int) (r5 : Int) (w : World) (h : saga_no.f k a0_0 a0_1 a0_2 a1 = some (r1, r2, r3, r4, r5)) :
    Calls Try.prog 16 #[.agg #[.int .i64 a0_0, .bool a0_1, .int .i64 a0_2], .int .i64 a1] w fun e w' => e = .returned (.tuple #[.agg #[.int .i64 r1, .bool r2, .int .i64 r3], .int .i64 r4, .int .i64 r5]) ∧ Below w.heap.size w w' := by
  have hu23 := Try.underlying23
  have HB := Aside0.mk (Below.refl w.heap.size w)
  have H : (if a0_0 = 1 then ((saga_to.f a0_0 a0_1 a0_2 11).bind fun bt155 => (some (bt155.1, bt155.2.1, bt155.2.2.1, bt155.2.2.2.1, bt155.2.2.2.2))) else (if a0_0 = 2 then ((saga_to.f a0_0 a0_1 a0_2 10).bind fun bt160 => (some (bt160.1, bt160.2.1, bt160.2.2.1, bt160.2.2.2.1, bt160.2.2.2.2))) else (if a0_0 = 4 then (saga_no.j0 k a1 a0_0 (a0_0 == 4) a0_0 a0_1 a0_2) else (saga_no.j0 k a1 a0_0 (a0_0 == 6) a0_0 a0_1 a0_2)))) = some (r1, r2, r3, r4, r5) := h
  clear h
  by_cases c3 : a0_0 = 1
  · rw [if_pos c3] at H
    have c3b0 : (a0_0 == 1) = true := beq_iff_eq.mpr c3
    have c3b1 : (a0_0 != 1) = false := bne_eq_false_iff_eq.mpr c3
    clear c3
    replace H := Option.bind_eq_some_iff.mp H
    obtain ⟨⟨t155, t156, t157, t158, t159⟩, A40, H⟩ := H
    replace H : (some (t155, t156, t157, t158, t159)) = some (r1, r2, r3, r4, r5) := H
    have A4 := Aside0.mk A40
    clear A40
    simp only [Option.some.injEq, Prod.mk.injEq] at H
    obtain ⟨rfl, rfl, rfl, rfl, rfl⟩ := H
    go_enter Try.func16, Try.ntmps16
    go_wp2_with (first | ((with_reducible refine gate_dst (N := 2) rfl ?_); refine box_event ?hg (N := 2) ?hd (cs := #[.int .i64 a0_0, .bool a0_1, .int .i64 a0_2]) (t := 23) ?hr ?_; (case hd => rfl); (case hg => rfl); (case hr => first | (go_simp; done) | (go_simp; rfl)); intro gb153 hg w5 hbox hb; have n0_ := Aside0.mk (below_step (by repeat (first | (with_reducible first | exact HB.out | apply below_alloc | apply pw_below_drewN | apply below_drew1) | exact HB.out)) hb); have n1_ := Aside0.mk (hbox); have n2_ := Aside0.mk ((by rw [hg]; exact (below_size (by repeat (first | (with_reducible first | exact HB.out | apply below_alloc | apply pw_below_drewN | apply below_drew1) | exact HB.out))) : w.heap.size ≤ gb153)); have n3_ := Aside0.mk ((by rw [hg]; exact (below_size (by repeat (first | (with_reducible first | exact HB.out | apply below_alloc | apply pw_below_drewN | apply below_drew1) | exact HB.out))) : w.heap.size ≤ gb153)); clear HB; have HB := n0_; have BK153 := n1_; have GW153 := n2_; have GE153 := n3_; clear n0_ n1_ n2_ n3_; clear hb hbox hg) | ((with_reducible refine gate_dst (N := 4) rfl ?_); refine box_event ?hg (N := 4) ?hd (cs := #[.int .i64 0, .bool false, .int .i64 0]) (t := 23) ?hr ?_; (case hd => rfl); (case hg => rfl); (case hr => first | (go_simp; done) | (go_simp; rfl)); intro gb154 hg w6 hbox hb; have n0_ := Aside0.mk (blk_below (g := gb153) (o := .cells #[.int .i64 a0_0, .bool a0_1, .int .i64 a0_2] 23 (0, 0)) (by (with_reducible repeat (first | refine blk_drewN ?_ _ | refine blk_drew ?_ | refine blk_alloc ?_ _)); exact BK153.out) hb); have n1_ := Aside0.mk (below_step (by repeat (first | (with_reducible first | exact HB.out | apply below_alloc | apply pw_below_drewN | apply below_drew1 | refine below_set ?_ GE153.out) | exact HB.out)) hb); have n2_ := Aside0.mk (hbox); have n3_ := Aside0.mk ((by rw [hg]; exact (below_size (by repeat (first | (with_reducible first | exact HB.out | apply below_alloc | apply pw_below_drewN | apply below_drew1 | refine below_set ?_ GE153.out) | exact HB.out))) : w.heap.size ≤ gb154)); have n4_ := Aside0.mk ((by rw [hg]; exact (below_size (by repeat (first | (with_reducible first | exact HB.out | apply below_alloc | apply pw_below_drewN | apply below_drew1 | refine below_set ?_ GE153.out) | exact HB.out))) : w.heap.size ≤ gb154)); have n5_ := Aside0.mk ((by rw [hg]; exact Nat.ne_of_lt (blk_lt (g := gb153) (o := .cells #[.int .i64 a0_0, .bool a0_1, .int .i64 a0_2] 23 (0, 0)) (by (with_reducible repeat (first | refine blk_drewN ?_ _ | refine blk_drew ?_ | refine blk_alloc ?_ _)); exact BK153.out)) : gb153 ≠ gb154)); have n6_ := Aside0.mk ((by rw [hg]; exact Nat.ne_of_gt (blk_lt (g := gb153) (o := .cells #[.int .i64 a0_0, .bool a0_1, .int .i64 a0_2] 23 (0, 0)) (by (with_reducible repeat (first | refine blk_drewN ?_ _ | refine blk_drew ?_ | refine blk_alloc ?_ _)); exact BK153.out)) : gb154 ≠ gb153)); clear BK153; clear HB; have BK153 := n0_; have HB := n1_; have BK154 := n2_; have GW154 := n3_; have GE154 := n4_; have NB153_154 := n5_; have NB154_153 := n6_; clear n0_ n1_ n2_ n3_ n4_ n5_ n6_; clear hb hbox hg; have hnb7 := NB153_154.out; have hnc7 := NB154_153.out; have hcz8_0 : w6.cell? ⟨gb153, 0, none⟩ = some (.int .i64 a0_0) := (blk_cell BK153.out 0).trans rfl; have hcz8_1 : w6.cell? ⟨gb153, 1, none⟩ = some (.bool a0_1) := (blk_cell BK153.out 1).trans rfl; have hcz8_2 : w6.cell? ⟨gb153, 2, none⟩ = some (.int .i64 a0_2) := (blk_cell BK153.out 2).trans rfl; have hfz8_0 := blk_frozen BK153.out 0; have hfz8_1 := blk_frozen BK153.out 1; have hfz8_2 := blk_frozen BK153.out 2) | ((with_reducible refine gate_callee (f := 18) rfl ?_); refine goesL_ (some 12) rfl rfl Try.func18 (by kernel_rfl) rfl #[.agg #[.int .i64 a0_0, .bool a0_1, .int .i64 a0_2], .int .i64 11] rfl (by (try simp only [List.map_toArray, List.map_cons, List.map_nil]); first | done | rfl | (simp only [List.length_drop, List.length_take]; rfl)) ?_; (with_reducible refine (saga_to.calls a0_0 a0_1 a0_2 11 t155 t156 t157 t158 t159 _ A4.out).mono ?_); rintro e w9 ⟨rfl, hb⟩; refine ⟨_, rfl, ?_⟩; have n0_ := Aside0.mk (blk_below (g := gb153) (o := .cells #[.int .i64 a0_0, .bool a0_1, .int .i64 a0_2] 23 (0, 0)) (by (with_reducible repeat (first | refine blk_drewN ?_ _ | refine blk_drew ?_ | refine blk_alloc ?_ _)); exact BK153.out) hb); have n1_ := Aside0.mk (blk_below (g := gb154) (o := .cells #[.int .i64 0, .bool false, .int .i64 0] 23 (0, 0)) (by (with_reducible repeat (first | refine blk_drewN ?_ _ | refine blk_drew ?_ | refine blk_alloc ?_ _)); exact BK154.out) hb); have n2_ := Aside0.mk (below_step (by repeat (first | (with_reducible first | exact HB.out | apply below_alloc | apply pw_below_drewN | apply below_drew1 | refine below_set ?_ GE153.out | refine below_set ?_ GE154.out) | exact HB.out)) hb); clear BK153; clear BK154; clear HB; have BK153 := n0_; have BK154 := n1_; have HB := n2_; clear n0_ n1_ n2_; (try clear hb); (try clear hb2); (try clear hk); (try clear hi); have hcz10_0 : w9.cell? ⟨gb154, 0, none⟩ = some (.int .i64 0) := (blk_cell BK154.out 0).trans rfl; have hcz10_1 : w9.cell? ⟨gb154, 1, none⟩ = some (.bool false) := (blk_cell BK154.out 1).trans rfl; have hcz10_2 : w9.cell? ⟨gb154, 2, none⟩ = some (.int .i64 0) := (blk_cell BK154.out 2).trans rfl; have hfz10_0 := blk_frozen BK154.out 0; have hfz10_1 := blk_frozen BK154.out 1; have hfz10_2 := blk_frozen BK154.out 2))
    refine bodyPost_ret (results_ctt rfl _ _ gb154 23 #[.int .i64 t155, .bool t156, .int .i64 t157] (0, 0) _ rfl (by (with_reducible repeat (first | refine blk_drewN ?_ _ | refine blk_drew ?_ | refine blk_alloc ?_ _)); refine blk_put (cs := #[.int .i64 t155, .bool t156, .int .i64 0]) ?_ 2 _ rfl; (with_reducible repeat (first | refine blk_drewN ?_ _ | refine blk_drew ?_ | refine blk_alloc ?_ _)); refine blk_put (cs := #[.int .i64 t155, .bool false, .int .i64 0]) ?_ 1 _ rfl; (with_reducible repeat (first | refine blk_drewN ?_ _ | refine blk_drew ?_ | refine blk_alloc ?_ _)); refine blk_put (cs := #[.int .i64 0, .bool false, .int .i64 0]) ?_ 0 _ rfl; (with_reducible repeat (first | refine blk_drewN ?_ _ | refine blk_drew ?_ | refine blk_alloc ?_ _)); exact BK154.out) Try.underlying23 rfl (by kernel_rfl)) rfl ?_
    exact ⟨by first | rfl | (simp [errW_none, errW_some] <;> rfl) | (simp [*, errW_none, errW_some] <;> rfl), by repeat (first | (with_reducible first | exact HB.out | apply below_alloc | apply pw_below_drewN | apply below_drew1 | refine below_set ?_ GE153.out | refine below_set ?_ GE154.out) | exact HB.out)⟩
  · rw [if_neg c3] at H
    have c3b0 : (a0_0 == 1) = false := beq_eq_false_iff_ne.mpr c3
    have c3b1 : (a0_0 != 1) = true := bne_iff_ne.mpr c3
    by_cases c11 : a0_0 = 2
    · rw [if_pos c11] at H
      have c11b0 : (a0_0 == 2) = true := beq_iff_eq.mpr c11
      have c11b1 : (a0_0 != 2) = false := bne_eq_false_iff_eq.mpr c11
      clear c11
      replace H := Option.bind_eq_some_iff.mp H
      obtain ⟨⟨t160, t161, t162, t163, t164⟩, A120, H⟩ := H
      replace H : (some (t160, t161, t162, t163, t164)) = some (r1, r2, r3, r4, r5) := H
      have A12 := Aside0.mk A120
      clear A120
      simp only [Option.some.injEq, Prod.mk.injEq] at H
      obtain ⟨rfl, rfl, rfl, rfl, rfl⟩ := H
      go_enter Try.func16, Try.ntmps16
      go_wp2_with (first | ((with_reducible refine gate_dst (N := 2) rfl ?_); refine box_event ?hg (N := 2) ?hd (cs := #[.int .i64 a0_0, .bool a0_1, .int .i64 a0_2]) (t := 23) ?hr ?_; (case hd => rfl); (case hg => rfl); (case hr => first | (go_simp; done) | (go_simp; rfl)); intro gb153 hg w13 hbox hb; have n0_ := Aside0.mk (below_step (by repeat (first | (with_reducible first | exact HB.out | apply below_alloc | apply pw_below_drewN | apply below_drew1) | exact HB.out)) hb); have n1_ := Aside0.mk (hbox); have n2_ := Aside0.mk ((by rw [hg]; exact (below_size (by repeat (first | (with_reducible first | exact HB.out | apply below_alloc | apply pw_below_drewN | apply below_drew1) | exact HB.out))) : w.heap.size ≤ gb153)); have n3_ := Aside0.mk ((by rw [hg]; exact (below_size (by repeat (first | (with_reducible first | exact HB.out | apply below_alloc | apply pw_below_drewN | apply below_drew1) | exact HB.out))) : w.heap.size ≤ gb153)); clear HB; have HB := n0_; have BK153 := n1_; have GW153 := n2_; have GE153 := n3_; clear n0_ n1_ n2_ n3_; clear hb hbox hg) | ((with_reducible refine gate_dst (N := 4) rfl ?_); refine box_event ?hg (N := 4) ?hd (cs := #[.int .i64 0, .bool false, .int .i64 0]) (t := 23) ?hr ?_; (case hd => rfl); (case hg => rfl); (case hr => first | (go_simp; done) | (go_simp; rfl)); intro gb154 hg w14 hbox hb; have n0_ := Aside0.mk (blk_below (g := gb153) (o := .cells #[.int .i64 a0_0, .bool a0_1, .int .i64 a0_2] 23 (0, 0)) (by (with_reducible repeat (first | refine blk_drewN ?_ _ | refine blk_drew ?_ | refine blk_alloc ?_ _)); exact BK153.out) hb); have n1_ := Aside0.mk (below_step (by repeat (first | (with_reducible first | exact HB.out | apply below_alloc | apply pw_below_drewN | apply below_drew1 | refine below_set ?_ GE153.out) | exact HB.out)) hb); have n2_ := Aside0.mk (hbox); have n3_ := Aside0.mk ((by rw [hg]; exact (below_size (by repeat (first | (with_reducible first | exact HB.out | apply below_alloc | apply pw_below_drewN | apply below_drew1 | refine below_set ?_ GE153.out) | exact HB.out))) : w.heap.size ≤ gb154)); have n4_ := Aside0.mk ((by rw [hg]; exact (below_size (by repeat (first | (with_reducible first | exact HB.out | apply below_alloc | apply pw_below_drewN | apply below_drew1 | refine below_set ?_ GE153.out) | exact HB.out))) : w.heap.size ≤ gb154)); have n5_ := Aside0.mk ((by rw [hg]; exact Nat.ne_of_lt (blk_lt (g := gb153) (o := .cells #[.int .i64 a0_0, .bool a0_1, .int .i64 a0_2] 23 (0, 0)) (by (with_reducible repeat (first | refine blk_drewN ?_ _ | refine blk_drew ?_ | refine blk_alloc ?_ _)); exact BK153.out)) : gb153 ≠ gb154)); have n6_ := Aside0.mk ((by rw [hg]; exact Nat.ne_of_gt (blk_lt (g := gb153) (o := .cells #[.int .i64 a0_0, .bool a0_1, .int .i64 a0_2] 23 (0, 0)) (by (with_reducible repeat (first | refine blk_drewN ?_ _ | refine blk_drew ?_ | refine blk_alloc ?_ _)); exact BK153.out)) : gb154 ≠ gb153)); clear BK153; clear HB; have BK153 := n0_; have HB := n1_; have BK154 := n2_; have GW154 := n3_; have GE154 := n4_; have NB153_154 := n5_; have NB154_153 := n6_; clear n0_ n1_ n2_ n3_ n4_ n5_ n6_; clear hb hbox hg; have hnb15 := NB153_154.out; have hnc15 := NB154_153.out; have hcz16_0 : w14.cell? ⟨gb153, 0, none⟩ = some (.int .i64 a0_0) := (blk_cell BK153.out 0).trans rfl; have hcz16_1 : w14.cell? ⟨gb153, 1, none⟩ = some (.bool a0_1) := (blk_cell BK153.out 1).trans rfl; have hcz16_2 : w14.cell? ⟨gb153, 2, none⟩ = some (.int .i64 a0_2) := (blk_cell BK153.out 2).trans rfl; have hfz16_0 := blk_frozen BK153.out 0; have hfz16_1 := blk_frozen BK153.out 1; have hfz16_2 := blk_frozen BK153.out 2) | ((with_reducible refine gate_callee (f := 18) rfl ?_); refine goesL_ (some 19) rfl rfl Try.func18 (by kernel_rfl) rfl #[.agg #[.int .i64 a0_0, .bool a0_1, .int .i64 a0_2], .int .i64 10] rfl (by (try simp only [List.map_toArray, List.map_cons, List.map_nil]); first | done | rfl | (simp only [List.length_drop, List.length_take]; rfl)) ?_; (with_reducible refine (saga_to.calls a0_0 a0_1 a0_2 10 t160 t161 t162 t163 t164 _ A12.out).mono ?_); rintro e w17 ⟨rfl, hb⟩; refine ⟨_, rfl, ?_⟩; have n0_ := Aside0.mk (blk_below (g := gb153) (o := .cells #[.int .i64 a0_0, .bool a0_1, .int .i64 a0_2] 23 (0, 0)) (by (with_reducible repeat (first | refine blk_drewN ?_ _ | refine blk_drew ?_ | refine blk_alloc ?_ _)); exact BK153.out) hb); have n1_ := Aside0.mk (blk_below (g := gb154) (o := .cells #[.int .i64 0, .bool false, .int .i64 0] 23 (0, 0)) (by (with_reducible repeat (first | refine blk_drewN ?_ _ | refine blk_drew ?_ | refine blk_alloc ?_ _)); exact BK154.out) hb); have n2_ := Aside0.mk (below_step (by repeat (first | (with_reducible first | exact HB.out | apply below_alloc | apply pw_below_drewN | apply below_drew1 | refine below_set ?_ GE153.out | refine below_set ?_ GE154.out) | exact HB.out)) hb); clear BK153; clear BK154; clear HB; have BK153 := n0_; have BK154 := n1_; have HB := n2_; clear n0_ n1_ n2_; (try clear hb); (try clear hb2); (try clear hk); (try clear hi); have hcz18_0 : w17.cell? ⟨gb154, 0, none⟩ = some (.int .i64 0) := (blk_cell BK154.out 0).trans rfl; have hcz18_1 : w17.cell? ⟨gb154, 1, none⟩ = some (.bool false) := (blk_cell BK154.out 1).trans rfl; have hcz18_2 : w17.cell? ⟨gb154, 2, none⟩ = some (.int .i64 0) := (blk_cell BK154.out 2).trans rfl; have hfz18_0 := blk_frozen BK154.out 0; have hfz18_1 := blk_frozen BK154.out 1; have hfz18_2 := blk_frozen BK154.out 2))
      refine bodyPost_ret (results_ctt rfl _ _ gb154 23 #[.int .i64 t160, .bool t161, .int .i64 t162] (0, 0) _ rfl (by (with_reducible repeat (first | refine blk_drewN ?_ _ | refine blk_drew ?_ | refine blk_alloc ?_ _)); refine blk_put (cs := #[.int .i64 t160, .bool t161, .int .i64 0]) ?_ 2 _ rfl; (with_reducible repeat (first | refine blk_drewN ?_ _ | refine blk_drew ?_ | refine blk_alloc ?_ _)); refine blk_put (cs := #[.int .i64 t160, .bool false, .int .i64 0]) ?_ 1 _ rfl; (with_reducible repeat (first | refine blk_drewN ?_ _ | refine blk_drew ?_ | refine blk_alloc ?_ _)); refine blk_put (cs := #[.int .i64 0, .bool false, .int .i64 0]) ?_ 0 _ rfl; (with_reducible repeat (first | refine blk_drewN ?_ _ | refine blk_drew ?_ | refine blk_alloc ?_ _)); exact BK154.out) Try.underlying23 rfl (by kernel_rfl)) rfl ?_
      exact ⟨by first | rfl | (simp [errW_none, errW_some] <;> rfl) | (simp [*, errW_none, errW_some] <;> rfl), by repeat (first | (with_reducible first | exact HB.out | apply below_alloc | apply pw_below_drewN | apply below_drew1 | refine below_set ?_ GE153.out | refine below_set ?_ GE154.out) | exact HB.out)⟩
    · rw [if_neg c11] at H
      have c11b0 : (a0_0 == 2) = false := beq_eq_false_iff_ne.mpr c11
      have c11b1 : (a0_0 != 2) = true := bne_iff_ne.mpr c11
      have HC19 := Aside0.mk H
      clear H
      go_enter Try.func16, Try.ntmps16
      go_upto_if 23 with (first | ((with_reducible refine gate_dst (N := 2) rfl ?_); refine box_event ?hg (N := 2) ?hd (cs := #[.int .i64 a0_0, .bool a0_1, .int .i64 a0_2]) (t := 23) ?hr ?_; (case hd => rfl); (case hg => rfl); (case hr => first | (go_simp; done) | (go_simp; rfl)); intro gb153 hg w20 hbox hb; have n0_ := Aside0.mk (below_step (by repeat (first | (with_reducible first | exact HB.out | apply below_alloc | apply pw_below_drewN | apply below_drew1) | exact HB.out)) hb); have n1_ := Aside0.mk (hbox); have n2_ := Aside0.mk ((by rw [hg]; exact (below_size (by repeat (first | (with_reducible first | exact HB.out | apply below_alloc | apply pw_below_drewN | apply below_drew1) | exact HB.out))) : w.heap.size ≤ gb153)); have n3_ := Aside0.mk ((by rw [hg]; exact (below_size (by repeat (first | (with_reducible first | exact HB.out | apply below_alloc | apply pw_below_drewN | apply below_drew1) | exact HB.out))) : w.heap.size ≤ gb153)); clear HB; have HB := n0_; have BK153 := n1_; have GW153 := n2_; have GE153 := n3_; clear n0_ n1_ n2_ n3_; clear hb hbox hg) | ((with_reducible refine gate_dst (N := 4) rfl ?_); refine box_event ?hg (N := 4) ?hd (cs := #[.int .i64 0, .bool false, .int .i64 0]) (t := 23) ?hr ?_; (case hd => rfl); (case hg => rfl); (case hr => first | (go_simp; done) | (go_simp; rfl)); intro gb154 hg w21 hbox hb; have n0_ := Aside0.mk (blk_below (g := gb153) (o := .cells #[.int .i64 a0_0, .bool a0_1, .int .i64 a0_2] 23 (0, 0)) (by (with_reducible repeat (first | refine blk_drewN ?_ _ | refine blk_drew ?_ | refine blk_alloc ?_ _)); exact BK153.out) hb); have n1_ := Aside0.mk (below_step (by repeat (first | (with_reducible first | exact HB.out | apply below_alloc | apply pw_below_drewN | apply below_drew1 | refine below_set ?_ GE153.out) | exact HB.out)) hb); have n2_ := Aside0.mk (hbox); have n3_ := Aside0.mk ((by rw [hg]; exact (below_size (by repeat (first | (with_reducible first | exact HB.out | apply below_alloc | apply pw_below_drewN | apply below_drew1 | refine below_set ?_ GE153.out) | exact HB.out))) : w.heap.size ≤ gb154)); have n4_ := Aside0.mk ((by rw [hg]; exact (below_size (by repeat (first | (with_reducible first | exact HB.out | apply below_alloc | apply pw_below_drewN | apply below_drew1 | refine below_set ?_ GE153.out) | exact HB.out))) : w.heap.size ≤ gb154)); have n5_ := Aside0.mk ((by rw [hg]; exact Nat.ne_of_lt (blk_lt (g := gb153) (o := .cells #[.int .i64 a0_0, .bool a0_1, .int .i64 a0_2] 23 (0, 0)) (by (with_reducible repeat (first | refine blk_drewN ?_ _ | refine blk_drew ?_ | refine blk_alloc ?_ _)); exact BK153.out)) : gb153 ≠ gb154)); have n6_ := Aside0.mk ((by rw [hg]; exact Nat.ne_of_gt (blk_lt (g := gb153) (o := .cells #[.int .i64 a0_0, .bool a0_1, .int .i64 a0_2] 23 (0, 0)) (by (with_reducible repeat (first | refine blk_drewN ?_ _ | refine blk_drew ?_ | refine blk_alloc ?_ _)); exact BK153.out)) : gb154 ≠ gb153)); clear BK153; clear HB; have BK153 := n0_; have HB := n1_; have BK154 := n2_; have GW154 := n3_; have GE154 := n4_; have NB153_154 := n5_; have NB154_153 := n6_; clear n0_ n1_ n2_ n3_ n4_ n5_ n6_; clear hb hbox hg; have hnb22 := NB153_154.out; have hnc22 := NB154_153.out; have hcz23_0 : w21.cell? ⟨gb153, 0, none⟩ = some (.int .i64 a0_0) := (blk_cell BK153.out 0).trans rfl; have hcz23_1 : w21.cell? ⟨gb153, 1, none⟩ = some (.bool a0_1) := (blk_cell BK153.out 1).trans rfl; have hcz23_2 : w21.cell? ⟨gb153, 2, none⟩ = some (.int .i64 a0_2) := (blk_cell BK153.out 2).trans rfl; have hfz23_0 := blk_frozen BK153.out 0; have hfz23_1 := blk_frozen BK153.out 1; have hfz23_2 := blk_frozen BK153.out 2))
      (try simp only [Act.put, List.setIfInBounds_toArray, List.set_cons_zero, List.set_cons_succ])
      go_cut [23] (fun v23 wc => ∃ (kq : Nat) (x23_18 : Bool), v23 = .bool x23_18 ∧ Aside0 (saga_no.j0 kq a1 a0_0 x23_18 a0_0 a0_1 a0_2 = some (r1, r2, r3, r4, r5)) ∧ Aside0 (kq ≤ k) ∧ Aside0 (wc.heap[gb153]? = some (.cells #[.int .i64 a0_0, .bool a0_1, .int .i64 a0_2] 23 (0, 0))) ∧ Aside0 (wc.heap[gb154]? = some (.cells #[.int .i64 0, .bool false, .int .i64 0] 23 (0, 0))) ∧ Aside0 (Below w.heap.size w wc))
      case first =>
        have H := HC19.out
        clear HC19
        by_cases c24 : a0_0 = 4
        · rw [if_pos c24] at H
          have c24b0 : (a0_0 == 4) = true := beq_iff_eq.mpr c24
          have c24b1 : (a0_0 != 4) = false := bne_eq_false_iff_eq.mpr c24
          clear c24
          (first | rw [c24b0] | (simp only [i64_w, i32_w]; rw [c24b0]) | skip)
          have H' := Aside0.mk H
          clear H
          go_wp2
          go_meet
          case rel => exact ⟨_, ((a0_0 == 4)), (by first | rfl | (simp; done) | (simp [*]; done)), H', ⟨by first | omega | exact Nat.le_refl _⟩, ⟨by (with_reducible repeat (first | refine blk_drewN ?_ _ | refine blk_drew ?_ | refine blk_alloc ?_ _)); exact BK153.out⟩, ⟨by (with_reducible repeat (first | refine blk_drewN ?_ _ | refine blk_drew ?_ | refine blk_alloc ?_ _)); exact BK154.out⟩, ⟨by repeat (first | (with_reducible first | exact HB.out | apply below_alloc | apply pw_below_drewN | apply below_drew1 | refine below_set ?_ GE153.out | refine below_set ?_ GE154.out) | exact HB.out)⟩⟩
        · rw [if_neg c24] at H
          have c24b0 : (a0_0 == 4) = false := beq_eq_false_iff_ne.mpr c24
          have c24b1 : (a0_0 != 4) = true := bne_iff_ne.mpr c24
          (first | rw [c24b0] | (simp only [i64_w, i32_w]; rw [c24b0]) | skip)
          have H' := Aside0.mk H
          clear H
          go_wp2
          go_meet
          case rel => exact ⟨_, ((a0_0 == 6)), (by first | rfl | (simp; done) | (simp [*]; done)), H', ⟨by first | omega | exact Nat.le_refl _⟩, ⟨by (with_reducible repeat (first | refine blk_drewN ?_ _ | refine blk_drew ?_ | refine blk_alloc ?_ _)); exact BK153.out⟩, ⟨by (with_reducible repeat (first | refine blk_drewN ?_ _ | refine blk_drew ?_ | refine blk_alloc ?_ _)); exact BK154.out⟩, ⟨by repeat (first | (with_reducible first | exact HB.out | apply below_alloc | apply pw_below_drewN | apply below_drew1 | refine below_set ?_ GE153.out | refine below_set ?_ GE154.out) | exact HB.out)⟩⟩
      case rest =>
        clear HC19
        try clear c1
        try clear c2
        try clear p2
        try clear c3
        try clear c3b0
        try clear c3b1
        try clear c7
        try clear c11
        try clear c11b0
        try clear c11b1
        try clear c15
        try clear c16
        try clear c18
        try clear c22
        try clear c24
        try clear c24b0
        try clear c24b1
        try clear hcz10_0
        try clear hcz10_1
        try clear hcz10_2
        try clear hcz16_0
        try clear hcz16_1
        try clear hcz16_2
        try clear hcz18_0
        try clear hcz18_1
        try clear hcz18_2
        try clear hcz23_0
        try clear hcz23_1
        try clear hcz23_2
        try clear hcz8_0
        try clear hcz8_1
        try clear hcz8_2
        try clear hfz10_0
        try clear hfz10_1
        try clear hfz10_2
        try clear hfz16_0
        try clear hfz16_1
        try clear hfz16_2
        try clear hfz18_0
        try clear hfz18_1
        try clear hfz18_2
        try clear hfz23_0
        try clear hfz23_1
        try clear hfz23_2
        try clear hfz8_0
        try clear hfz8_1
        try clear hfz8_2
        obtain ⟨kq, x23_18, rfl, HA, HJ18, BK153, BK154, HB⟩ := hcut
        cases kq with
        | zero => exact absurd HA.out (by simp [saga_no.j0])
        | succ kj18 =>
          have H := HA.out
          clear HA
          simp only [saga_no.j0] at H
          by_cases c25 : x23_18 = true
          · subst c25
            have H1 : ((saga_to.f a0_0 a0_1 a0_2 9).bind fun bt165 => (some (bt165.1, bt165.2.1, bt165.2.2.1, bt165.2.2.2.1, bt165.2.2.2.2))) = some (r1, r2, r3, r4, r5) := by rw [if_pos rfl] at H; exact H
            clear H
            have H := H1
            clear H1
            replace H := Option.bind_eq_some_iff.mp H
            obtain ⟨⟨t165, t166, t167, t168, t169⟩, A260, H⟩ := H
            replace H : (some (t165, t166, t167, t168, t169)) = some (r1, r2, r3, r4, r5) := H
            have A26 := Aside0.mk A260
            clear A260
            simp only [Option.some.injEq, Prod.mk.injEq] at H
            obtain ⟨rfl, rfl, rfl, rfl, rfl⟩ := H
            have hnb27 := NB153_154.out
            have hnc27 := NB154_153.out
            have hcz28_0 : wc.cell? ⟨gb153, 0, none⟩ = some (.int .i64 a0_0) := (blk_cell BK153.out 0).trans rfl
            have hcz28_1 : wc.cell? ⟨gb153, 1, none⟩ = some (.bool a0_1) := (blk_cell BK153.out 1).trans rfl
            have hcz28_2 : wc.cell? ⟨gb153, 2, none⟩ = some (.int .i64 a0_2) := (blk_cell BK153.out 2).trans rfl
            have hfz28_0 := blk_frozen BK153.out 0
            have hfz28_1 := blk_frozen BK153.out 1
            have hfz28_2 := blk_frozen BK153.out 2
            go_wp2_with (first | ((with_reducible refine gate_callee (f := 18) rfl ?_); refine goesL_ (some 27) rfl rfl Try.func18 (by kernel_rfl) rfl #[.agg #[.int .i64 a0_0, .bool a0_1, .int .i64 a0_2], .int .i64 9] rfl (by (try simp only [List.map_toArray, List.map_cons, List.map_nil]); first | done | rfl | (simp only [List.length_drop, List.length_take]; rfl)) ?_; (with_reducible refine (saga_to.calls a0_0 a0_1 a0_2 9 t165 t166 t167 t168 t169 _ A26.out).mono ?_); rintro e w29 ⟨rfl, hb⟩; refine ⟨_, rfl, ?_⟩; have n0_ := Aside0.mk (blk_below (g := gb153) (o := .cells #[.int .i64 a0_0, .bool a0_1, .int .i64 a0_2] 23 (0, 0)) (by (with_reducible repeat (first | refine blk_drewN ?_ _ | refine blk_drew ?_ | refine blk_alloc ?_ _)); exact BK153.out) hb); have n1_ := Aside0.mk (blk_below (g := gb154) (o := .cells #[.int .i64 0, .bool false, .int .i64 0] 23 (0, 0)) (by (with_reducible repeat (first | refine blk_drewN ?_ _ | refine blk_drew ?_ | refine blk_alloc ?_ _)); exact BK154.out) hb); have n2_ := Aside0.mk (below_step (by repeat (first | (with_reducible first | exact HB.out | apply below_alloc | apply pw_below_drewN | apply below_drew1 | refine below_set ?_ GE153.out | refine below_set ?_ GE154.out) | exact HB.out)) hb); clear BK153; clear BK154; clear HB; have BK153 := n0_; have BK154 := n1_; have HB := n2_; clear n0_ n1_ n2_; (try clear hb); (try clear hb2); (try clear hk); (try clear hi); have hcz30_0 : w29.cell? ⟨gb154, 0, none⟩ = some (.int .i64 0) := (blk_cell BK154.out 0).trans rfl; have hcz30_1 : w29.cell? ⟨gb154, 1, none⟩ = some (.bool false) := (blk_cell BK154.out 1).trans rfl; have hcz30_2 : w29.cell? ⟨gb154, 2, none⟩ = some (.int .i64 0) := (blk_cell BK154.out 2).trans rfl; have hfz30_0 := blk_frozen BK154.out 0; have hfz30_1 := blk_frozen BK154.out 1; have hfz30_2 := blk_frozen BK154.out 2))
            refine bodyPost_ret (results_ctt rfl _ _ gb154 23 #[.int .i64 t165, .bool t166, .int .i64 t167] (0, 0) _ rfl (by (with_reducible repeat (first | refine blk_drewN ?_ _ | refine blk_drew ?_ | refine blk_alloc ?_ _)); refine blk_put (cs := #[.int .i64 t165, .bool t166, .int .i64 0]) ?_ 2 _ rfl; (with_reducible repeat (first | refine blk_drewN ?_ _ | refine blk_drew ?_ | refine blk_alloc ?_ _)); refine blk_put (cs := #[.int .i64 t165, .bool false, .int .i64 0]) ?_ 1 _ rfl; (with_reducible repeat (first | refine blk_drewN ?_ _ | refine blk_drew ?_ | refine blk_alloc ?_ _)); refine blk_put (cs := #[.int .i64 0, .bool false, .int .i64 0]) ?_ 0 _ rfl; (with_reducible repeat (first | refine blk_drewN ?_ _ | refine blk_drew ?_ | refine blk_alloc ?_ _)); exact BK154.out) Try.underlying23 rfl (by kernel_rfl)) rfl ?_
            exact ⟨by first | rfl | (simp [errW_none, errW_some] <;> rfl) | (simp [*, errW_none, errW_some] <;> rfl), by repeat (first | (with_reducible first | exact HB.out | apply below_alloc | apply pw_below_drewN | apply below_drew1 | refine below_set ?_ GE153.out | refine below_set ?_ GE154.out) | exact HB.out)⟩
          · replace c25 := Bool.eq_false_iff.mpr c25
            subst c25
            have H1 : (if a0_0 = 7 then ((saga_to.f a0_0 a0_1 a0_2 7).bind fun bt170 => (some (bt170.1, bt170.2.1, bt170.2.2.1, bt170.2.2.2.1, bt170.2.2.2.2))) else (if a0_0 = 9 then (saga_no.j1 kj18 a1 (a0_0 == 9) a0_0 a0_1 a0_2) else (saga_no.j1 kj18 a1 (a0_0 == 10) a0_0 a0_1 a0_2))) = some (r1, r2, r3, r4, r5) := by rw [if_neg (show ¬ (false = true) by decide)] at H; exact H
            clear H
            have H := H1
            clear H1
            by_cases c31 : a0_0 = 7
            · rw [if_pos c31] at H
              have c31b0 : (a0_0 == 7) = true := beq_iff_eq.mpr c31
              have c31b1 : (a0_0 != 7) = false := bne_eq_false_iff_eq.mpr c31
              clear c31
              replace H := Option.bind_eq_some_iff.mp H
              obtain ⟨⟨t170, t171, t172, t173, t174⟩, A320, H⟩ := H
              replace H : (some (t170, t171, t172, t173, t174)) = some (r1, r2, r3, r4, r5) := H
              have A32 := Aside0.mk A320
              clear A320
              simp only [Option.some.injEq, Prod.mk.injEq] at H
              obtain ⟨rfl, rfl, rfl, rfl, rfl⟩ := H
              have hnb33 := NB153_154.out
              have hnc33 := NB154_153.out
              have hcz34_0 : wc.cell? ⟨gb153, 0, none⟩ = some (.int .i64 a0_0) := (blk_cell BK153.out 0).trans rfl
              have hcz34_1 : wc.cell? ⟨gb153, 1, none⟩ = some (.bool a0_1) := (blk_cell BK153.out 1).trans rfl
              have hcz34_2 : wc.cell? ⟨gb153, 2, none⟩ = some (.int .i64 a0_2) := (blk_cell BK153.out 2).trans rfl
              have hfz34_0 := blk_frozen BK153.out 0
              have hfz34_1 := blk_frozen BK153.out 1
              have hfz34_2 := blk_frozen BK153.out 2
              go_wp2_with (first | ((with_reducible refine gate_callee (f := 18) rfl ?_); refine goesL_ (some 34) rfl rfl Try.func18 (by kernel_rfl) rfl #[.agg #[.int .i64 a0_0, .bool a0_1, .int .i64 a0_2], .int .i64 7] rfl (by (try simp only [List.map_toArray, List.map_cons, List.map_nil]); first | done | rfl | (simp only [List.length_drop, List.length_take]; rfl)) ?_; (with_reducible refine (saga_to.calls a0_0 a0_1 a0_2 7 t170 t171 t172 t173 t174 _ A32.out).mono ?_); rintro e w35 ⟨rfl, hb⟩; refine ⟨_, rfl, ?_⟩; have n0_ := Aside0.mk (blk_below (g := gb153) (o := .cells #[.int .i64 a0_0, .bool a0_1, .int .i64 a0_2] 23 (0, 0)) (by (with_reducible repeat (first | refine blk_drewN ?_ _ | refine blk_drew ?_ | refine blk_alloc ?_ _)); exact BK153.out) hb); have n1_ := Aside0.mk (blk_below (g := gb154) (o := .cells #[.int .i64 0, .bool false, .int .i64 0] 23 (0, 0)) (by (with_reducible repeat (first | refine blk_drewN ?_ _ | refine blk_drew ?_ | refine blk_alloc ?_ _)); exact BK154.out) hb); have n2_ := Aside0.mk (below_step (by repeat (first | (with_reducible first | exact HB.out | apply below_alloc | apply pw_below_drewN | apply below_drew1 | refine below_set ?_ GE153.out | refine below_set ?_ GE154.out) | exact HB.out)) hb); clear BK153; clear BK154; clear HB; have BK153 := n0_; have BK154 := n1_; have HB := n2_; clear n0_ n1_ n2_; (try clear hb); (try clear hb2); (try clear hk); (try clear hi); have hcz36_0 : w35.cell? ⟨gb154, 0, none⟩ = some (.int .i64 0) := (blk_cell BK154.out 0).trans rfl; have hcz36_1 : w35.cell? ⟨gb154, 1, none⟩ = some (.bool false) := (blk_cell BK154.out 1).trans rfl; have hcz36_2 : w35.cell? ⟨gb154, 2, none⟩ = some (.int .i64 0) := (blk_cell BK154.out 2).trans rfl; have hfz36_0 := blk_frozen BK154.out 0; have hfz36_1 := blk_frozen BK154.out 1; have hfz36_2 := blk_frozen BK154.out 2))
              refine bodyPost_ret (results_ctt rfl _ _ gb154 23 #[.int .i64 t170, .bool t171, .int .i64 t172] (0, 0) _ rfl (by (with_reducible repeat (first | refine blk_drewN ?_ _ | refine blk_drew ?_ | refine blk_alloc ?_ _)); refine blk_put (cs := #[.int .i64 t170, .bool t171, .int .i64 0]) ?_ 2 _ rfl; (with_reducible repeat (first | refine blk_drewN ?_ _ | refine blk_drew ?_ | refine blk_alloc ?_ _)); refine blk_put (cs := #[.int .i64 t170, .bool false, .int .i64 0]) ?_ 1 _ rfl; (with_reducible repeat (first | refine blk_drewN ?_ _ | refine blk_drew ?_ | refine blk_alloc ?_ _)); refine blk_put (cs := #[.int .i64 0, .bool false, .int .i64 0]) ?_ 0 _ rfl; (with_reducible repeat (first | refine blk_drewN ?_ _ | refine blk_drew ?_ | refine blk_alloc ?_ _)); exact BK154.out) Try.underlying23 rfl (by kernel_rfl)) rfl ?_
              exact ⟨by first | rfl | (simp [errW_none, errW_some] <;> rfl) | (simp [*, errW_none, errW_some] <;> rfl), by repeat (first | (with_reducible first | exact HB.out | apply below_alloc | apply pw_below_drewN | apply below_drew1 | refine below_set ?_ GE153.out | refine below_set ?_ GE154.out) | exact HB.out)⟩
            · rw [if_neg c31] at H
              have c31b0 : (a0_0 == 7) = false := beq_eq_false_iff_ne.mpr c31
              have c31b1 : (a0_0 != 7) = true := bne_iff_ne.mpr c31
              have HC37 := Aside0.mk H
              clear H
              go_upto_if 38 with (fail)
              go_cut [38] (fun v38 wc => ∃ (kq : Nat) (x38_36 : Bool), v38 = .bool x38_36 ∧ Aside0 (saga_no.j1 kq a1 x38_36 a0_0 a0_1 a0_2 = some (r1, r2, r3, r4, r5)) ∧ Aside0 (kq ≤ kj18) ∧ Aside0 (wc.heap[gb153]? = some (.cells #[.int .i64 a0_0, .bool a0_1, .int .i64 a0_2] 23 (0, 0))) ∧ Aside0 (wc.heap[gb154]? = some (.cells #[.int .i64 0, .bool false, .int .i64 0] 23 (0, 0))) ∧ Aside0 (Below w.heap.size w wc))
              case first =>
                have H := HC37.out
                clear HC37
                by_cases c38 : a0_0 = 9
                · rw [if_pos c38] at H
                  have c38b0 : (a0_0 == 9) = true := beq_iff_eq.mpr c38
                  have c38b1 : (a0_0 != 9) = false := bne_eq_false_iff_eq.mpr c38
                  clear c38
                  (first | rw [c38b0] | (simp only [i64_w, i32_w]; rw [c38b0]) | skip)
                  have H' := Aside0.mk H
                  clear H
                  go_wp2
                  go_meet
                  case rel => exact ⟨_, ((a0_0 == 9)), (by first | rfl | (simp; done) | (simp [*]; done)), H', ⟨by have := HJ18.out; first | omega | exact Nat.le_refl _⟩, ⟨by (with_reducible repeat (first | refine blk_drewN ?_ _ | refine blk_drew ?_ | refine blk_alloc ?_ _)); exact BK153.out⟩, ⟨by (with_reducible repeat (first | refine blk_drewN ?_ _ | refine blk_drew ?_ | refine blk_alloc ?_ _)); exact BK154.out⟩, ⟨by repeat (first | (with_reducible first | exact HB.out | apply below_alloc | apply pw_below_drewN | apply below_drew1 | refine below_set ?_ GE153.out | refine below_set ?_ GE154.out) | exact HB.out)⟩⟩
                · rw [if_neg c38] at H
                  have c38b0 : (a0_0 == 9) = false := beq_eq_false_iff_ne.mpr c38
                  have c38b1 : (a0_0 != 9) = true := bne_iff_ne.mpr c38
                  (first | rw [c38b0] | (simp only [i64_w, i32_w]; rw [c38b0]) | skip)
                  have H' := Aside0.mk H
                  clear H
                  go_wp2
                  go_meet
                  case rel => exact ⟨_, ((a0_0 == 10)), (by first | rfl | (simp; done) | (simp [*]; done)), H', ⟨by have := HJ18.out; first | omega | exact Nat.le_refl _⟩, ⟨by (with_reducible repeat (first | refine blk_drewN ?_ _ | refine blk_drew ?_ | refine blk_alloc ?_ _)); exact BK153.out⟩, ⟨by (with_reducible repeat (first | refine blk_drewN ?_ _ | refine blk_drew ?_ | refine blk_alloc ?_ _)); exact BK154.out⟩, ⟨by repeat (first | (with_reducible first | exact HB.out | apply below_alloc | apply pw_below_drewN | apply below_drew1 | refine below_set ?_ GE153.out | refine below_set ?_ GE154.out) | exact HB.out)⟩⟩
              case rest =>
                clear HC37
                try clear c1
                try clear c2
                try clear p2
                try clear c3
                try clear c3b0
                try clear c3b1
                try clear c7
                try clear c11
                try clear c11b0
                try clear c11b1
                try clear c15
                try clear c16
                try clear c18
                try clear c22
                try clear c24
                try clear c24b0
                try clear c24b1
                try clear c25
                try clear c27
                try clear c31
                try clear c31b0
                try clear c31b1
                try clear c33
                try clear c38
                try clear c38b0
                try clear c38b1
                try clear hcz10_0
                try clear hcz10_1
                try clear hcz10_2
                try clear hcz16_0
                try clear hcz16_1
                try clear hcz16_2
                try clear hcz18_0
                try clear hcz18_1
                try clear hcz18_2
                try clear hcz23_0
                try clear hcz23_1
                try clear hcz23_2
                try clear hcz28_0
                try clear hcz28_1
                try clear hcz28_2
                try clear hcz30_0
                try clear hcz30_1
                try clear hcz30_2
                try clear hcz34_0
                try clear hcz34_1
                try clear hcz34_2
                try clear hcz36_0
                try clear hcz36_1
                try clear hcz36_2
                try clear hcz8_0
                try clear hcz8_1
                try clear hcz8_2
                try clear hfz10_0
                try clear hfz10_1
                try clear hfz10_2
                try clear hfz16_0
                try clear hfz16_1
                try clear hfz16_2
                try clear hfz18_0
                try clear hfz18_1
                try clear hfz18_2
                try clear hfz23_0
                try clear hfz23_1
                try clear hfz23_2
                try clear hfz28_0
                try clear hfz28_1
                try clear hfz28_2
                try clear hfz30_0
                try clear hfz30_1
                try clear hfz30_2
                try clear hfz34_0
                try clear hfz34_1
                try clear hfz34_2
                try clear hfz36_0
                try clear hfz36_1
                try clear hfz36_2
                try clear hfz8_0
                try clear hfz8_1
                try clear hfz8_2
                try clear p2
                obtain ⟨kq, x38_36, rfl, HA, HJ36, BK153, BK154, HB⟩ := hcut
                cases kq with
                | zero => exact absurd HA.out (by simp [saga_no.j1])
                | succ kj36 =>
                  have H := HA.out
                  clear HA
                  simp only [saga_no.j1] at H
                  by_cases c39 : x38_36 = true
                  · subst c39
                    have H1 : (if (wrap64 ((mn a0_2 999999) + 1)) ≥ (mx a1 1) then ((saga_to.f a0_0 a0_1 (wrap64 ((mn a0_2 999999) + 1)) 12).bind fun bt175 => (some (bt175.1, bt175.2.1, bt175.2.2.1, bt175.2.2.2.1, bt175.2.2.2.2))) else ((saga_to.f a0_0 a0_1 (wrap64 ((mn a0_2 999999) + 1)) a0_0).bind fun bt180 => (some (bt180.1, bt180.2.1, bt180.2.2.1, bt180.2.2.2.1, bt180.2.2.2.2)))) = some (r1, r2, r3, r4, r5) := by rw [if_pos rfl] at H; exact H
                    clear H
                    have H := H1
                    clear H1
                    obtain ⟨ji40, hji40⟩ : ∃ j_ : Int, (mn a0_2 999999) = j_ := ⟨_, rfl⟩
                    replace H : (if (wrap64 ((ji40) + 1)) ≥ (mx a1 1) then ((saga_to.f a0_0 a0_1 (wrap64 ((ji40) + 1)) 12).bind fun bt175 => (some (bt175.1, bt175.2.1, bt175.2.2.1, bt175.2.2.2.1, bt175.2.2.2.2))) else ((saga_to.f a0_0 a0_1 (wrap64 ((ji40) + 1)) a0_0).bind fun bt180 => (some (bt180.1, bt180.2.1, bt180.2.2.1, bt180.2.2.2.1, bt180.2.2.2.2)))) = some (r1, r2, r3, r4, r5) := by first | (rw [hji40] at H; exact H) | (simp only [hji40] at H ⊢; exact H)
                    have hji40_ : (if 999999 < a0_2 then 999999 else a0_2) = ji40 := hji40
                    obtain ⟨ji41, hji41⟩ : ∃ j_ : Int, (mx a1 1) = j_ := ⟨_, rfl⟩
                    replace H : (if (wrap64 ((ji40) + 1)) ≥ (ji41) then ((saga_to.f a0_0 a0_1 (wrap64 ((ji40) + 1)) 12).bind fun bt175 => (some (bt175.1, bt175.2.1, bt175.2.2.1, bt175.2.2.2.1, bt175.2.2.2.2))) else ((saga_to.f a0_0 a0_1 (wrap64 ((ji40) + 1)) a0_0).bind fun bt180 => (some (bt180.1, bt180.2.1, bt180.2.2.1, bt180.2.2.2.1, bt180.2.2.2.2)))) = some (r1, r2, r3, r4, r5) := by first | (rw [hji41] at H; exact H) | (simp only [hji41] at H ⊢; exact H)
                    have hji41_ : (if a1 < 1 then 1 else a1) = ji41 := hji41
                    by_cases c42 : (wrap64 ((ji40) + 1)) ≥ (ji41)
                    · rw [if_pos c42] at H
                      have c42b0 : decide ((ji41) ≤ (wrap64 ((ji40) + 1))) = true := decide_eq_true c42
                      clear c42
                      replace H := Option.bind_eq_some_iff.mp H
                      obtain ⟨⟨t175, t176, t177, t178, t179⟩, A430, H⟩ := H
                      replace H : (some (t175, t176, t177, t178, t179)) = some (r1, r2, r3, r4, r5) := H
                      have A43 := Aside0.mk A430
                      clear A430
                      simp only [Option.some.injEq, Prod.mk.injEq] at H
                      obtain ⟨rfl, rfl, rfl, rfl, rfl⟩ := H
                      have hnb44 := NB153_154.out
                      have hnc44 := NB154_153.out
                      have hcz45_0 : wc.cell? ⟨gb153, 0, none⟩ = some (.int .i64 a0_0) := (blk_cell BK153.out 0).trans rfl
                      have hcz45_1 : wc.cell? ⟨gb153, 1, none⟩ = some (.bool a0_1) := (blk_cell BK153.out 1).trans rfl
                      have hcz45_2 : wc.cell? ⟨gb153, 2, none⟩ = some (.int .i64 a0_2) := (blk_cell BK153.out 2).trans rfl
                      have hfz45_0 := blk_frozen BK153.out 0
                      have hfz45_1 := blk_frozen BK153.out 1
                      have hfz45_2 := blk_frozen BK153.out 2
                      go_wp2_with (first | ((with_reducible refine gate_callee (f := 18) rfl ?_); refine goesL_ (some 52) rfl rfl Try.func18 (by kernel_rfl) rfl #[.agg #[.int .i64 a0_0, .bool a0_1, .int .i64 (wrap64 ((ji40) + 1))], .int .i64 12] rfl (by (try simp only [List.map_toArray, List.map_cons, List.map_nil]); first | done | (simp only [hji40]; rfl) | rfl | (simp only [List.length_drop, List.length_take]; rfl)) ?_; (with_reducible refine (saga_to.calls a0_0 a0_1 (wrap64 ((ji40) + 1)) 12 t175 t176 t177 t178 t179 _ A43.out).mono ?_); rintro e w46 ⟨rfl, hb⟩; refine ⟨_, rfl, ?_⟩; have n0_ := Aside0.mk (blk_below (g := gb153) (o := .cells #[.int .i64 a0_0, .bool a0_1, .int .i64 (wrap64 ((ji40) + 1))] 23 (0, 0)) (by (with_reducible repeat (first | refine blk_drewN ?_ _ | refine blk_drew ?_ | refine blk_alloc ?_ _)); refine blk_put (cs := #[.int .i64 a0_0, .bool a0_1, .int .i64 a0_2]) ?_ 2 _ rfl; (with_reducible repeat (first | refine blk_drewN ?_ _ | refine blk_drew ?_ | refine blk_alloc ?_ _)); exact BK153.out) hb); have n1_ := Aside0.mk (blk_below (g := gb154) (o := .cells #[.int .i64 0, .bool false, .int .i64 0] 23 (0, 0)) (by (with_reducible repeat (first | refine blk_drewN ?_ _ | refine blk_drew ?_ | refine blk_alloc ?_ _)); refine blk_far ?_ NB154_153.out _; (with_reducible repeat (first | refine blk_drewN ?_ _ | refine blk_drew ?_ | refine blk_alloc ?_ _)); exact BK154.out) hb); have n2_ := Aside0.mk (below_step (by repeat (first | (with_reducible first | exact HB.out | apply below_alloc | apply pw_below_drewN | apply below_drew1 | refine below_set ?_ GE153.out | refine below_set ?_ GE154.out) | exact HB.out)) hb); clear BK153; clear BK154; clear HB; have BK153 := n0_; have BK154 := n1_; have HB := n2_; clear n0_ n1_ n2_; (try clear hb); (try clear hb2); (try clear hk); (try clear hi); have hcz47_0 : w46.cell? ⟨gb154, 0, none⟩ = some (.int .i64 0) := (blk_cell BK154.out 0).trans rfl; have hcz47_1 : w46.cell? ⟨gb154, 1, none⟩ = some (.bool false) := (blk_cell BK154.out 1).trans rfl; have hcz47_2 : w46.cell? ⟨gb154, 2, none⟩ = some (.int .i64 0) := (blk_cell BK154.out 2).trans rfl; have hfz47_0 := blk_frozen BK154.out 0; have hfz47_1 := blk_frozen BK154.out 1; have hfz47_2 := blk_frozen BK154.out 2))
                      refine bodyPost_ret (results_ctt rfl _ _ gb154 23 #[.int .i64 t175, .bool t176, .int .i64 t177] (0, 0) _ rfl (by (with_reducible repeat (first | refine blk_drewN ?_ _ | refine blk_drew ?_ | refine blk_alloc ?_ _)); refine blk_put (cs := #[.int .i64 t175, .bool t176, .int .i64 0]) ?_ 2 _ rfl; (with_reducible repeat (first | refine blk_drewN ?_ _ | refine blk_drew ?_ | refine blk_alloc ?_ _)); refine blk_put (cs := #[.int .i64 t175, .bool false, .int .i64 0]) ?_ 1 _ rfl; (with_reducible repeat (first | refine blk_drewN ?_ _ | refine blk_drew ?_ | refine blk_alloc ?_ _)); refine blk_put (cs := #[.int .i64 0, .bool false, .int .i64 0]) ?_ 0 _ rfl; (with_reducible repeat (first | refine blk_drewN ?_ _ | refine blk_drew ?_ | refine blk_alloc ?_ _)); exact BK154.out) Try.underlying23 rfl (by kernel_rfl)) rfl ?_
                      exact ⟨by first | rfl | (simp [errW_none, errW_some] <;> rfl) | (simp only [← hji40, ← hji41]; first | rfl | (simp [errW_none, errW_some] <;> rfl)) | (simp [*, errW_none, errW_some] <;> rfl), by repeat (first | (with_reducible first | exact HB.out | apply below_alloc | apply pw_below_drewN | apply below_drew1 | refine below_set ?_ GE153.out | refine below_set ?_ GE154.out) | exact HB.out)⟩
                    · rw [if_neg c42] at H
                      have c42b0 : decide ((ji41) ≤ (wrap64 ((ji40) + 1))) = false := decide_eq_false c42
                      clear c42
                      replace H := Option.bind_eq_some_iff.mp H
                      obtain ⟨⟨t180, t181, t182, t183, t184⟩, A480, H⟩ := H
                      replace H : (some (t180, t181, t182, t183, t184)) = some (r1, r2, r3, r4, r5) := H
                      have A48 := Aside0.mk A480
                      clear A480
                      simp only [Option.some.injEq, Prod.mk.injEq] at H
                      obtain ⟨rfl, rfl, rfl, rfl, rfl⟩ := H
                      have hnb49 := NB153_154.out
                      have hnc49 := NB154_153.out
                      have hcz50_0 : wc.cell? ⟨gb153, 0, none⟩ = some (.int .i64 a0_0) := (blk_cell BK153.out 0).trans rfl
                      have hcz50_1 : wc.cell? ⟨gb153, 1, none⟩ = some (.bool a0_1) := (blk_cell BK153.out 1).trans rfl
                      have hcz50_2 : wc.cell? ⟨gb153, 2, none⟩ = some (.int .i64 a0_2) := (blk_cell BK153.out 2).trans rfl
                      have hfz50_0 := blk_frozen BK153.out 0
                      have hfz50_1 := blk_frozen BK153.out 1
                      have hfz50_2 := blk_frozen BK153.out 2
                      go_wp2_with (first | ((with_reducible refine gate_callee (f := 18) rfl ?_); refine goesL_ (some 59) rfl rfl Try.func18 (by kernel_rfl) rfl #[.agg #[.int .i64 a0_0, .bool a0_1, .int .i64 (wrap64 ((ji40) + 1))], .int .i64 a0_0] rfl (by (try simp only [List.map_toArray, List.map_cons, List.map_nil]); first | done | (simp only [hji40]; rfl) | rfl | (simp only [List.length_drop, List.length_take]; rfl)) ?_; (with_reducible refine (saga_to.calls a0_0 a0_1 (wrap64 ((ji40) + 1)) a0_0 t180 t181 t182 t183 t184 _ A48.out).mono ?_); rintro e w51 ⟨rfl, hb⟩; refine ⟨_, rfl, ?_⟩; have n0_ := Aside0.mk (blk_below (g := gb153) (o := .cells #[.int .i64 a0_0, .bool a0_1, .int .i64 (wrap64 ((ji40) + 1))] 23 (0, 0)) (by (with_reducible repeat (first | refine blk_drewN ?_ _ | refine blk_drew ?_ | refine blk_alloc ?_ _)); refine blk_put (cs := #[.int .i64 a0_0, .bool a0_1, .int .i64 a0_2]) ?_ 2 _ rfl; (with_reducible repeat (first | refine blk_drewN ?_ _ | refine blk_drew ?_ | refine blk_alloc ?_ _)); exact BK153.out) hb); have n1_ := Aside0.mk (blk_below (g := gb154) (o := .cells #[.int .i64 0, .bool false, .int .i64 0] 23 (0, 0)) (by (with_reducible repeat (first | refine blk_drewN ?_ _ | refine blk_drew ?_ | refine blk_alloc ?_ _)); refine blk_far ?_ NB154_153.out _; (with_reducible repeat (first | refine blk_drewN ?_ _ | refine blk_drew ?_ | refine blk_alloc ?_ _)); exact BK154.out) hb); have n2_ := Aside0.mk (below_step (by repeat (first | (with_reducible first | exact HB.out | apply below_alloc | apply pw_below_drewN | apply below_drew1 | refine below_set ?_ GE153.out | refine below_set ?_ GE154.out) | exact HB.out)) hb); clear BK153; clear BK154; clear HB; have BK153 := n0_; have BK154 := n1_; have HB := n2_; clear n0_ n1_ n2_; (try clear hb); (try clear hb2); (try clear hk); (try clear hi); have hcz52_0 : w51.cell? ⟨gb154, 0, none⟩ = some (.int .i64 0) := (blk_cell BK154.out 0).trans rfl; have hcz52_1 : w51.cell? ⟨gb154, 1, none⟩ = some (.bool false) := (blk_cell BK154.out 1).trans rfl; have hcz52_2 : w51.cell? ⟨gb154, 2, none⟩ = some (.int .i64 0) := (blk_cell BK154.out 2).trans rfl; have hfz52_0 := blk_frozen BK154.out 0; have hfz52_1 := blk_frozen BK154.out 1; have hfz52_2 := blk_frozen BK154.out 2))
                      refine bodyPost_ret (results_ctt rfl _ _ gb154 23 #[.int .i64 t180, .bool t181, .int .i64 t182] (0, 0) _ rfl (by (with_reducible repeat (first | refine blk_drewN ?_ _ | refine blk_drew ?_ | refine blk_alloc ?_ _)); refine blk_put (cs := #[.int .i64 t180, .bool t181, .int .i64 0]) ?_ 2 _ rfl; (with_reducible repeat (first | refine blk_drewN ?_ _ | refine blk_drew ?_ | refine blk_alloc ?_ _)); refine blk_put (cs := #[.int .i64 t180, .bool false, .int .i64 0]) ?_ 1 _ rfl; (with_reducible repeat (first | refine blk_drewN ?_ _ | refine blk_drew ?_ | refine blk_alloc ?_ _)); refine blk_put (cs := #[.int .i64 0, .bool false, .int .i64 0]) ?_ 0 _ rfl; (with_reducible repeat (first | refine blk_drewN ?_ _ | refine blk_drew ?_ | refine blk_alloc ?_ _)); exact BK154.out) Try.underlying23 rfl (by kernel_rfl)) rfl ?_
                      exact ⟨by first | rfl | (simp [errW_none, errW_some] <;> rfl) | (simp only [← hji40, ← hji41]; first | rfl | (simp [errW_none, errW_some] <;> rfl)) | (simp [*, errW_none, errW_some] <;> rfl), by repeat (first | (with_reducible first | exact HB.out | apply below_alloc | apply pw_below_drewN | apply below_drew1 | refine below_set ?_ GE153.out | refine below_set ?_ GE154.out) | exact HB.out)⟩
                  · replace c39 := Bool.eq_false_iff.mpr c39
                    subst c39
                    have H1 : ((saga_wrong.f a0_0 a0_1 a0_2 142).bind fun bt185 => (some (bt185.1, bt185.2.1, bt185.2.2.1, bt185.2.2.2.1, bt185.2.2.2.2))) = some (r1, r2, r3, r4, r5) := by rw [if_neg (show ¬ (false = true) by decide)] at H; exact H
                    clear H
                    have H := H1
                    clear H1
                    replace H := Option.bind_eq_some_iff.mp H
                    obtain ⟨⟨t185, t186, t187, t188, t189⟩, A530, H⟩ := H
                    replace H : (some (t185, t186, t187, t188, t189)) = some (r1, r2, r3, r4, r5) := H
                    have A53 := Aside0.mk A530
                    clear A530
                    simp only [Option.some.injEq, Prod.mk.injEq] at H
                    obtain ⟨rfl, rfl, rfl, rfl, rfl⟩ := H
                    have hnb54 := NB153_154.out
                    have hnc54 := NB154_153.out
                    have hcz55_0 : wc.cell? ⟨gb153, 0, none⟩ = some (.int .i64 a0_0) := (blk_cell BK153.out 0).trans rfl
                    have hcz55_1 : wc.cell? ⟨gb153, 1, none⟩ = some (.bool a0_1) := (blk_cell BK153.out 1).trans rfl
                    have hcz55_2 : wc.cell? ⟨gb153, 2, none⟩ = some (.int .i64 a0_2) := (blk_cell BK153.out 2).trans rfl
                    have hfz55_0 := blk_frozen BK153.out 0
                    have hfz55_1 := blk_frozen BK153.out 1
                    have hfz55_2 := blk_frozen BK153.out 2
                    go_wp2_with (first | ((with_reducible refine gate_callee (f := 19) rfl ?_); refine goesL_ (some 64) rfl rfl Try.func19 (by kernel_rfl) rfl #[.agg #[.int .i64 a0_0, .bool a0_1, .int .i64 a0_2], .int .i64 142] rfl (by (try simp only [List.map_toArray, List.map_cons, List.map_nil]); first | done | rfl | (simp only [List.length_drop, List.length_take]; rfl)) ?_; (with_reducible refine (saga_wrong.calls a0_0 a0_1 a0_2 142 t185 t186 t187 t188 t189 _ A53.out).mono ?_); rintro e w56 ⟨rfl, hb⟩; refine ⟨_, rfl, ?_⟩; have n0_ := Aside0.mk (blk_below (g := gb153) (o := .cells #[.int .i64 a0_0, .bool a0_1, .int .i64 a0_2] 23 (0, 0)) (by (with_reducible repeat (first | refine blk_drewN ?_ _ | refine blk_drew ?_ | refine blk_alloc ?_ _)); exact BK153.out) hb); have n1_ := Aside0.mk (blk_below (g := gb154) (o := .cells #[.int .i64 0, .bool false, .int .i64 0] 23 (0, 0)) (by (with_reducible repeat (first | refine blk_drewN ?_ _ | refine blk_drew ?_ | refine blk_alloc ?_ _)); exact BK154.out) hb); have n2_ := Aside0.mk (below_step (by repeat (first | (with_reducible first | exact HB.out | apply below_alloc | apply pw_below_drewN | apply below_drew1 | refine below_set ?_ GE153.out | refine below_set ?_ GE154.out) | exact HB.out)) hb); clear BK153; clear BK154; clear HB; have BK153 := n0_; have BK154 := n1_; have HB := n2_; clear n0_ n1_ n2_; (try clear hb); (try clear hb2); (try clear hk); (try clear hi); have hcz57_0 : w56.cell? ⟨gb154, 0, none⟩ = some (.int .i64 0) := (blk_cell BK154.out 0).trans rfl; have hcz57_1 : w56.cell? ⟨gb154, 1, none⟩ = some (.bool false) := (blk_cell BK154.out 1).trans rfl; have hcz57_2 : w56.cell? ⟨gb154, 2, none⟩ = some (.int .i64 0) := (blk_cell BK154.out 2).trans rfl; have hfz57_0 := blk_frozen BK154.out 0; have hfz57_1 := blk_frozen BK154.out 1; have hfz57_2 := blk_frozen BK154.out 2))
                    refine bodyPost_ret (results_ctt rfl _ _ gb154 23 #[.int .i64 t185, .bool t186, .int .i64 t187] (0, 0) _ rfl (by (with_reducible repeat (first | refine blk_drewN ?_ _ | refine blk_drew ?_ | refine blk_alloc ?_ _)); refine blk_put (cs := #[.int .i64 t185, .bool t186, .int .i64 0]) ?_ 2 _ rfl; (with_reducible repeat (first | refine blk_drewN ?_ _ | refine blk_drew ?_ | refine blk_alloc ?_ _)); refine blk_put (cs := #[.int .i64 t185, .bool false, .int .i64 0]) ?_ 1 _ rfl; (with_reducible repeat (first | refine blk_drewN ?_ _ | refine blk_drew ?_ | refine blk_alloc ?_ _)); refine blk_put (cs := #[.int .i64 0, .bool false, .int .i64 0]) ?_ 0 _ rfl; (with_reducible repeat (first | refine blk_drewN ?_ _ | refine blk_drew ?_ | refine blk_alloc ?_ _)); exact BK154.out) Try.underlying23 rfl (by kernel_rfl)) rfl ?_
                    exact ⟨by first | rfl | (simp [errW_none, errW_some] <;> rfl) | (simp [*, errW_none, errW_some] <;> rfl), by repeat (first | (with_reducible first | exact HB.out | apply below_alloc | apply pw_below_drewN | apply below_drew1 | refine below_set ?_ GE153.out | refine below_set ?_ GE154.out) | exact HB.out)⟩

end Go.Proofs.Ytcghipdlihpbcaa.PAll
