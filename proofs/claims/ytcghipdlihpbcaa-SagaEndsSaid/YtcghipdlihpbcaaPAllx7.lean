-- Made by a program of this session (wip/gen)
import Derived.Test.YtcghipdlihpbcaaPAllx0
import Derived.Test.YtcghipdlihpbcaaPAllx1
import Derived.Test.YtcghipdlihpbcaaPAllx4
import Derived.Test.YtcghipdlihpbcaaPAllx5
namespace Go.Proofs.Ytcghipdlihpbcaa.PAll
open Go.RowKit Go.Proofs.YtcghipdlihpbcaaW.PrintWords Go.Proofs.YtcghipdlihpbcaaW.PrintLast Go.Proofs.YtcghipdlihpbcaaW.PrintMore
attribute [local go_sem] max2_int min2_int max_two min_two max_three min_three max_four min_four   -- for this text's walks alone
set_option linter.unusedVariables false
set_option linter.unusedSimpArgs false

attribute [local go_sem high] eqA23
/-! ### packhorselaw14_SagaUndoes: function 5 -/
mutual
def packhorselaw14_SagaUndoes.j0 : Nat → List Int → Int → Bool → Int → Bool → Int → Option (Bool)
  | 0, _, _, _, _, _, _ => none
  | k + 1, x1, x2, x38, x266000, x266001, x266002 => if x38 = true then (some true) else (if x266000 = 8 then (packhorselaw14_SagaUndoes.j1 k x1 x2 true x266000 x266001 x266002) else (if x266000 = 11 then (packhorselaw14_SagaUndoes.j1 k x1 x2 true x266000 x266001 x266002) else (packhorselaw14_SagaUndoes.j1 k x1 x2 (x266000 == 12) x266000 x266001 x266002)))
def packhorselaw14_SagaUndoes.j1 : Nat → List Int → Int → Bool → Int → Bool → Int → Option (Bool)
  | 0, _, _, _, _, _, _ => none
  | k + 1, x1, x2, x7, x266000, x266001, x266002 => packhorselaw14_SagaUndoes.l0 k x2 x7 x1 (x1.length : Int) 0 x266000 x266001 x266002 x266000 x266001 x266002
def packhorselaw14_SagaUndoes.l0 : Nat → Int → Bool → List Int → Int → Int → Int → Bool → Int → Int → Bool → Int → Option (Bool)
  | 0, _, _, _, _, _, _, _, _, _, _, _ => none
  | k + 1, x2, x7, x53, x54, x55, x266000, x266001, x266002, x268000, x268001, x268002 => if x55 < x54 then (if 0 ≤ x55 then (if x55 < (x53.length : Int) then ((saga_Step.f k x266000 x266001 x266002 (rd x53 x55) x2).bind fun bt269 => (if x7 = true then (if (!(bt269.1 == x268000) || (!(bt269.2.1 == x268001) || (!(bt269.2.2.1 == x268002)))) = true then (some false) else (if bt269.1 < x266000 then (if bt269.2.2.2.2 = 0 then (some false) else (if bt269.1 < 8 then (some false) else (packhorselaw14_SagaUndoes.l0 k x2 x7 x53 x54 (wrap64 (x55 + 1)) bt269.1 bt269.2.1 bt269.2.2.1 x268000 x268001 x268002))) else (if bt269.1 < 8 then (some false) else (packhorselaw14_SagaUndoes.l0 k x2 x7 x53 x54 (wrap64 (x55 + 1)) bt269.1 bt269.2.1 bt269.2.2.1 x268000 x268001 x268002)))) else (if bt269.1 < x266000 then (if bt269.2.2.2.2 = 0 then (some false) else (if bt269.1 < 8 then (some false) else (packhorselaw14_SagaUndoes.l0 k x2 x7 x53 x54 (wrap64 (x55 + 1)) bt269.1 bt269.2.1 bt269.2.2.1 x268000 x268001 x268002))) else (if bt269.1 < 8 then (some false) else (packhorselaw14_SagaUndoes.l0 k x2 x7 x53 x54 (wrap64 (x55 + 1)) bt269.1 bt269.2.1 bt269.2.2.1 x268000 x268001 x268002))))) else (none)) else (none)) else (if x7 = true then (some true) else (some (decide (x266000 ≥ 9))))
end
def packhorselaw14_SagaUndoes.f (k : Nat) (a0_0 : Int) (a0_1 : Bool) (a0_2 : Int) (l1 : List Int) (a2 : Int) : Option (Bool) := (packhorselaw14_sagaAlive.f k).bind fun t266 => (if t266 = true then (if a0_0 < 8 then (packhorselaw14_SagaUndoes.j0 k l1 a2 true a0_0 a0_1 a0_2) else (if a0_0 > 12 then (packhorselaw14_SagaUndoes.j0 k l1 a2 true a0_0 a0_1 a0_2) else (if a0_2 < 0 then (packhorselaw14_SagaUndoes.j0 k l1 a2 true a0_0 a0_1 a0_2) else (if a0_2 > 1000 then (packhorselaw14_SagaUndoes.j0 k l1 a2 true a0_0 a0_1 a0_2) else (packhorselaw14_SagaUndoes.j0 k l1 a2 (decide ((l1.length : Int) > 500)) a0_0 a0_1 a0_2))))) else (some false))
theorem packhorselaw14_SagaUndoes.mono_l : ∀ k, (∀ y0 y1 y2 y3 y4 y5, LeO (packhorselaw14_SagaUndoes.j0 k y0 y1 y2 y3 y4 y5) (packhorselaw14_SagaUndoes.j0 (k + 1) y0 y1 y2 y3 y4 y5)) ∧ (∀ y0 y1 y2 y3 y4 y5, LeO (packhorselaw14_SagaUndoes.j1 k y0 y1 y2 y3 y4 y5) (packhorselaw14_SagaUndoes.j1 (k + 1) y0 y1 y2 y3 y4 y5)) ∧ (∀ y0 y1 y2 y3 y4 y5 y6 y7 y8 y9 y10, LeO (packhorselaw14_SagaUndoes.l0 k y0 y1 y2 y3 y4 y5 y6 y7 y8 y9 y10) (packhorselaw14_SagaUndoes.l0 (k + 1) y0 y1 y2 y3 y4 y5 y6 y7 y8 y9 y10))
  | 0 => ⟨fun _ _ _ _ _ _ r h => by simp [packhorselaw14_SagaUndoes.j0] at h, fun _ _ _ _ _ _ r h => by simp [packhorselaw14_SagaUndoes.j1] at h, fun _ _ _ _ _ _ _ _ _ _ _ r h => by simp [packhorselaw14_SagaUndoes.l0] at h⟩
  | k + 1 => by
    obtain ⟨ih0, ih1, ih2⟩ := packhorselaw14_SagaUndoes.mono_l k
    refine ⟨?_, ?_, ?_⟩
    · intro y0 y1 y2 y3 y4 y5
      unfold packhorselaw14_SagaUndoes.j0
      repeat' first
      | (with_reducible exact ih0 _ _ _ _ _ _)
      | (with_reducible exact ih1 _ _ _ _ _ _)
      | (with_reducible exact ih2 _ _ _ _ _ _ _ _ _ _ _)
      | (with_reducible exact packhorselaw14_sagaAlive.mono _)
      | (with_reducible exact saga_Step.mono _ _ _ _ _ _)
      | (with_reducible exact LeO.refl _)
      | (with_reducible exact LeO.none _)
      | (with_reducible refine LeO.ite ?_ ?_)
      | (with_reducible refine LeO.bind ?_ (fun _ => ?_))
      | exact ih0 _ _ _ _ _ _
      | exact ih1 _ _ _ _ _ _
      | exact ih2 _ _ _ _ _ _ _ _ _ _ _
      | exact packhorselaw14_sagaAlive.mono _
      | exact saga_Step.mono _ _ _ _ _ _
      | exact LeO.none _
      | refine LeO.ite ?_ ?_
      | refine LeO.bind ?_ (fun _ => ?_)
    · intro y0 y1 y2 y3 y4 y5
      unfold packhorselaw14_SagaUndoes.j1
      repeat' first
      | (with_reducible exact ih0 _ _ _ _ _ _)
      | (with_reducible exact ih1 _ _ _ _ _ _)
      | (with_reducible exact ih2 _ _ _ _ _ _ _ _ _ _ _)
      | (with_reducible exact packhorselaw14_sagaAlive.mono _)
      | (with_reducible exact saga_Step.mono _ _ _ _ _ _)
      | (with_reducible exact LeO.refl _)
      | (with_reducible exact LeO.none _)
      | (with_reducible refine LeO.ite ?_ ?_)
      | (with_reducible refine LeO.bind ?_ (fun _ => ?_))
      | exact ih0 _ _ _ _ _ _
      | exact ih1 _ _ _ _ _ _
      | exact ih2 _ _ _ _ _ _ _ _ _ _ _
      | exact packhorselaw14_sagaAlive.mono _
      | exact saga_Step.mono _ _ _ _ _ _
      | exact LeO.none _
      | refine LeO.ite ?_ ?_
      | refine LeO.bind ?_ (fun _ => ?_)
    · intro y0 y1 y2 y3 y4 y5 y6 y7 y8 y9 y10
      unfold packhorselaw14_SagaUndoes.l0
      repeat' first
      | (with_reducible exact ih0 _ _ _ _ _ _)
      | (with_reducible exact ih1 _ _ _ _ _ _)
      | (with_reducible exact ih2 _ _ _ _ _ _ _ _ _ _ _)
      | (with_reducible exact packhorselaw14_sagaAlive.mono _)
      | (with_reducible exact saga_Step.mono _ _ _ _ _ _)
      | (with_reducible exact LeO.refl _)
      | (with_reducible exact LeO.none _)
      | (with_reducible refine LeO.ite ?_ ?_)
      | (with_reducible refine LeO.bind ?_ (fun _ => ?_))
      | exact ih0 _ _ _ _ _ _
      | exact ih1 _ _ _ _ _ _
      | exact ih2 _ _ _ _ _ _ _ _ _ _ _
      | exact packhorselaw14_sagaAlive.mono _
      | exact saga_Step.mono _ _ _ _ _ _
      | exact LeO.none _
      | refine LeO.ite ?_ ?_
      | refine LeO.bind ?_ (fun _ => ?_)
theorem packhorselaw14_SagaUndoes.mono : ∀ a0 a1 a2 a3 a4 k, LeO (packhorselaw14_SagaUndoes.f k a0 a1 a2 a3 a4) (packhorselaw14_SagaUndoes.f (k + 1) a0 a1 a2 a3 a4) := by
  intro a0 a1 a2 a3 a4 k
  obtain ⟨ih0, ih1, ih2⟩ := packhorselaw14_SagaUndoes.mono_l k
  unfold packhorselaw14_SagaUndoes.f
  repeat' first
      | (with_reducible exact ih0 _ _ _ _ _ _)
      | (with_reducible exact ih1 _ _ _ _ _ _)
      | (with_reducible exact ih2 _ _ _ _ _ _ _ _ _ _ _)
      | (with_reducible exact packhorselaw14_sagaAlive.mono _)
      | (with_reducible exact saga_Step.mono _ _ _ _ _ _)
      | (with_reducible exact LeO.refl _)
      | (with_reducible exact LeO.none _)
      | (with_reducible refine LeO.ite ?_ ?_)
      | (with_reducible refine LeO.bind ?_ (fun _ => ?_))
      | exact ih0 _ _ _ _ _ _
      | exact ih1 _ _ _ _ _ _
      | exact ih2 _ _ _ _ _ _ _ _ _ _ _
      | exact packhorselaw14_sagaAlive.mono _
      | exact saga_Step.mono _ _ _ _ _ _
      | exact LeO.none _
      | refine LeO.ite ?_ ?_
      | refine LeO.bind ?_ (fun _ => ?_)
set_option maxHeartbeats 8000000 in
set_option maxRecDepth 100000 in
theorem packhorselaw14_SagaUndoes.calls (k : Nat) (a0_0 : Int) (a0_1 : Bool) (a0_2 : Int) (A1 : Option Addr) (c1 : Nat) (l1 : List Int) (a2 : Int) (r : Bool) (w : World) (hr1 : Kd.C (Kd.int .i64) w A1 l1.length l1) (hc1 : l1.length ≤ c1) (h : packhorselaw14_SagaUndoes.f k a0_0 a0_1 a0_2 l1 a2 = some r) :
    Calls Try.prog 5 #[.agg #[.int .i64 a0_0, .bool a0_1, .int .i64 a0_2], .slice A1 l1.length c1, .int .i64 a2] w fun e w' => e = .returned (.bool r) ∧ Below w.heap.size w w' := by
  have hu23 := Try.underlying23
  have HR1 := Aside0.mk hr1
  have HC1 := Aside0.mk hc1
  clear hr1 hc1
  have HB := Aside0.mk (Below.refl w.heap.size w)
  have H : ((packhorselaw14_sagaAlive.f k).bind fun t266 => (if t266 = true then (if a0_0 < 8 then (packhorselaw14_SagaUndoes.j0 k l1 a2 true a0_0 a0_1 a0_2) else (if a0_0 > 12 then (packhorselaw14_SagaUndoes.j0 k l1 a2 true a0_0 a0_1 a0_2) else (if a0_2 < 0 then (packhorselaw14_SagaUndoes.j0 k l1 a2 true a0_0 a0_1 a0_2) else (if a0_2 > 1000 then (packhorselaw14_SagaUndoes.j0 k l1 a2 true a0_0 a0_1 a0_2) else (packhorselaw14_SagaUndoes.j0 k l1 a2 (decide ((l1.length : Int) > 500)) a0_0 a0_1 a0_2))))) else (some false))) = some r := h
  clear h
  replace H := Option.bind_eq_some_iff.mp H
  obtain ⟨t266, A40, H⟩ := H
  replace H : (if t266 = true then (if a0_0 < 8 then (packhorselaw14_SagaUndoes.j0 k l1 a2 true a0_0 a0_1 a0_2) else (if a0_0 > 12 then (packhorselaw14_SagaUndoes.j0 k l1 a2 true a0_0 a0_1 a0_2) else (if a0_2 < 0 then (packhorselaw14_SagaUndoes.j0 k l1 a2 true a0_0 a0_1 a0_2) else (if a0_2 > 1000 then (packhorselaw14_SagaUndoes.j0 k l1 a2 true a0_0 a0_1 a0_2) else (packhorselaw14_SagaUndoes.j0 k l1 a2 (decide ((l1.length : Int) > 500)) a0_0 a0_1 a0_2))))) else (some false)) = some r := H
  have A4 := Aside0.mk A40
  clear A40
  by_cases c5 : t266 = true
  · subst c5
    have H1 : (if a0_0 < 8 then (packhorselaw14_SagaUndoes.j0 k l1 a2 true a0_0 a0_1 a0_2) else (if a0_0 > 12 then (packhorselaw14_SagaUndoes.j0 k l1 a2 true a0_0 a0_1 a0_2) else (if a0_2 < 0 then (packhorselaw14_SagaUndoes.j0 k l1 a2 true a0_0 a0_1 a0_2) else (if a0_2 > 1000 then (packhorselaw14_SagaUndoes.j0 k l1 a2 true a0_0 a0_1 a0_2) else (packhorselaw14_SagaUndoes.j0 k l1 a2 (decide ((l1.length : Int) > 500)) a0_0 a0_1 a0_2))))) = some r := by rw [if_pos rfl] at H; exact H
    clear H
    have H := H1
    clear H1
    have HC6 := Aside0.mk H
    clear H
    go_enter Try.func5, Try.ntmps5
    go_upto_region 3 with (first | ((with_reducible refine gate_dst (N := 3) rfl ?_); (try (refine gate_guard (by rfl) ?_; dsimp only)); refine box_event ?hg (N := 3) ?hd (cs := #[.int .i64 a0_0, .bool a0_1, .int .i64 a0_2]) (t := 23) ?hr ?_; (case hd => rfl); (case hg => rfl); (case hr => first | (go_simp; done) | (go_simp; rfl)); intro gb265 hg w7 hbox hb; have n0_ := Aside0.mk (below_step (by repeat (first | (with_reducible first | exact HB.out | apply below_alloc | apply pw_below_drewN | apply below_drew1) | exact HB.out)) hb); have n1_ := Aside0.mk (hbox); have n2_ := Aside0.mk ((by rw [hg]; exact (below_size (by repeat (first | (with_reducible first | exact HB.out | apply below_alloc | apply pw_below_drewN | apply below_drew1) | exact HB.out))) : w.heap.size ≤ gb265)); have n3_ := Aside0.mk ((by rw [hg]; exact (below_size (by repeat (first | (with_reducible first | exact HB.out | apply below_alloc | apply pw_below_drewN | apply below_drew1) | exact HB.out))) : w.heap.size ≤ gb265)); clear HB; have HB := n0_; have BK265 := n1_; have GW265 := n2_; have GE265 := n3_; clear n0_ n1_ n2_ n3_; clear hb hbox hg) | ((with_reducible refine gate_callee (f := 9) rfl ?_); refine goesL_ (some 14) rfl rfl Try.func9 (by kernel_rfl) rfl #[] rfl (by (try simp only [List.map_toArray, List.map_cons, List.map_nil]); first | done | rfl | (simp only [List.length_drop, List.length_take]; rfl)) ?_; (with_reducible refine (packhorselaw14_sagaAlive.calls k  true _ A4.out).mono ?_); rintro e w8 ⟨rfl, hb⟩; refine ⟨_, rfl, ?_⟩; have n0_ := Aside0.mk (blk_below (g := gb265) (o := .cells #[.int .i64 a0_0, .bool a0_1, .int .i64 a0_2] 23 (0, 0)) (by (with_reducible repeat (first | refine blk_drewN ?_ _ | refine blk_drew ?_ | refine blk_alloc ?_ _)); exact BK265.out) hb); have n1_ := Aside0.mk (below_step (by repeat (first | (with_reducible first | exact HB.out | apply below_alloc | apply pw_below_drewN | apply below_drew1 | refine below_set ?_ GE265.out) | exact HB.out)) hb); clear BK265; clear HB; have BK265 := n0_; have HB := n1_; clear n0_ n1_; (try clear hb); (try clear hb2); (try clear hk); (try clear hi)))
    (try simp only [Act.put, List.setIfInBounds_toArray, List.set_cons_zero, List.set_cons_succ])
    go_cut [38] (fun v38 wc => ∃ (kq : Nat) (x38_5 : Bool), v38 = .bool x38_5 ∧ Aside0 (packhorselaw14_SagaUndoes.j0 kq l1 a2 x38_5 a0_0 a0_1 a0_2 = some r) ∧ Aside0 (kq ≤ k) ∧ Aside0 (wc.heap[gb265]? = some (.cells #[.int .i64 a0_0, .bool a0_1, .int .i64 a0_2] 23 (0, 0))) ∧ Aside0 (Below w.heap.size w wc))
    case first =>
      have H := HC6.out
      clear HC6
      by_cases c9 : a0_0 < 8
      · rw [if_pos c9] at H
        have c9b0 : decide (a0_0 < 8) = true := decide_eq_true c9
        clear c9
        (first | rw [c9b0] | (simp only [i64_w, i32_w]; rw [c9b0]) | skip)
        have H' := Aside0.mk H
        clear H
        have hcz10_0 : w8.cell? ⟨gb265, 0, none⟩ = some (.int .i64 a0_0) := (blk_cell BK265.out 0).trans rfl
        have hcz10_1 : w8.cell? ⟨gb265, 1, none⟩ = some (.bool a0_1) := (blk_cell BK265.out 1).trans rfl
        have hcz10_2 : w8.cell? ⟨gb265, 2, none⟩ = some (.int .i64 a0_2) := (blk_cell BK265.out 2).trans rfl
        have hfz10_0 := blk_frozen BK265.out 0
        have hfz10_1 := blk_frozen BK265.out 1
        have hfz10_2 := blk_frozen BK265.out 2
        go_wp2
        go_meet
        case rel => exact ⟨_, (true), (by first | rfl | (simp; done) | (simp [*]; done)), H', ⟨by first | omega | exact Nat.le_refl _⟩, ⟨by (with_reducible repeat (first | refine blk_drewN ?_ _ | refine blk_drew ?_ | refine blk_alloc ?_ _)); exact BK265.out⟩, ⟨by repeat (first | (with_reducible first | exact HB.out | apply below_alloc | apply pw_below_drewN | apply below_drew1 | refine below_set ?_ GE265.out) | exact HB.out)⟩⟩
      · rw [if_neg c9] at H
        have c9b0 : decide (a0_0 < 8) = false := decide_eq_false c9
        clear c9
        (first | rw [c9b0] | (simp only [i64_w, i32_w]; rw [c9b0]) | skip)
        by_cases c11 : a0_0 > 12
        · rw [if_pos c11] at H
          have c11b0 : decide (12 < a0_0) = true := decide_eq_true c11
          clear c11
          have H' := Aside0.mk H
          clear H
          have hcz12_0 : w8.cell? ⟨gb265, 0, none⟩ = some (.int .i64 a0_0) := (blk_cell BK265.out 0).trans rfl
          have hcz12_1 : w8.cell? ⟨gb265, 1, none⟩ = some (.bool a0_1) := (blk_cell BK265.out 1).trans rfl
          have hcz12_2 : w8.cell? ⟨gb265, 2, none⟩ = some (.int .i64 a0_2) := (blk_cell BK265.out 2).trans rfl
          have hfz12_0 := blk_frozen BK265.out 0
          have hfz12_1 := blk_frozen BK265.out 1
          have hfz12_2 := blk_frozen BK265.out 2
          go_wp2
          go_meet
          case rel => exact ⟨_, (true), (by first | rfl | (simp; done) | (simp [*]; done)), H', ⟨by first | omega | exact Nat.le_refl _⟩, ⟨by (with_reducible repeat (first | refine blk_drewN ?_ _ | refine blk_drew ?_ | refine blk_alloc ?_ _)); exact BK265.out⟩, ⟨by repeat (first | (with_reducible first | exact HB.out | apply below_alloc | apply pw_below_drewN | apply below_drew1 | refine below_set ?_ GE265.out) | exact HB.out)⟩⟩
        · rw [if_neg c11] at H
          have c11b0 : decide (12 < a0_0) = false := decide_eq_false c11
          clear c11
          by_cases c13 : a0_2 < 0
          · rw [if_pos c13] at H
            have c13b0 : decide (a0_2 < 0) = true := decide_eq_true c13
            clear c13
            have H' := Aside0.mk H
            clear H
            have hcz14_0 : w8.cell? ⟨gb265, 0, none⟩ = some (.int .i64 a0_0) := (blk_cell BK265.out 0).trans rfl
            have hcz14_1 : w8.cell? ⟨gb265, 1, none⟩ = some (.bool a0_1) := (blk_cell BK265.out 1).trans rfl
            have hcz14_2 : w8.cell? ⟨gb265, 2, none⟩ = some (.int .i64 a0_2) := (blk_cell BK265.out 2).trans rfl
            have hfz14_0 := blk_frozen BK265.out 0
            have hfz14_1 := blk_frozen BK265.out 1
            have hfz14_2 := blk_frozen BK265.out 2
            go_wp2
            go_meet
            case rel => exact ⟨_, (true), (by first | rfl | (simp; done) | (simp [*]; done)), H', ⟨by first | omega | exact Nat.le_refl _⟩, ⟨by (with_reducible repeat (first | refine blk_drewN ?_ _ | refine blk_drew ?_ | refine blk_alloc ?_ _)); exact BK265.out⟩, ⟨by repeat (first | (with_reducible first | exact HB.out | apply below_alloc | apply pw_below_drewN | apply below_drew1 | refine below_set ?_ GE265.out) | exact HB.out)⟩⟩
          · rw [if_neg c13] at H
            have c13b0 : decide (a0_2 < 0) = false := decide_eq_false c13
            clear c13
            by_cases c15 : a0_2 > 1000
            · rw [if_pos c15] at H
              have c15b0 : decide (1000 < a0_2) = true := decide_eq_true c15
              clear c15
              have H' := Aside0.mk H
              clear H
              have hcz16_0 : w8.cell? ⟨gb265, 0, none⟩ = some (.int .i64 a0_0) := (blk_cell BK265.out 0).trans rfl
              have hcz16_1 : w8.cell? ⟨gb265, 1, none⟩ = some (.bool a0_1) := (blk_cell BK265.out 1).trans rfl
              have hcz16_2 : w8.cell? ⟨gb265, 2, none⟩ = some (.int .i64 a0_2) := (blk_cell BK265.out 2).trans rfl
              have hfz16_0 := blk_frozen BK265.out 0
              have hfz16_1 := blk_frozen BK265.out 1
              have hfz16_2 := blk_frozen BK265.out 2
              go_wp2
              go_meet
              case rel => exact ⟨_, (true), (by first | rfl | (simp; done) | (simp [*]; done)), H', ⟨by first | omega | exact Nat.le_refl _⟩, ⟨by (with_reducible repeat (first | refine blk_drewN ?_ _ | refine blk_drew ?_ | refine blk_alloc ?_ _)); exact BK265.out⟩, ⟨by repeat (first | (with_reducible first | exact HB.out | apply below_alloc | apply pw_below_drewN | apply below_drew1 | refine below_set ?_ GE265.out) | exact HB.out)⟩⟩
            · rw [if_neg c15] at H
              have c15b0 : decide (1000 < a0_2) = false := decide_eq_false c15
              clear c15
              have H' := Aside0.mk H
              clear H
              have hcz17_0 : w8.cell? ⟨gb265, 0, none⟩ = some (.int .i64 a0_0) := (blk_cell BK265.out 0).trans rfl
              have hcz17_1 : w8.cell? ⟨gb265, 1, none⟩ = some (.bool a0_1) := (blk_cell BK265.out 1).trans rfl
              have hcz17_2 : w8.cell? ⟨gb265, 2, none⟩ = some (.int .i64 a0_2) := (blk_cell BK265.out 2).trans rfl
              have hfz17_0 := blk_frozen BK265.out 0
              have hfz17_1 := blk_frozen BK265.out 1
              have hfz17_2 := blk_frozen BK265.out 2
              go_wp2
              go_meet
              case rel => exact ⟨_, (decide ((l1.length : Int) > 500)), (by first | rfl | (simp; done) | (simp [*]; done)), H', ⟨by first | omega | exact Nat.le_refl _⟩, ⟨by (with_reducible repeat (first | refine blk_drewN ?_ _ | refine blk_drew ?_ | refine blk_alloc ?_ _)); exact BK265.out⟩, ⟨by repeat (first | (with_reducible first | exact HB.out | apply below_alloc | apply pw_below_drewN | apply below_drew1 | refine below_set ?_ GE265.out) | exact HB.out)⟩⟩
    case rest =>
      clear HC6
      try clear c1
      try clear p2
      try clear c5
      try clear c9
      try clear c9b0
      try clear c11
      try clear c11b0
      try clear c13
      try clear c13b0
      try clear c15
      try clear c15b0
      try clear hcz10_0
      try clear hcz10_1
      try clear hcz10_2
      try clear hcz12_0
      try clear hcz12_1
      try clear hcz12_2
      try clear hcz14_0
      try clear hcz14_1
      try clear hcz14_2
      try clear hcz16_0
      try clear hcz16_1
      try clear hcz16_2
      try clear hcz17_0
      try clear hcz17_1
      try clear hcz17_2
      try clear hfz10_0
      try clear hfz10_1
      try clear hfz10_2
      try clear hfz12_0
      try clear hfz12_1
      try clear hfz12_2
      try clear hfz14_0
      try clear hfz14_1
      try clear hfz14_2
      try clear hfz16_0
      try clear hfz16_1
      try clear hfz16_2
      try clear hfz17_0
      try clear hfz17_1
      try clear hfz17_2
      obtain ⟨kq, x38_5, rfl, HA, HJ5, BK265, HB⟩ := hcut
      cases kq with
      | zero => exact absurd HA.out (by simp [packhorselaw14_SagaUndoes.j0])
      | succ kj5 =>
        have H := HA.out
        clear HA
        simp only [packhorselaw14_SagaUndoes.j0] at H
        by_cases c18 : x38_5 = true
        · subst c18
          have H1 : (some true) = some r := by rw [if_pos rfl] at H; exact H
          clear H
          have H := H1
          clear H1
          obtain rfl := Option.some.inj H
          go_wp2
          go_ret
          exact ⟨by first | rfl | (simp [errW_none, errW_some] <;> rfl) | (simp [*, errW_none, errW_some] <;> rfl), by repeat (first | (with_reducible first | exact HB.out | apply below_alloc | apply pw_below_drewN | apply below_drew1 | refine below_set ?_ GE265.out) | exact HB.out)⟩
        · replace c18 := Bool.eq_false_iff.mpr c18
          subst c18
          have H1 : (if a0_0 = 8 then (packhorselaw14_SagaUndoes.j1 kj5 l1 a2 true a0_0 a0_1 a0_2) else (if a0_0 = 11 then (packhorselaw14_SagaUndoes.j1 kj5 l1 a2 true a0_0 a0_1 a0_2) else (packhorselaw14_SagaUndoes.j1 kj5 l1 a2 (a0_0 == 12) a0_0 a0_1 a0_2))) = some r := by rw [if_neg (show ¬ (false = true) by decide)] at H; exact H
          clear H
          have H := H1
          clear H1
          have HC19 := Aside0.mk H
          clear H
          go_upto_region 5 with (fail)
          go_cut [7] (fun v7 wc => ∃ (kq : Nat) (x7_18 : Bool), v7 = .bool x7_18 ∧ Aside0 (packhorselaw14_SagaUndoes.j1 kq l1 a2 x7_18 a0_0 a0_1 a0_2 = some r) ∧ Aside0 (kq ≤ kj5) ∧ Aside0 (wc.heap[gb265]? = some (.cells #[.int .i64 a0_0, .bool a0_1, .int .i64 a0_2] 23 (0, 0))) ∧ Aside0 (Below w.heap.size w wc))
          case first =>
            have H := HC19.out
            clear HC19
            by_cases c20 : a0_0 = 8
            · rw [if_pos c20] at H
              have c20b0 : (a0_0 == 8) = true := beq_iff_eq.mpr c20
              have c20b1 : (a0_0 != 8) = false := bne_eq_false_iff_eq.mpr c20
              clear c20
              (first | rw [c20b0] | (simp only [i64_w, i32_w]; rw [c20b0]) | skip)
              have H' := Aside0.mk H
              clear H
              have hcz21_0 : wc.cell? ⟨gb265, 0, none⟩ = some (.int .i64 a0_0) := (blk_cell BK265.out 0).trans rfl
              have hcz21_1 : wc.cell? ⟨gb265, 1, none⟩ = some (.bool a0_1) := (blk_cell BK265.out 1).trans rfl
              have hcz21_2 : wc.cell? ⟨gb265, 2, none⟩ = some (.int .i64 a0_2) := (blk_cell BK265.out 2).trans rfl
              have hfz21_0 := blk_frozen BK265.out 0
              have hfz21_1 := blk_frozen BK265.out 1
              have hfz21_2 := blk_frozen BK265.out 2
              go_wp2
              go_meet
              case rel => exact ⟨_, (true), (by first | rfl | (simp; done) | (simp [*]; done)), H', ⟨by have := HJ5.out; first | omega | exact Nat.le_refl _⟩, ⟨by (with_reducible repeat (first | refine blk_drewN ?_ _ | refine blk_drew ?_ | refine blk_alloc ?_ _)); exact BK265.out⟩, ⟨by repeat (first | (with_reducible first | exact HB.out | apply below_alloc | apply pw_below_drewN | apply below_drew1 | refine below_set ?_ GE265.out) | exact HB.out)⟩⟩
            · rw [if_neg c20] at H
              have c20b0 : (a0_0 == 8) = false := beq_eq_false_iff_ne.mpr c20
              have c20b1 : (a0_0 != 8) = true := bne_iff_ne.mpr c20
              (first | rw [c20b0] | (simp only [i64_w, i32_w]; rw [c20b0]) | skip)
              by_cases c22 : a0_0 = 11
              · rw [if_pos c22] at H
                have c22b0 : (a0_0 == 11) = true := beq_iff_eq.mpr c22
                have c22b1 : (a0_0 != 11) = false := bne_eq_false_iff_eq.mpr c22
                clear c22
                have H' := Aside0.mk H
                clear H
                have hcz23_0 : wc.cell? ⟨gb265, 0, none⟩ = some (.int .i64 a0_0) := (blk_cell BK265.out 0).trans rfl
                have hcz23_1 : wc.cell? ⟨gb265, 1, none⟩ = some (.bool a0_1) := (blk_cell BK265.out 1).trans rfl
                have hcz23_2 : wc.cell? ⟨gb265, 2, none⟩ = some (.int .i64 a0_2) := (blk_cell BK265.out 2).trans rfl
                have hfz23_0 := blk_frozen BK265.out 0
                have hfz23_1 := blk_frozen BK265.out 1
                have hfz23_2 := blk_frozen BK265.out 2
                go_wp2
                go_meet
                case rel => exact ⟨_, (true), (by first | rfl | (simp; done) | (simp [*]; done)), H', ⟨by have := HJ5.out; first | omega | exact Nat.le_refl _⟩, ⟨by (with_reducible repeat (first | refine blk_drewN ?_ _ | refine blk_drew ?_ | refine blk_alloc ?_ _)); exact BK265.out⟩, ⟨by repeat (first | (with_reducible first | exact HB.out | apply below_alloc | apply pw_below_drewN | apply below_drew1 | refine below_set ?_ GE265.out) | exact HB.out)⟩⟩
              · rw [if_neg c22] at H
                have c22b0 : (a0_0 == 11) = false := beq_eq_false_iff_ne.mpr c22
                have c22b1 : (a0_0 != 11) = true := bne_iff_ne.mpr c22
                have H' := Aside0.mk H
                clear H
                have hcz24_0 : wc.cell? ⟨gb265, 0, none⟩ = some (.int .i64 a0_0) := (blk_cell BK265.out 0).trans rfl
                have hcz24_1 : wc.cell? ⟨gb265, 1, none⟩ = some (.bool a0_1) := (blk_cell BK265.out 1).trans rfl
                have hcz24_2 : wc.cell? ⟨gb265, 2, none⟩ = some (.int .i64 a0_2) := (blk_cell BK265.out 2).trans rfl
                have hfz24_0 := blk_frozen BK265.out 0
                have hfz24_1 := blk_frozen BK265.out 1
                have hfz24_2 := blk_frozen BK265.out 2
                go_wp2
                go_meet
                case rel => exact ⟨_, ((a0_0 == 12)), (by first | rfl | (simp; done) | (simp [*]; done)), H', ⟨by have := HJ5.out; first | omega | exact Nat.le_refl _⟩, ⟨by (with_reducible repeat (first | refine blk_drewN ?_ _ | refine blk_drew ?_ | refine blk_alloc ?_ _)); exact BK265.out⟩, ⟨by repeat (first | (with_reducible first | exact HB.out | apply below_alloc | apply pw_below_drewN | apply below_drew1 | refine below_set ?_ GE265.out) | exact HB.out)⟩⟩
          case rest =>
            clear HC19
            try clear c1
            try clear c2
            try clear p2
            try clear c5
            try clear c9
            try clear c9b0
            try clear c11
            try clear c11b0
            try clear c13
            try clear c13b0
            try clear c15
            try clear c15b0
            try clear c18
            try clear c20
            try clear c20b0
            try clear c20b1
            try clear c22
            try clear c22b0
            try clear c22b1
            try clear hcz10_0
            try clear hcz10_1
            try clear hcz10_2
            try clear hcz12_0
            try clear hcz12_1
            try clear hcz12_2
            try clear hcz14_0
            try clear hcz14_1
            try clear hcz14_2
            try clear hcz16_0
            try clear hcz16_1
            try clear hcz16_2
            try clear hcz17_0
            try clear hcz17_1
            try clear hcz17_2
            try clear hcz21_0
            try clear hcz21_1
            try clear hcz21_2
            try clear hcz23_0
            try clear hcz23_1
            try clear hcz23_2
            try clear hcz24_0
            try clear hcz24_1
            try clear hcz24_2
            try clear hfz10_0
            try clear hfz10_1
            try clear hfz10_2
            try clear hfz12_0
            try clear hfz12_1
            try clear hfz12_2
            try clear hfz14_0
            try clear hfz14_1
            try clear hfz14_2
            try clear hfz16_0
            try clear hfz16_1
            try clear hfz16_2
            try clear hfz17_0
            try clear hfz17_1
            try clear hfz17_2
            try clear hfz21_0
            try clear hfz21_1
            try clear hfz21_2
            try clear hfz23_0
            try clear hfz23_1
            try clear hfz23_2
            try clear hfz24_0
            try clear hfz24_1
            try clear hfz24_2
            try clear p2
            obtain ⟨kq, x7_18, rfl, HA, HJ18, BK265, HB⟩ := hcut
            cases kq with
            | zero => exact absurd HA.out (by simp [packhorselaw14_SagaUndoes.j1])
            | succ kj18 =>
              have H := HA.out
              clear HA
              simp only [packhorselaw14_SagaUndoes.j1] at H
              have H' := Aside0.mk H
              clear H
              have hcz25_0 : wc.cell? ⟨gb265, 0, none⟩ = some (.int .i64 a0_0) := (blk_cell BK265.out 0).trans rfl
              have hcz25_1 : wc.cell? ⟨gb265, 1, none⟩ = some (.bool a0_1) := (blk_cell BK265.out 1).trans rfl
              have hcz25_2 : wc.cell? ⟨gb265, 2, none⟩ = some (.int .i64 a0_2) := (blk_cell BK265.out 2).trans rfl
              have hfz25_0 := blk_frozen BK265.out 0
              have hfz25_1 := blk_frozen BK265.out 1
              have hfz25_2 := blk_frozen BK265.out 2
              go_wp2_with (first | ((with_reducible refine gate_dst (N := 8) rfl ?_); (try (refine gate_guard (by rfl) ?_; dsimp only)); refine box_event ?hg (N := 8) ?hd (cs := #[.int .i64 0, .bool false, .int .i64 0]) (t := 23) ?hr ?_; (case hd => rfl); (case hg => rfl); (case hr => first | (go_simp; done) | (go_simp; rfl)); intro gb267 hg w26 hbox hb; have n0_ := Aside0.mk (blk_below (g := gb265) (o := .cells #[.int .i64 a0_0, .bool a0_1, .int .i64 a0_2] 23 (0, 0)) (by (with_reducible repeat (first | refine blk_drewN ?_ _ | refine blk_drew ?_ | refine blk_alloc ?_ _)); exact BK265.out) hb); have n1_ := Aside0.mk (below_step (by repeat (first | (with_reducible first | exact HB.out | apply below_alloc | apply pw_below_drewN | apply below_drew1 | refine below_set ?_ GE265.out) | exact HB.out)) hb); have n2_ := Aside0.mk (hbox); have n3_ := Aside0.mk ((by rw [hg]; exact (below_size (by repeat (first | (with_reducible first | exact HB.out | apply below_alloc | apply pw_below_drewN | apply below_drew1 | refine below_set ?_ GE265.out) | exact HB.out))) : w.heap.size ≤ gb267)); have n4_ := Aside0.mk ((by rw [hg]; exact (below_size (by repeat (first | (with_reducible first | exact HB.out | apply below_alloc | apply pw_below_drewN | apply below_drew1 | refine below_set ?_ GE265.out) | exact HB.out))) : w.heap.size ≤ gb267)); have n5_ := Aside0.mk ((by rw [hg]; exact Nat.ne_of_lt (blk_lt (g := gb265) (o := .cells #[.int .i64 a0_0, .bool a0_1, .int .i64 a0_2] 23 (0, 0)) (by (with_reducible repeat (first | refine blk_drewN ?_ _ | refine blk_drew ?_ | refine blk_alloc ?_ _)); exact BK265.out)) : gb265 ≠ gb267)); have n6_ := Aside0.mk ((by rw [hg]; exact Nat.ne_of_gt (blk_lt (g := gb265) (o := .cells #[.int .i64 a0_0, .bool a0_1, .int .i64 a0_2] 23 (0, 0)) (by (with_reducible repeat (first | refine blk_drewN ?_ _ | refine blk_drew ?_ | refine blk_alloc ?_ _)); exact BK265.out)) : gb267 ≠ gb265)); clear BK265; clear HB; have BK265 := n0_; have HB := n1_; have BK267 := n2_; have GW267 := n3_; have GE267 := n4_; have NB265_267 := n5_; have NB267_265 := n6_; clear n0_ n1_ n2_ n3_ n4_ n5_ n6_; clear hb hbox hg; have hnb27 := NB267_265.out; have hnc27 := NB265_267.out; have hcz28_0 : w26.cell? ⟨gb267, 0, none⟩ = some (.int .i64 0) := (blk_cell BK267.out 0).trans rfl; have hcz28_1 : w26.cell? ⟨gb267, 1, none⟩ = some (.bool false) := (blk_cell BK267.out 1).trans rfl; have hcz28_2 : w26.cell? ⟨gb267, 2, none⟩ = some (.int .i64 0) := (blk_cell BK267.out 2).trans rfl; have hfz28_0 := blk_frozen BK267.out 0; have hfz28_1 := blk_frozen BK267.out 1; have hfz28_2 := blk_frozen BK267.out 2))
              go_loopg [55] kj18 (fun kq v55 w' => ∃ (x55_3 : Int) (x266000_3 : Int) (x266001_3 : Bool) (x266002_3 : Int), v55 = .int .i64 x55_3 ∧ Aside0 (packhorselaw14_SagaUndoes.l0 kq a2 x7_18 l1 (l1.length : Int) x55_3 x266000_3 x266001_3 x266002_3 a0_0 a0_1 a0_2 = some r) ∧ Aside0 (kq ≤ kj18) ∧ Aside0 (w'.heap[gb265]? = some (.cells #[.int .i64 x266000_3, .bool x266001_3, .int .i64 x266002_3] 23 (0, 0))) ∧ Aside0 (w'.heap[gb267]? = some (.cells #[.int .i64 a0_0, .bool a0_1, .int .i64 a0_2] 23 (0, 0))) ∧ Aside0 (Below w.heap.size w w'))
              case atStart => exact ⟨(0), (a0_0), (a0_1), (a0_2), (by first | rfl | (simp; done) | (simp [*]; done)), H', ⟨Nat.le_refl _⟩, ⟨by (with_reducible repeat (first | refine blk_drewN ?_ _ | refine blk_drew ?_ | refine blk_alloc ?_ _)); refine blk_far ?_ NB265_267.out _; (with_reducible repeat (first | refine blk_drewN ?_ _ | refine blk_drew ?_ | refine blk_alloc ?_ _)); refine blk_far ?_ NB265_267.out _; (with_reducible repeat (first | refine blk_drewN ?_ _ | refine blk_drew ?_ | refine blk_alloc ?_ _)); refine blk_far ?_ NB265_267.out _; (with_reducible repeat (first | refine blk_drewN ?_ _ | refine blk_drew ?_ | refine blk_alloc ?_ _)); exact BK265.out⟩, ⟨by (with_reducible repeat (first | refine blk_drewN ?_ _ | refine blk_drew ?_ | refine blk_alloc ?_ _)); refine blk_put (cs := #[.int .i64 a0_0, .bool a0_1, .int .i64 0]) ?_ 2 _ rfl; (with_reducible repeat (first | refine blk_drewN ?_ _ | refine blk_drew ?_ | refine blk_alloc ?_ _)); refine blk_put (cs := #[.int .i64 a0_0, .bool false, .int .i64 0]) ?_ 1 _ rfl; (with_reducible repeat (first | refine blk_drewN ?_ _ | refine blk_drew ?_ | refine blk_alloc ?_ _)); refine blk_put (cs := #[.int .i64 0, .bool false, .int .i64 0]) ?_ 0 _ rfl; (with_reducible repeat (first | refine blk_drewN ?_ _ | refine blk_drew ?_ | refine blk_alloc ?_ _)); exact BK267.out⟩, ⟨by repeat (first | (with_reducible first | exact HB.out | apply below_alloc | apply pw_below_drewN | apply below_drew1 | refine below_set ?_ GE265.out | refine below_set ?_ GE267.out) | exact HB.out)⟩⟩
              case round =>
                clear H'
                try clear c1
                try clear c2
                try clear p2
                try clear c5
                try clear c9
                try clear c9b0
                try clear c11
                try clear c11b0
                try clear c13
                try clear c13b0
                try clear c15
                try clear c15b0
                try clear c18
                try clear c20
                try clear c20b0
                try clear c20b1
                try clear c22
                try clear c22b0
                try clear c22b1
                try clear c27
                try clear hcz10_0
                try clear hcz10_1
                try clear hcz10_2
                try clear hcz12_0
                try clear hcz12_1
                try clear hcz12_2
                try clear hcz14_0
                try clear hcz14_1
                try clear hcz14_2
                try clear hcz16_0
                try clear hcz16_1
                try clear hcz16_2
                try clear hcz17_0
                try clear hcz17_1
                try clear hcz17_2
                try clear hcz21_0
                try clear hcz21_1
                try clear hcz21_2
                try clear hcz23_0
                try clear hcz23_1
                try clear hcz23_2
                try clear hcz24_0
                try clear hcz24_1
                try clear hcz24_2
                try clear hcz25_0
                try clear hcz25_1
                try clear hcz25_2
                try clear hcz28_0
                try clear hcz28_1
                try clear hcz28_2
                try clear hfz10_0
                try clear hfz10_1
                try clear hfz10_2
                try clear hfz12_0
                try clear hfz12_1
                try clear hfz12_2
                try clear hfz14_0
                try clear hfz14_1
                try clear hfz14_2
                try clear hfz16_0
                try clear hfz16_1
                try clear hfz16_2
                try clear hfz17_0
                try clear hfz17_1
                try clear hfz17_2
                try clear hfz21_0
                try clear hfz21_1
                try clear hfz21_2
                try clear hfz23_0
                try clear hfz23_1
                try clear hfz23_2
                try clear hfz24_0
                try clear hfz24_1
                try clear hfz24_2
                try clear hfz25_0
                try clear hfz25_1
                try clear hfz25_2
                try clear hfz28_0
                try clear hfz28_1
                try clear hfz28_2
                try clear p2
                obtain ⟨x55_3, x266000_3, x266001_3, x266002_3, rfl, HA, HK3, BK265, BK267, HB⟩ := hrel
                cases gk with
                | zero => exact absurd HA.out (by simp [packhorselaw14_SagaUndoes.l0])
                | succ k3 =>
                  have H := HA.out
                  clear HA
                  simp only [packhorselaw14_SagaUndoes.l0] at H
                  by_cases c29 : x55_3 < (l1.length : Int)
                  · rw [if_pos c29] at H
                    have c29b0 : decide (x55_3 < (l1.length : Int)) = true := decide_eq_true c29
                    clear c29
                    by_cases c30 : 0 ≤ x55_3
                    · rw [if_pos c30] at H
                      have c30b0 : decide (0 ≤ x55_3) = true := decide_eq_true c30
                      clear c30
                      by_cases c31 : x55_3 < (l1.length : Int)
                      · rw [if_pos c31] at H
                        have c31b0 : decide (x55_3 < (l1.length : Int)) = true := decide_eq_true c31
                        clear c31
                        replace H := Option.bind_eq_some_iff.mp H
                        obtain ⟨⟨t269, t270, t271, t272, t273⟩, A320, H⟩ := H
                        replace H : (if x7_18 = true then (if (!(t269 == a0_0) || (!(t270 == a0_1) || (!(t271 == a0_2)))) = true then (some false) else (if t269 < x266000_3 then (if t273 = 0 then (some false) else (if t269 < 8 then (some false) else (packhorselaw14_SagaUndoes.l0 k3 a2 x7_18 l1 (l1.length : Int) (wrap64 (x55_3 + 1)) t269 t270 t271 a0_0 a0_1 a0_2))) else (if t269 < 8 then (some false) else (packhorselaw14_SagaUndoes.l0 k3 a2 x7_18 l1 (l1.length : Int) (wrap64 (x55_3 + 1)) t269 t270 t271 a0_0 a0_1 a0_2)))) else (if t269 < x266000_3 then (if t273 = 0 then (some false) else (if t269 < 8 then (some false) else (packhorselaw14_SagaUndoes.l0 k3 a2 x7_18 l1 (l1.length : Int) (wrap64 (x55_3 + 1)) t269 t270 t271 a0_0 a0_1 a0_2))) else (if t269 < 8 then (some false) else (packhorselaw14_SagaUndoes.l0 k3 a2 x7_18 l1 (l1.length : Int) (wrap64 (x55_3 + 1)) t269 t270 t271 a0_0 a0_1 a0_2)))) = some r := H
                        have A32 := Aside0.mk A320
                        clear A320
                        by_cases c33 : x7_18 = true
                        · subst c33
                          have H1 : (if (!(t269 == a0_0) || (!(t270 == a0_1) || (!(t271 == a0_2)))) = true then (some false) else (if t269 < x266000_3 then (if t273 = 0 then (some false) else (if t269 < 8 then (some false) else (packhorselaw14_SagaUndoes.l0 k3 a2 true l1 (l1.length : Int) (wrap64 (x55_3 + 1)) t269 t270 t271 a0_0 a0_1 a0_2))) else (if t269 < 8 then (some false) else (packhorselaw14_SagaUndoes.l0 k3 a2 true l1 (l1.length : Int) (wrap64 (x55_3 + 1)) t269 t270 t271 a0_0 a0_1 a0_2)))) = some r := by rw [if_pos rfl] at H; exact H
                          clear H
                          have H := H1
                          clear H1
                          by_cases c34 : (!(t269 == a0_0) || (!(t270 == a0_1) || (!(t271 == a0_2)))) = true
                          · rw [if_pos c34] at H
                            have c34b0 : (!(t269 == a0_0) || (!(t270 == a0_1) || (!(t271 == a0_2)))) = true := c34
                            clear c34
                            obtain rfl := Option.some.inj H
                            have p268 : 0 ≤ (x55_3 : Int) := of_decide_eq_true (by first | (with_reducible assumption) | assumption)
                            have q268 : x55_3 < (l1.length : Int) := of_decide_eq_true (by first | (with_reducible assumption) | assumption)
                            obtain ⟨ad268, e268, hx268_0⟩ := Kd.at_int HR1.out x55_3 p268 q268
                            cases e268
                            replace hx268_0 := (HB.out.cell (World.block_lt_of_cell? w _ hx268_0)).trans hx268_0
                            replace p268 := eq_true p268
                            replace q268 := eq_true q268
                            have hnb35 := NB265_267.out
                            have hnc35 := NB267_265.out
                            have hcz36_0 : wr.cell? ⟨gb265, 0, none⟩ = some (.int .i64 x266000_3) := (blk_cell BK265.out 0).trans rfl
                            have hcz36_1 : wr.cell? ⟨gb265, 1, none⟩ = some (.bool x266001_3) := (blk_cell BK265.out 1).trans rfl
                            have hcz36_2 : wr.cell? ⟨gb265, 2, none⟩ = some (.int .i64 x266002_3) := (blk_cell BK265.out 2).trans rfl
                            have hfz36_0 := blk_frozen BK265.out 0
                            have hfz36_1 := blk_frozen BK265.out 1
                            have hfz36_2 := blk_frozen BK265.out 2
                            go_wp2_with (first | ((with_reducible refine gate_callee (f := 10) rfl ?_); refine goesL_ (some 63) rfl rfl Try.func10 (by kernel_rfl) rfl #[.agg #[.int .i64 x266000_3, .bool x266001_3, .int .i64 x266002_3], .int .i64 (rd l1 x55_3), .int .i64 a2] rfl (by (try simp only [List.map_toArray, List.map_cons, List.map_nil]); first | done | rfl | (simp only [List.length_drop, List.length_take]; rfl)) ?_; (with_reducible refine (saga_Step.calls k3 x266000_3 x266001_3 x266002_3 (rd l1 x55_3) a2 t269 t270 t271 t272 t273 _ A32.out).mono ?_); rintro e w37 ⟨rfl, hb⟩; refine ⟨_, rfl, ?_⟩; have n0_ := Aside0.mk (blk_below (g := gb265) (o := .cells #[.int .i64 x266000_3, .bool x266001_3, .int .i64 x266002_3] 23 (0, 0)) (by (with_reducible repeat (first | refine blk_drewN ?_ _ | refine blk_drew ?_ | refine blk_alloc ?_ _)); exact BK265.out) hb); have n1_ := Aside0.mk (blk_below (g := gb267) (o := .cells #[.int .i64 a0_0, .bool a0_1, .int .i64 a0_2] 23 (0, 0)) (by (with_reducible repeat (first | refine blk_drewN ?_ _ | refine blk_drew ?_ | refine blk_alloc ?_ _)); exact BK267.out) hb); have n2_ := Aside0.mk (below_step (by repeat (first | (with_reducible first | exact HB.out | apply below_alloc | apply pw_below_drewN | apply below_drew1 | refine below_set ?_ GE265.out | refine below_set ?_ GE267.out) | exact HB.out)) hb); clear BK265; clear BK267; clear HB; have BK265 := n0_; have BK267 := n1_; have HB := n2_; clear n0_ n1_ n2_; (try clear hb); (try clear hb2); (try clear hk); (try clear hi)) | ((with_reducible refine gate_dst (N := 11) rfl ?_); (try (refine gate_guard (by rfl) ?_; dsimp only)); refine box_event ?hg (N := 11) ?hd (cs := #[.int .i64 0, .bool false, .int .i64 0]) (t := 23) ?hr ?_; (case hd => rfl); (case hg => rfl); (case hr => first | (go_simp; done) | (go_simp; rfl)); intro gb274 hg w38 hbox hb; have n0_ := Aside0.mk (blk_below (g := gb265) (o := .cells #[.int .i64 x266000_3, .bool x266001_3, .int .i64 x266002_3] 23 (0, 0)) (by (with_reducible repeat (first | refine blk_drewN ?_ _ | refine blk_drew ?_ | refine blk_alloc ?_ _)); exact BK265.out) hb); have n1_ := Aside0.mk (blk_below (g := gb267) (o := .cells #[.int .i64 a0_0, .bool a0_1, .int .i64 a0_2] 23 (0, 0)) (by (with_reducible repeat (first | refine blk_drewN ?_ _ | refine blk_drew ?_ | refine blk_alloc ?_ _)); exact BK267.out) hb); have n2_ := Aside0.mk (below_step (by repeat (first | (with_reducible first | exact HB.out | apply below_alloc | apply pw_below_drewN | apply below_drew1 | refine below_set ?_ GE265.out | refine below_set ?_ GE267.out) | exact HB.out)) hb); have n3_ := Aside0.mk (hbox); have n4_ := Aside0.mk ((by rw [hg]; exact (below_size (by repeat (first | (with_reducible first | exact HB.out | apply below_alloc | apply pw_below_drewN | apply below_drew1 | refine below_set ?_ GE265.out | refine below_set ?_ GE267.out) | exact HB.out))) : w.heap.size ≤ gb274)); have n5_ := Aside0.mk ((by rw [hg]; exact (below_size (by repeat (first | (with_reducible first | exact HB.out | apply below_alloc | apply pw_below_drewN | apply below_drew1 | refine below_set ?_ GE265.out | refine below_set ?_ GE267.out) | exact HB.out))) : w.heap.size ≤ gb274)); have n6_ := Aside0.mk ((by rw [hg]; exact Nat.ne_of_lt (blk_lt (g := gb265) (o := .cells #[.int .i64 x266000_3, .bool x266001_3, .int .i64 x266002_3] 23 (0, 0)) (by (with_reducible repeat (first | refine blk_drewN ?_ _ | refine blk_drew ?_ | refine blk_alloc ?_ _)); exact BK265.out)) : gb265 ≠ gb274)); have n7_ := Aside0.mk ((by rw [hg]; exact Nat.ne_of_gt (blk_lt (g := gb265) (o := .cells #[.int .i64 x266000_3, .bool x266001_3, .int .i64 x266002_3] 23 (0, 0)) (by (with_reducible repeat (first | refine blk_drewN ?_ _ | refine blk_drew ?_ | refine blk_alloc ?_ _)); exact BK265.out)) : gb274 ≠ gb265)); have n8_ := Aside0.mk ((by rw [hg]; exact Nat.ne_of_lt (blk_lt (g := gb267) (o := .cells #[.int .i64 a0_0, .bool a0_1, .int .i64 a0_2] 23 (0, 0)) (by (with_reducible repeat (first | refine blk_drewN ?_ _ | refine blk_drew ?_ | refine blk_alloc ?_ _)); exact BK267.out)) : gb267 ≠ gb274)); have n9_ := Aside0.mk ((by rw [hg]; exact Nat.ne_of_gt (blk_lt (g := gb267) (o := .cells #[.int .i64 a0_0, .bool a0_1, .int .i64 a0_2] 23 (0, 0)) (by (with_reducible repeat (first | refine blk_drewN ?_ _ | refine blk_drew ?_ | refine blk_alloc ?_ _)); exact BK267.out)) : gb274 ≠ gb267)); clear BK265; clear BK267; clear HB; have BK265 := n0_; have BK267 := n1_; have HB := n2_; have BK274 := n3_; have GW274 := n4_; have GE274 := n5_; have NB265_274 := n6_; have NB274_265 := n7_; have NB267_274 := n8_; have NB274_267 := n9_; clear n0_ n1_ n2_ n3_ n4_ n5_ n6_ n7_ n8_ n9_; clear hb hbox hg; have hnb39 := NB274_265.out; have hnc39 := NB265_274.out; have hnb40 := NB274_267.out; have hnc40 := NB267_274.out; have hcz41_0 : w38.cell? ⟨gb274, 0, none⟩ = some (.int .i64 0) := (blk_cell BK274.out 0).trans rfl; have hcz41_1 : w38.cell? ⟨gb274, 1, none⟩ = some (.bool false) := (blk_cell BK274.out 1).trans rfl; have hcz41_2 : w38.cell? ⟨gb274, 2, none⟩ = some (.int .i64 0) := (blk_cell BK274.out 2).trans rfl; have hfz41_0 := blk_frozen BK274.out 0; have hfz41_1 := blk_frozen BK274.out 1; have hfz41_2 := blk_frozen BK274.out 2; have hcz42_0 : w38.cell? ⟨gb267, 0, none⟩ = some (.int .i64 a0_0) := (blk_cell BK267.out 0).trans rfl; have hcz42_1 : w38.cell? ⟨gb267, 1, none⟩ = some (.bool a0_1) := (blk_cell BK267.out 1).trans rfl; have hcz42_2 : w38.cell? ⟨gb267, 2, none⟩ = some (.int .i64 a0_2) := (blk_cell BK267.out 2).trans rfl; have hfz42_0 := blk_frozen BK267.out 0; have hfz42_1 := blk_frozen BK267.out 1; have hfz42_2 := blk_frozen BK267.out 2))
                            go_ret
                            exact ⟨by first | rfl | (simp [errW_none, errW_some] <;> rfl) | (simp [*, errW_none, errW_some] <;> rfl), by repeat (first | (with_reducible first | exact HB.out | apply below_alloc | apply pw_below_drewN | apply below_drew1 | refine below_set ?_ GE265.out | refine below_set ?_ GE267.out | refine below_set ?_ GE274.out) | exact HB.out)⟩
                          · rw [if_neg c34] at H
                            have c34b0 : (!(t269 == a0_0) || (!(t270 == a0_1) || (!(t271 == a0_2)))) = false := by simpa using c34
                            clear c34
                            by_cases c43 : t269 < x266000_3
                            · rw [if_pos c43] at H
                              have c43b0 : decide (t269 < x266000_3) = true := decide_eq_true c43
                              clear c43
                              by_cases c44 : t273 = 0
                              · rw [if_pos c44] at H
                                have c44b0 : (t273 == 0) = true := beq_iff_eq.mpr c44
                                have c44b1 : (t273 != 0) = false := bne_eq_false_iff_eq.mpr c44
                                clear c44
                                obtain rfl := Option.some.inj H
                                have p268 : 0 ≤ (x55_3 : Int) := of_decide_eq_true (by first | (with_reducible assumption) | assumption)
                                have q268 : x55_3 < (l1.length : Int) := of_decide_eq_true (by first | (with_reducible assumption) | assumption)
                                obtain ⟨ad268, e268, hx268_0⟩ := Kd.at_int HR1.out x55_3 p268 q268
                                cases e268
                                replace hx268_0 := (HB.out.cell (World.block_lt_of_cell? w _ hx268_0)).trans hx268_0
                                replace p268 := eq_true p268
                                replace q268 := eq_true q268
                                have hnb45 := NB265_267.out
                                have hnc45 := NB267_265.out
                                have hcz46_0 : wr.cell? ⟨gb265, 0, none⟩ = some (.int .i64 x266000_3) := (blk_cell BK265.out 0).trans rfl
                                have hcz46_1 : wr.cell? ⟨gb265, 1, none⟩ = some (.bool x266001_3) := (blk_cell BK265.out 1).trans rfl
                                have hcz46_2 : wr.cell? ⟨gb265, 2, none⟩ = some (.int .i64 x266002_3) := (blk_cell BK265.out 2).trans rfl
                                have hfz46_0 := blk_frozen BK265.out 0
                                have hfz46_1 := blk_frozen BK265.out 1
                                have hfz46_2 := blk_frozen BK265.out 2
                                go_wp2_with (first | ((with_reducible refine gate_callee (f := 10) rfl ?_); refine goesL_ (some 63) rfl rfl Try.func10 (by kernel_rfl) rfl #[.agg #[.int .i64 x266000_3, .bool x266001_3, .int .i64 x266002_3], .int .i64 (rd l1 x55_3), .int .i64 a2] rfl (by (try simp only [List.map_toArray, List.map_cons, List.map_nil]); first | done | rfl | (simp only [List.length_drop, List.length_take]; rfl)) ?_; (with_reducible refine (saga_Step.calls k3 x266000_3 x266001_3 x266002_3 (rd l1 x55_3) a2 t269 t270 t271 t272 t273 _ A32.out).mono ?_); rintro e w47 ⟨rfl, hb⟩; refine ⟨_, rfl, ?_⟩; have n0_ := Aside0.mk (blk_below (g := gb265) (o := .cells #[.int .i64 x266000_3, .bool x266001_3, .int .i64 x266002_3] 23 (0, 0)) (by (with_reducible repeat (first | refine blk_drewN ?_ _ | refine blk_drew ?_ | refine blk_alloc ?_ _)); exact BK265.out) hb); have n1_ := Aside0.mk (blk_below (g := gb267) (o := .cells #[.int .i64 a0_0, .bool a0_1, .int .i64 a0_2] 23 (0, 0)) (by (with_reducible repeat (first | refine blk_drewN ?_ _ | refine blk_drew ?_ | refine blk_alloc ?_ _)); exact BK267.out) hb); have n2_ := Aside0.mk (below_step (by repeat (first | (with_reducible first | exact HB.out | apply below_alloc | apply pw_below_drewN | apply below_drew1 | refine below_set ?_ GE265.out | refine below_set ?_ GE267.out) | exact HB.out)) hb); clear BK265; clear BK267; clear HB; have BK265 := n0_; have BK267 := n1_; have HB := n2_; clear n0_ n1_ n2_; (try clear hb); (try clear hb2); (try clear hk); (try clear hi)) | ((with_reducible refine gate_dst (N := 11) rfl ?_); (try (refine gate_guard (by rfl) ?_; dsimp only)); refine box_event ?hg (N := 11) ?hd (cs := #[.int .i64 0, .bool false, .int .i64 0]) (t := 23) ?hr ?_; (case hd => rfl); (case hg => rfl); (case hr => first | (go_simp; done) | (go_simp; rfl)); intro gb274 hg w48 hbox hb; have n0_ := Aside0.mk (blk_below (g := gb265) (o := .cells #[.int .i64 x266000_3, .bool x266001_3, .int .i64 x266002_3] 23 (0, 0)) (by (with_reducible repeat (first | refine blk_drewN ?_ _ | refine blk_drew ?_ | refine blk_alloc ?_ _)); exact BK265.out) hb); have n1_ := Aside0.mk (blk_below (g := gb267) (o := .cells #[.int .i64 a0_0, .bool a0_1, .int .i64 a0_2] 23 (0, 0)) (by (with_reducible repeat (first | refine blk_drewN ?_ _ | refine blk_drew ?_ | refine blk_alloc ?_ _)); exact BK267.out) hb); have n2_ := Aside0.mk (below_step (by repeat (first | (with_reducible first | exact HB.out | apply below_alloc | apply pw_below_drewN | apply below_drew1 | refine below_set ?_ GE265.out | refine below_set ?_ GE267.out) | exact HB.out)) hb); have n3_ := Aside0.mk (hbox); have n4_ := Aside0.mk ((by rw [hg]; exact (below_size (by repeat (first | (with_reducible first | exact HB.out | apply below_alloc | apply pw_below_drewN | apply below_drew1 | refine below_set ?_ GE265.out | refine below_set ?_ GE267.out) | exact HB.out))) : w.heap.size ≤ gb274)); have n5_ := Aside0.mk ((by rw [hg]; exact (below_size (by repeat (first | (with_reducible first | exact HB.out | apply below_alloc | apply pw_below_drewN | apply below_drew1 | refine below_set ?_ GE265.out | refine below_set ?_ GE267.out) | exact HB.out))) : w.heap.size ≤ gb274)); have n6_ := Aside0.mk ((by rw [hg]; exact Nat.ne_of_lt (blk_lt (g := gb265) (o := .cells #[.int .i64 x266000_3, .bool x266001_3, .int .i64 x266002_3] 23 (0, 0)) (by (with_reducible repeat (first | refine blk_drewN ?_ _ | refine blk_drew ?_ | refine blk_alloc ?_ _)); exact BK265.out)) : gb265 ≠ gb274)); have n7_ := Aside0.mk ((by rw [hg]; exact Nat.ne_of_gt (blk_lt (g := gb265) (o := .cells #[.int .i64 x266000_3, .bool x266001_3, .int .i64 x266002_3] 23 (0, 0)) (by (with_reducible repeat (first | refine blk_drewN ?_ _ | refine blk_drew ?_ | refine blk_alloc ?_ _)); exact BK265.out)) : gb274 ≠ gb265)); have n8_ := Aside0.mk ((by rw [hg]; exact Nat.ne_of_lt (blk_lt (g := gb267) (o := .cells #[.int .i64 a0_0, .bool a0_1, .int .i64 a0_2] 23 (0, 0)) (by (with_reducible repeat (first | refine blk_drewN ?_ _ | refine blk_drew ?_ | refine blk_alloc ?_ _)); exact BK267.out)) : gb267 ≠ gb274)); have n9_ := Aside0.mk ((by rw [hg]; exact Nat.ne_of_gt (blk_lt (g := gb267) (o := .cells #[.int .i64 a0_0, .bool a0_1, .int .i64 a0_2] 23 (0, 0)) (by (with_reducible repeat (first | refine blk_drewN ?_ _ | refine blk_drew ?_ | refine blk_alloc ?_ _)); exact BK267.out)) : gb274 ≠ gb267)); clear BK265; clear BK267; clear HB; have BK265 := n0_; have BK267 := n1_; have HB := n2_; have BK274 := n3_; have GW274 := n4_; have GE274 := n5_; have NB265_274 := n6_; have NB274_265 := n7_; have NB267_274 := n8_; have NB274_267 := n9_; clear n0_ n1_ n2_ n3_ n4_ n5_ n6_ n7_ n8_ n9_; clear hb hbox hg; have hnb49 := NB274_265.out; have hnc49 := NB265_274.out; have hnb50 := NB274_267.out; have hnc50 := NB267_274.out; have hcz51_0 : w48.cell? ⟨gb274, 0, none⟩ = some (.int .i64 0) := (blk_cell BK274.out 0).trans rfl; have hcz51_1 : w48.cell? ⟨gb274, 1, none⟩ = some (.bool false) := (blk_cell BK274.out 1).trans rfl; have hcz51_2 : w48.cell? ⟨gb274, 2, none⟩ = some (.int .i64 0) := (blk_cell BK274.out 2).trans rfl; have hfz51_0 := blk_frozen BK274.out 0; have hfz51_1 := blk_frozen BK274.out 1; have hfz51_2 := blk_frozen BK274.out 2; have hcz52_0 : w48.cell? ⟨gb267, 0, none⟩ = some (.int .i64 a0_0) := (blk_cell BK267.out 0).trans rfl; have hcz52_1 : w48.cell? ⟨gb267, 1, none⟩ = some (.bool a0_1) := (blk_cell BK267.out 1).trans rfl; have hcz52_2 : w48.cell? ⟨gb267, 2, none⟩ = some (.int .i64 a0_2) := (blk_cell BK267.out 2).trans rfl; have hfz52_0 := blk_frozen BK267.out 0; have hfz52_1 := blk_frozen BK267.out 1; have hfz52_2 := blk_frozen BK267.out 2; have hcz53_0 : w48.cell? ⟨gb265, 0, none⟩ = some (.int .i64 x266000_3) := (blk_cell BK265.out 0).trans rfl; have hcz53_1 : w48.cell? ⟨gb265, 1, none⟩ = some (.bool x266001_3) := (blk_cell BK265.out 1).trans rfl; have hcz53_2 : w48.cell? ⟨gb265, 2, none⟩ = some (.int .i64 x266002_3) := (blk_cell BK265.out 2).trans rfl; have hfz53_0 := blk_frozen BK265.out 0; have hfz53_1 := blk_frozen BK265.out 1; have hfz53_2 := blk_frozen BK265.out 2))
                                go_ret
                                exact ⟨by first | rfl | (simp [errW_none, errW_some] <;> rfl) | (simp [*, errW_none, errW_some] <;> rfl), by repeat (first | (with_reducible first | exact HB.out | apply below_alloc | apply pw_below_drewN | apply below_drew1 | refine below_set ?_ GE265.out | refine below_set ?_ GE267.out | refine below_set ?_ GE274.out) | exact HB.out)⟩
                              · rw [if_neg c44] at H
                                have c44b0 : (t273 == 0) = false := beq_eq_false_iff_ne.mpr c44
                                have c44b1 : (t273 != 0) = true := bne_iff_ne.mpr c44
                                by_cases c54 : t269 < 8
                                · rw [if_pos c54] at H
                                  have c54b0 : decide (t269 < 8) = true := decide_eq_true c54
                                  clear c54
                                  obtain rfl := Option.some.inj H
                                  have p268 : 0 ≤ (x55_3 : Int) := of_decide_eq_true (by first | (with_reducible assumption) | assumption)
                                  have q268 : x55_3 < (l1.length : Int) := of_decide_eq_true (by first | (with_reducible assumption) | assumption)
                                  obtain ⟨ad268, e268, hx268_0⟩ := Kd.at_int HR1.out x55_3 p268 q268
                                  cases e268
                                  replace hx268_0 := (HB.out.cell (World.block_lt_of_cell? w _ hx268_0)).trans hx268_0
                                  replace p268 := eq_true p268
                                  replace q268 := eq_true q268
                                  have hnb55 := NB265_267.out
                                  have hnc55 := NB267_265.out
                                  have hcz56_0 : wr.cell? ⟨gb265, 0, none⟩ = some (.int .i64 x266000_3) := (blk_cell BK265.out 0).trans rfl
                                  have hcz56_1 : wr.cell? ⟨gb265, 1, none⟩ = some (.bool x266001_3) := (blk_cell BK265.out 1).trans rfl
                                  have hcz56_2 : wr.cell? ⟨gb265, 2, none⟩ = some (.int .i64 x266002_3) := (blk_cell BK265.out 2).trans rfl
                                  have hfz56_0 := blk_frozen BK265.out 0
                                  have hfz56_1 := blk_frozen BK265.out 1
                                  have hfz56_2 := blk_frozen BK265.out 2
                                  go_wp2_with (first | ((with_reducible refine gate_callee (f := 10) rfl ?_); refine goesL_ (some 63) rfl rfl Try.func10 (by kernel_rfl) rfl #[.agg #[.int .i64 x266000_3, .bool x266001_3, .int .i64 x266002_3], .int .i64 (rd l1 x55_3), .int .i64 a2] rfl (by (try simp only [List.map_toArray, List.map_cons, List.map_nil]); first | done | rfl | (simp only [List.length_drop, List.length_take]; rfl)) ?_; (with_reducible refine (saga_Step.calls k3 x266000_3 x266001_3 x266002_3 (rd l1 x55_3) a2 t269 t270 t271 t272 t273 _ A32.out).mono ?_); rintro e w57 ⟨rfl, hb⟩; refine ⟨_, rfl, ?_⟩; have n0_ := Aside0.mk (blk_below (g := gb265) (o := .cells #[.int .i64 x266000_3, .bool x266001_3, .int .i64 x266002_3] 23 (0, 0)) (by (with_reducible repeat (first | refine blk_drewN ?_ _ | refine blk_drew ?_ | refine blk_alloc ?_ _)); exact BK265.out) hb); have n1_ := Aside0.mk (blk_below (g := gb267) (o := .cells #[.int .i64 a0_0, .bool a0_1, .int .i64 a0_2] 23 (0, 0)) (by (with_reducible repeat (first | refine blk_drewN ?_ _ | refine blk_drew ?_ | refine blk_alloc ?_ _)); exact BK267.out) hb); have n2_ := Aside0.mk (below_step (by repeat (first | (with_reducible first | exact HB.out | apply below_alloc | apply pw_below_drewN | apply below_drew1 | refine below_set ?_ GE265.out | refine below_set ?_ GE267.out) | exact HB.out)) hb); clear BK265; clear BK267; clear HB; have BK265 := n0_; have BK267 := n1_; have HB := n2_; clear n0_ n1_ n2_; (try clear hb); (try clear hb2); (try clear hk); (try clear hi)) | ((with_reducible refine gate_dst (N := 11) rfl ?_); (try (refine gate_guard (by rfl) ?_; dsimp only)); refine box_event ?hg (N := 11) ?hd (cs := #[.int .i64 0, .bool false, .int .i64 0]) (t := 23) ?hr ?_; (case hd => rfl); (case hg => rfl); (case hr => first | (go_simp; done) | (go_simp; rfl)); intro gb274 hg w58 hbox hb; have n0_ := Aside0.mk (blk_below (g := gb265) (o := .cells #[.int .i64 x266000_3, .bool x266001_3, .int .i64 x266002_3] 23 (0, 0)) (by (with_reducible repeat (first | refine blk_drewN ?_ _ | refine blk_drew ?_ | refine blk_alloc ?_ _)); exact BK265.out) hb); have n1_ := Aside0.mk (blk_below (g := gb267) (o := .cells #[.int .i64 a0_0, .bool a0_1, .int .i64 a0_2] 23 (0, 0)) (by (with_reducible repeat (first | refine blk_drewN ?_ _ | refine blk_drew ?_ | refine blk_alloc ?_ _)); exact BK267.out) hb); have n2_ := Aside0.mk (below_step (by repeat (first | (with_reducible first | exact HB.out | apply below_alloc | apply pw_below_drewN | apply below_drew1 | refine below_set ?_ GE265.out | refine below_set ?_ GE267.out) | exact HB.out)) hb); have n3_ := Aside0.mk (hbox); have n4_ := Aside0.mk ((by rw [hg]; exact (below_size (by repeat (first | (with_reducible first | exact HB.out | apply below_alloc | apply pw_below_drewN | apply below_drew1 | refine below_set ?_ GE265.out | refine below_set ?_ GE267.out) | exact HB.out))) : w.heap.size ≤ gb274)); have n5_ := Aside0.mk ((by rw [hg]; exact (below_size (by repeat (first | (with_reducible first | exact HB.out | apply below_alloc | apply pw_below_drewN | apply below_drew1 | refine below_set ?_ GE265.out | refine below_set ?_ GE267.out) | exact HB.out))) : w.heap.size ≤ gb274)); have n6_ := Aside0.mk ((by rw [hg]; exact Nat.ne_of_lt (blk_lt (g := gb265) (o := .cells #[.int .i64 x266000_3, .bool x266001_3, .int .i64 x266002_3] 23 (0, 0)) (by (with_reducible repeat (first | refine blk_drewN ?_ _ | refine blk_drew ?_ | refine blk_alloc ?_ _)); exact BK265.out)) : gb265 ≠ gb274)); have n7_ := Aside0.mk ((by rw [hg]; exact Nat.ne_of_gt (blk_lt (g := gb265) (o := .cells #[.int .i64 x266000_3, .bool x266001_3, .int .i64 x266002_3] 23 (0, 0)) (by (with_reducible repeat (first | refine blk_drewN ?_ _ | refine blk_drew ?_ | refine blk_alloc ?_ _)); exact BK265.out)) : gb274 ≠ gb265)); have n8_ := Aside0.mk ((by rw [hg]; exact Nat.ne_of_lt (blk_lt (g := gb267) (o := .cells #[.int .i64 a0_0, .bool a0_1, .int .i64 a0_2] 23 (0, 0)) (by (with_reducible repeat (first | refine blk_drewN ?_ _ | refine blk_drew ?_ | refine blk_alloc ?_ _)); exact BK267.out)) : gb267 ≠ gb274)); have n9_ := Aside0.mk ((by rw [hg]; exact Nat.ne_of_gt (blk_lt (g := gb267) (o := .cells #[.int .i64 a0_0, .bool a0_1, .int .i64 a0_2] 23 (0, 0)) (by (with_reducible repeat (first | refine blk_drewN ?_ _ | refine blk_drew ?_ | refine blk_alloc ?_ _)); exact BK267.out)) : gb274 ≠ gb267)); clear BK265; clear BK267; clear HB; have BK265 := n0_; have BK267 := n1_; have HB := n2_; have BK274 := n3_; have GW274 := n4_; have GE274 := n5_; have NB265_274 := n6_; have NB274_265 := n7_; have NB267_274 := n8_; have NB274_267 := n9_; clear n0_ n1_ n2_ n3_ n4_ n5_ n6_ n7_ n8_ n9_; clear hb hbox hg; have hnb59 := NB274_265.out; have hnc59 := NB265_274.out; have hnb60 := NB274_267.out; have hnc60 := NB267_274.out; have hcz61_0 : w58.cell? ⟨gb274, 0, none⟩ = some (.int .i64 0) := (blk_cell BK274.out 0).trans rfl; have hcz61_1 : w58.cell? ⟨gb274, 1, none⟩ = some (.bool false) := (blk_cell BK274.out 1).trans rfl; have hcz61_2 : w58.cell? ⟨gb274, 2, none⟩ = some (.int .i64 0) := (blk_cell BK274.out 2).trans rfl; have hfz61_0 := blk_frozen BK274.out 0; have hfz61_1 := blk_frozen BK274.out 1; have hfz61_2 := blk_frozen BK274.out 2; have hcz62_0 : w58.cell? ⟨gb267, 0, none⟩ = some (.int .i64 a0_0) := (blk_cell BK267.out 0).trans rfl; have hcz62_1 : w58.cell? ⟨gb267, 1, none⟩ = some (.bool a0_1) := (blk_cell BK267.out 1).trans rfl; have hcz62_2 : w58.cell? ⟨gb267, 2, none⟩ = some (.int .i64 a0_2) := (blk_cell BK267.out 2).trans rfl; have hfz62_0 := blk_frozen BK267.out 0; have hfz62_1 := blk_frozen BK267.out 1; have hfz62_2 := blk_frozen BK267.out 2; have hcz63_0 : w58.cell? ⟨gb265, 0, none⟩ = some (.int .i64 x266000_3) := (blk_cell BK265.out 0).trans rfl; have hcz63_1 : w58.cell? ⟨gb265, 1, none⟩ = some (.bool x266001_3) := (blk_cell BK265.out 1).trans rfl; have hcz63_2 : w58.cell? ⟨gb265, 2, none⟩ = some (.int .i64 x266002_3) := (blk_cell BK265.out 2).trans rfl; have hfz63_0 := blk_frozen BK265.out 0; have hfz63_1 := blk_frozen BK265.out 1; have hfz63_2 := blk_frozen BK265.out 2))
                                  go_ret
                                  exact ⟨by first | rfl | (simp [errW_none, errW_some] <;> rfl) | (simp [*, errW_none, errW_some] <;> rfl), by repeat (first | (with_reducible first | exact HB.out | apply below_alloc | apply pw_below_drewN | apply below_drew1 | refine below_set ?_ GE265.out | refine below_set ?_ GE267.out | refine below_set ?_ GE274.out) | exact HB.out)⟩
                                · rw [if_neg c54] at H
                                  have c54b0 : decide (t269 < 8) = false := decide_eq_false c54
                                  clear c54
                                  have H' := Aside0.mk H
                                  clear H
                                  have p268 : 0 ≤ (x55_3 : Int) := of_decide_eq_true (by first | (with_reducible assumption) | assumption)
                                  have q268 : x55_3 < (l1.length : Int) := of_decide_eq_true (by first | (with_reducible assumption) | assumption)
                                  obtain ⟨ad268, e268, hx268_0⟩ := Kd.at_int HR1.out x55_3 p268 q268
                                  cases e268
                                  replace hx268_0 := (HB.out.cell (World.block_lt_of_cell? w _ hx268_0)).trans hx268_0
                                  replace p268 := eq_true p268
                                  replace q268 := eq_true q268
                                  have hnb64 := NB265_267.out
                                  have hnc64 := NB267_265.out
                                  have hcz65_0 : wr.cell? ⟨gb265, 0, none⟩ = some (.int .i64 x266000_3) := (blk_cell BK265.out 0).trans rfl
                                  have hcz65_1 : wr.cell? ⟨gb265, 1, none⟩ = some (.bool x266001_3) := (blk_cell BK265.out 1).trans rfl
                                  have hcz65_2 : wr.cell? ⟨gb265, 2, none⟩ = some (.int .i64 x266002_3) := (blk_cell BK265.out 2).trans rfl
                                  have hfz65_0 := blk_frozen BK265.out 0
                                  have hfz65_1 := blk_frozen BK265.out 1
                                  have hfz65_2 := blk_frozen BK265.out 2
                                  go_wp2_with (first | ((with_reducible refine gate_callee (f := 10) rfl ?_); refine goesL_ (some 63) rfl rfl Try.func10 (by kernel_rfl) rfl #[.agg #[.int .i64 x266000_3, .bool x266001_3, .int .i64 x266002_3], .int .i64 (rd l1 x55_3), .int .i64 a2] rfl (by (try simp only [List.map_toArray, List.map_cons, List.map_nil]); first | done | rfl | (simp only [List.length_drop, List.length_take]; rfl)) ?_; (with_reducible refine (saga_Step.calls k3 x266000_3 x266001_3 x266002_3 (rd l1 x55_3) a2 t269 t270 t271 t272 t273 _ A32.out).mono ?_); rintro e w66 ⟨rfl, hb⟩; refine ⟨_, rfl, ?_⟩; have n0_ := Aside0.mk (blk_below (g := gb265) (o := .cells #[.int .i64 x266000_3, .bool x266001_3, .int .i64 x266002_3] 23 (0, 0)) (by (with_reducible repeat (first | refine blk_drewN ?_ _ | refine blk_drew ?_ | refine blk_alloc ?_ _)); exact BK265.out) hb); have n1_ := Aside0.mk (blk_below (g := gb267) (o := .cells #[.int .i64 a0_0, .bool a0_1, .int .i64 a0_2] 23 (0, 0)) (by (with_reducible repeat (first | refine blk_drewN ?_ _ | refine blk_drew ?_ | refine blk_alloc ?_ _)); exact BK267.out) hb); have n2_ := Aside0.mk (below_step (by repeat (first | (with_reducible first | exact HB.out | apply below_alloc | apply pw_below_drewN | apply below_drew1 | refine below_set ?_ GE265.out | refine below_set ?_ GE267.out) | exact HB.out)) hb); clear BK265; clear BK267; clear HB; have BK265 := n0_; have BK267 := n1_; have HB := n2_; clear n0_ n1_ n2_; (try clear hb); (try clear hb2); (try clear hk); (try clear hi)) | ((with_reducible refine gate_dst (N := 11) rfl ?_); (try (refine gate_guard (by rfl) ?_; dsimp only)); refine box_event ?hg (N := 11) ?hd (cs := #[.int .i64 0, .bool false, .int .i64 0]) (t := 23) ?hr ?_; (case hd => rfl); (case hg => rfl); (case hr => first | (go_simp; done) | (go_simp; rfl)); intro gb274 hg w67 hbox hb; have n0_ := Aside0.mk (blk_below (g := gb265) (o := .cells #[.int .i64 x266000_3, .bool x266001_3, .int .i64 x266002_3] 23 (0, 0)) (by (with_reducible repeat (first | refine blk_drewN ?_ _ | refine blk_drew ?_ | refine blk_alloc ?_ _)); exact BK265.out) hb); have n1_ := Aside0.mk (blk_below (g := gb267) (o := .cells #[.int .i64 a0_0, .bool a0_1, .int .i64 a0_2] 23 (0, 0)) (by (with_reducible repeat (first | refine blk_drewN ?_ _ | refine blk_drew ?_ | refine blk_alloc ?_ _)); exact BK267.out) hb); have n2_ := Aside0.mk (below_step (by repeat (first | (with_reducible first | exact HB.out | apply below_alloc | apply pw_below_drewN | apply below_drew1 | refine below_set ?_ GE265.out | refine below_set ?_ GE267.out) | exact HB.out)) hb); have n3_ := Aside0.mk (hbox); have n4_ := Aside0.mk ((by rw [hg]; exact (below_size (by repeat (first | (with_reducible first | exact HB.out | apply below_alloc | apply pw_below_drewN | apply below_drew1 | refine below_set ?_ GE265.out | refine below_set ?_ GE267.out) | exact HB.out))) : w.heap.size ≤ gb274)); have n5_ := Aside0.mk ((by rw [hg]; exact (below_size (by repeat (first | (with_reducible first | exact HB.out | apply below_alloc | apply pw_below_drewN | apply below_drew1 | refine below_set ?_ GE265.out | refine below_set ?_ GE267.out) | exact HB.out))) : w.heap.size ≤ gb274)); have n6_ := Aside0.mk ((by rw [hg]; exact Nat.ne_of_lt (blk_lt (g := gb265) (o := .cells #[.int .i64 x266000_3, .bool x266001_3, .int .i64 x266002_3] 23 (0, 0)) (by (with_reducible repeat (first | refine blk_drewN ?_ _ | refine blk_drew ?_ | refine blk_alloc ?_ _)); exact BK265.out)) : gb265 ≠ gb274)); have n7_ := Aside0.mk ((by rw [hg]; exact Nat.ne_of_gt (blk_lt (g := gb265) (o := .cells #[.int .i64 x266000_3, .bool x266001_3, .int .i64 x266002_3] 23 (0, 0)) (by (with_reducible repeat (first | refine blk_drewN ?_ _ | refine blk_drew ?_ | refine blk_alloc ?_ _)); exact BK265.out)) : gb274 ≠ gb265)); have n8_ := Aside0.mk ((by rw [hg]; exact Nat.ne_of_lt (blk_lt (g := gb267) (o := .cells #[.int .i64 a0_0, .bool a0_1, .int .i64 a0_2] 23 (0, 0)) (by (with_reducible repeat (first | refine blk_drewN ?_ _ | refine blk_drew ?_ | refine blk_alloc ?_ _)); exact BK267.out)) : gb267 ≠ gb274)); have n9_ := Aside0.mk ((by rw [hg]; exact Nat.ne_of_gt (blk_lt (g := gb267) (o := .cells #[.int .i64 a0_0, .bool a0_1, .int .i64 a0_2] 23 (0, 0)) (by (with_reducible repeat (first | refine blk_drewN ?_ _ | refine blk_drew ?_ | refine blk_alloc ?_ _)); exact BK267.out)) : gb274 ≠ gb267)); clear BK265; clear BK267; clear HB; have BK265 := n0_; have BK267 := n1_; have HB := n2_; have BK274 := n3_; have GW274 := n4_; have GE274 := n5_; have NB265_274 := n6_; have NB274_265 := n7_; have NB267_274 := n8_; have NB274_267 := n9_; clear n0_ n1_ n2_ n3_ n4_ n5_ n6_ n7_ n8_ n9_; clear hb hbox hg; have hnb68 := NB274_265.out; have hnc68 := NB265_274.out; have hnb69 := NB274_267.out; have hnc69 := NB267_274.out; have hcz70_0 : w67.cell? ⟨gb274, 0, none⟩ = some (.int .i64 0) := (blk_cell BK274.out 0).trans rfl; have hcz70_1 : w67.cell? ⟨gb274, 1, none⟩ = some (.bool false) := (blk_cell BK274.out 1).trans rfl; have hcz70_2 : w67.cell? ⟨gb274, 2, none⟩ = some (.int .i64 0) := (blk_cell BK274.out 2).trans rfl; have hfz70_0 := blk_frozen BK274.out 0; have hfz70_1 := blk_frozen BK274.out 1; have hfz70_2 := blk_frozen BK274.out 2; have hcz71_0 : w67.cell? ⟨gb267, 0, none⟩ = some (.int .i64 a0_0) := (blk_cell BK267.out 0).trans rfl; have hcz71_1 : w67.cell? ⟨gb267, 1, none⟩ = some (.bool a0_1) := (blk_cell BK267.out 1).trans rfl; have hcz71_2 : w67.cell? ⟨gb267, 2, none⟩ = some (.int .i64 a0_2) := (blk_cell BK267.out 2).trans rfl; have hfz71_0 := blk_frozen BK267.out 0; have hfz71_1 := blk_frozen BK267.out 1; have hfz71_2 := blk_frozen BK267.out 2; have hcz72_0 : w67.cell? ⟨gb265, 0, none⟩ = some (.int .i64 x266000_3) := (blk_cell BK265.out 0).trans rfl; have hcz72_1 : w67.cell? ⟨gb265, 1, none⟩ = some (.bool x266001_3) := (blk_cell BK265.out 1).trans rfl; have hcz72_2 : w67.cell? ⟨gb265, 2, none⟩ = some (.int .i64 x266002_3) := (blk_cell BK265.out 2).trans rfl; have hfz72_0 := blk_frozen BK265.out 0; have hfz72_1 := blk_frozen BK265.out 1; have hfz72_2 := blk_frozen BK265.out 2))
                                  go_roundg k3
                                  case measure => have := HJ5.out; have := HJ18.out; have := HK3.out; omega
                                  case rel => exact ⟨(wrap64 (x55_3 + 1)), (t269), (t270), (t271), (by first | rfl | (simp; done) | (simp [*]; done)), H', ⟨by have := HJ5.out; have := HJ18.out; have := HK3.out; omega⟩, ⟨by (with_reducible repeat (first | refine blk_drewN ?_ _ | refine blk_drew ?_ | refine blk_alloc ?_ _)); refine blk_put (cs := #[.int .i64 t269, .bool t270, .int .i64 x266002_3]) ?_ 2 _ rfl; (with_reducible repeat (first | refine blk_drewN ?_ _ | refine blk_drew ?_ | refine blk_alloc ?_ _)); refine blk_put (cs := #[.int .i64 t269, .bool x266001_3, .int .i64 x266002_3]) ?_ 1 _ rfl; (with_reducible repeat (first | refine blk_drewN ?_ _ | refine blk_drew ?_ | refine blk_alloc ?_ _)); refine blk_put (cs := #[.int .i64 x266000_3, .bool x266001_3, .int .i64 x266002_3]) ?_ 0 _ rfl; (with_reducible repeat (first | refine blk_drewN ?_ _ | refine blk_drew ?_ | refine blk_alloc ?_ _)); refine blk_far ?_ NB265_274.out _; (with_reducible repeat (first | refine blk_drewN ?_ _ | refine blk_drew ?_ | refine blk_alloc ?_ _)); refine blk_far ?_ NB265_274.out _; (with_reducible repeat (first | refine blk_drewN ?_ _ | refine blk_drew ?_ | refine blk_alloc ?_ _)); refine blk_far ?_ NB265_274.out _; (with_reducible repeat (first | refine blk_drewN ?_ _ | refine blk_drew ?_ | refine blk_alloc ?_ _)); exact BK265.out⟩, ⟨by (with_reducible repeat (first | refine blk_drewN ?_ _ | refine blk_drew ?_ | refine blk_alloc ?_ _)); refine blk_far ?_ NB267_265.out _; (with_reducible repeat (first | refine blk_drewN ?_ _ | refine blk_drew ?_ | refine blk_alloc ?_ _)); refine blk_far ?_ NB267_265.out _; (with_reducible repeat (first | refine blk_drewN ?_ _ | refine blk_drew ?_ | refine blk_alloc ?_ _)); refine blk_far ?_ NB267_265.out _; (with_reducible repeat (first | refine blk_drewN ?_ _ | refine blk_drew ?_ | refine blk_alloc ?_ _)); refine blk_far ?_ NB267_274.out _; (with_reducible repeat (first | refine blk_drewN ?_ _ | refine blk_drew ?_ | refine blk_alloc ?_ _)); refine blk_far ?_ NB267_274.out _; (with_reducible repeat (first | refine blk_drewN ?_ _ | refine blk_drew ?_ | refine blk_alloc ?_ _)); refine blk_far ?_ NB267_274.out _; (with_reducible repeat (first | refine blk_drewN ?_ _ | refine blk_drew ?_ | refine blk_alloc ?_ _)); exact BK267.out⟩, ⟨by repeat (first | (with_reducible first | exact HB.out | apply below_alloc | apply pw_below_drewN | apply below_drew1 | refine below_set ?_ GE265.out | refine below_set ?_ GE267.out | refine below_set ?_ GE274.out) | exact HB.out)⟩⟩
                            · rw [if_neg c43] at H
                              have c43b0 : decide (t269 < x266000_3) = false := decide_eq_false c43
                              clear c43
                              by_cases c73 : t269 < 8
                              · rw [if_pos c73] at H
                                have c73b0 : decide (t269 < 8) = true := decide_eq_true c73
                                clear c73
                                obtain rfl := Option.some.inj H
                                have p268 : 0 ≤ (x55_3 : Int) := of_decide_eq_true (by first | (with_reducible assumption) | assumption)
                                have q268 : x55_3 < (l1.length : Int) := of_decide_eq_true (by first | (with_reducible assumption) | assumption)
                                obtain ⟨ad268, e268, hx268_0⟩ := Kd.at_int HR1.out x55_3 p268 q268
                                cases e268
                                replace hx268_0 := (HB.out.cell (World.block_lt_of_cell? w _ hx268_0)).trans hx268_0
                                replace p268 := eq_true p268
                                replace q268 := eq_true q268
                                have hnb74 := NB265_267.out
                                have hnc74 := NB267_265.out
                                have hcz75_0 : wr.cell? ⟨gb265, 0, none⟩ = some (.int .i64 x266000_3) := (blk_cell BK265.out 0).trans rfl
                                have hcz75_1 : wr.cell? ⟨gb265, 1, none⟩ = some (.bool x266001_3) := (blk_cell BK265.out 1).trans rfl
                                have hcz75_2 : wr.cell? ⟨gb265, 2, none⟩ = some (.int .i64 x266002_3) := (blk_cell BK265.out 2).trans rfl
                                have hfz75_0 := blk_frozen BK265.out 0
                                have hfz75_1 := blk_frozen BK265.out 1
                                have hfz75_2 := blk_frozen BK265.out 2
                                go_wp2_with (first | ((with_reducible refine gate_callee (f := 10) rfl ?_); refine goesL_ (some 63) rfl rfl Try.func10 (by kernel_rfl) rfl #[.agg #[.int .i64 x266000_3, .bool x266001_3, .int .i64 x266002_3], .int .i64 (rd l1 x55_3), .int .i64 a2] rfl (by (try simp only [List.map_toArray, List.map_cons, List.map_nil]); first | done | rfl | (simp only [List.length_drop, List.length_take]; rfl)) ?_; (with_reducible refine (saga_Step.calls k3 x266000_3 x266001_3 x266002_3 (rd l1 x55_3) a2 t269 t270 t271 t272 t273 _ A32.out).mono ?_); rintro e w76 ⟨rfl, hb⟩; refine ⟨_, rfl, ?_⟩; have n0_ := Aside0.mk (blk_below (g := gb265) (o := .cells #[.int .i64 x266000_3, .bool x266001_3, .int .i64 x266002_3] 23 (0, 0)) (by (with_reducible repeat (first | refine blk_drewN ?_ _ | refine blk_drew ?_ | refine blk_alloc ?_ _)); exact BK265.out) hb); have n1_ := Aside0.mk (blk_below (g := gb267) (o := .cells #[.int .i64 a0_0, .bool a0_1, .int .i64 a0_2] 23 (0, 0)) (by (with_reducible repeat (first | refine blk_drewN ?_ _ | refine blk_drew ?_ | refine blk_alloc ?_ _)); exact BK267.out) hb); have n2_ := Aside0.mk (below_step (by repeat (first | (with_reducible first | exact HB.out | apply below_alloc | apply pw_below_drewN | apply below_drew1 | refine below_set ?_ GE265.out | refine below_set ?_ GE267.out) | exact HB.out)) hb); clear BK265; clear BK267; clear HB; have BK265 := n0_; have BK267 := n1_; have HB := n2_; clear n0_ n1_ n2_; (try clear hb); (try clear hb2); (try clear hk); (try clear hi)) | ((with_reducible refine gate_dst (N := 11) rfl ?_); (try (refine gate_guard (by rfl) ?_; dsimp only)); refine box_event ?hg (N := 11) ?hd (cs := #[.int .i64 0, .bool false, .int .i64 0]) (t := 23) ?hr ?_; (case hd => rfl); (case hg => rfl); (case hr => first | (go_simp; done) | (go_simp; rfl)); intro gb274 hg w77 hbox hb; have n0_ := Aside0.mk (blk_below (g := gb265) (o := .cells #[.int .i64 x266000_3, .bool x266001_3, .int .i64 x266002_3] 23 (0, 0)) (by (with_reducible repeat (first | refine blk_drewN ?_ _ | refine blk_drew ?_ | refine blk_alloc ?_ _)); exact BK265.out) hb); have n1_ := Aside0.mk (blk_below (g := gb267) (o := .cells #[.int .i64 a0_0, .bool a0_1, .int .i64 a0_2] 23 (0, 0)) (by (with_reducible repeat (first | refine blk_drewN ?_ _ | refine blk_drew ?_ | refine blk_alloc ?_ _)); exact BK267.out) hb); have n2_ := Aside0.mk (below_step (by repeat (first | (with_reducible first | exact HB.out | apply below_alloc | apply pw_below_drewN | apply below_drew1 | refine below_set ?_ GE265.out | refine below_set ?_ GE267.out) | exact HB.out)) hb); have n3_ := Aside0.mk (hbox); have n4_ := Aside0.mk ((by rw [hg]; exact (below_size (by repeat (first | (with_reducible first | exact HB.out | apply below_alloc | apply pw_below_drewN | apply below_drew1 | refine below_set ?_ GE265.out | refine below_set ?_ GE267.out) | exact HB.out))) : w.heap.size ≤ gb274)); have n5_ := Aside0.mk ((by rw [hg]; exact (below_size (by repeat (first | (with_reducible first | exact HB.out | apply below_alloc | apply pw_below_drewN | apply below_drew1 | refine below_set ?_ GE265.out | refine below_set ?_ GE267.out) | exact HB.out))) : w.heap.size ≤ gb274)); have n6_ := Aside0.mk ((by rw [hg]; exact Nat.ne_of_lt (blk_lt (g := gb265) (o := .cells #[.int .i64 x266000_3, .bool x266001_3, .int .i64 x266002_3] 23 (0, 0)) (by (with_reducible repeat (first | refine blk_drewN ?_ _ | refine blk_drew ?_ | refine blk_alloc ?_ _)); exact BK265.out)) : gb265 ≠ gb274)); have n7_ := Aside0.mk ((by rw [hg]; exact Nat.ne_of_gt (blk_lt (g := gb265) (o := .cells #[.int .i64 x266000_3, .bool x266001_3, .int .i64 x266002_3] 23 (0, 0)) (by (with_reducible repeat (first | refine blk_drewN ?_ _ | refine blk_drew ?_ | refine blk_alloc ?_ _)); exact BK265.out)) : gb274 ≠ gb265)); have n8_ := Aside0.mk ((by rw [hg]; exact Nat.ne_of_lt (blk_lt (g := gb267) (o := .cells #[.int .i64 a0_0, .bool a0_1, .int .i64 a0_2] 23 (0, 0)) (by (with_reducible repeat (first | refine blk_drewN ?_ _ | refine blk_drew ?_ | refine blk_alloc ?_ _)); exact BK267.out)) : gb267 ≠ gb274)); have n9_ := Aside0.mk ((by rw [hg]; exact Nat.ne_of_gt (blk_lt (g := gb267) (o := .cells #[.int .i64 a0_0, .bool a0_1, .int .i64 a0_2] 23 (0, 0)) (by (with_reducible repeat (first | refine blk_drewN ?_ _ | refine blk_drew ?_ | refine blk_alloc ?_ _)); exact BK267.out)) : gb274 ≠ gb267)); clear BK265; clear BK267; clear HB; have BK265 := n0_; have BK267 := n1_; have HB := n2_; have BK274 := n3_; have GW274 := n4_; have GE274 := n5_; have NB265_274 := n6_; have NB274_265 := n7_; have NB267_274 := n8_; have NB274_267 := n9_; clear n0_ n1_ n2_ n3_ n4_ n5_ n6_ n7_ n8_ n9_; clear hb hbox hg; have hnb78 := NB274_265.out; have hnc78 := NB265_274.out; have hnb79 := NB274_267.out; have hnc79 := NB267_274.out; have hcz80_0 : w77.cell? ⟨gb274, 0, none⟩ = some (.int .i64 0) := (blk_cell BK274.out 0).trans rfl; have hcz80_1 : w77.cell? ⟨gb274, 1, none⟩ = some (.bool false) := (blk_cell BK274.out 1).trans rfl; have hcz80_2 : w77.cell? ⟨gb274, 2, none⟩ = some (.int .i64 0) := (blk_cell BK274.out 2).trans rfl; have hfz80_0 := blk_frozen BK274.out 0; have hfz80_1 := blk_frozen BK274.out 1; have hfz80_2 := blk_frozen BK274.out 2; have hcz81_0 : w77.cell? ⟨gb267, 0, none⟩ = some (.int .i64 a0_0) := (blk_cell BK267.out 0).trans rfl; have hcz81_1 : w77.cell? ⟨gb267, 1, none⟩ = some (.bool a0_1) := (blk_cell BK267.out 1).trans rfl; have hcz81_2 : w77.cell? ⟨gb267, 2, none⟩ = some (.int .i64 a0_2) := (blk_cell BK267.out 2).trans rfl; have hfz81_0 := blk_frozen BK267.out 0; have hfz81_1 := blk_frozen BK267.out 1; have hfz81_2 := blk_frozen BK267.out 2; have hcz82_0 : w77.cell? ⟨gb265, 0, none⟩ = some (.int .i64 x266000_3) := (blk_cell BK265.out 0).trans rfl; have hcz82_1 : w77.cell? ⟨gb265, 1, none⟩ = some (.bool x266001_3) := (blk_cell BK265.out 1).trans rfl; have hcz82_2 : w77.cell? ⟨gb265, 2, none⟩ = some (.int .i64 x266002_3) := (blk_cell BK265.out 2).trans rfl; have hfz82_0 := blk_frozen BK265.out 0; have hfz82_1 := blk_frozen BK265.out 1; have hfz82_2 := blk_frozen BK265.out 2))
                                go_ret
                                exact ⟨by first | rfl | (simp [errW_none, errW_some] <;> rfl) | (simp [*, errW_none, errW_some] <;> rfl), by repeat (first | (with_reducible first | exact HB.out | apply below_alloc | apply pw_below_drewN | apply below_drew1 | refine below_set ?_ GE265.out | refine below_set ?_ GE267.out | refine below_set ?_ GE274.out) | exact HB.out)⟩
                              · rw [if_neg c73] at H
                                have c73b0 : decide (t269 < 8) = false := decide_eq_false c73
                                clear c73
                                have H' := Aside0.mk H
                                clear H
                                have p268 : 0 ≤ (x55_3 : Int) := of_decide_eq_true (by first | (with_reducible assumption) | assumption)
                                have q268 : x55_3 < (l1.length : Int) := of_decide_eq_true (by first | (with_reducible assumption) | assumption)
                                obtain ⟨ad268, e268, hx268_0⟩ := Kd.at_int HR1.out x55_3 p268 q268
                                cases e268
                                replace hx268_0 := (HB.out.cell (World.block_lt_of_cell? w _ hx268_0)).trans hx268_0
                                replace p268 := eq_true p268
                                replace q268 := eq_true q268
                                have hnb83 := NB265_267.out
                                have hnc83 := NB267_265.out
                                have hcz84_0 : wr.cell? ⟨gb265, 0, none⟩ = some (.int .i64 x266000_3) := (blk_cell BK265.out 0).trans rfl
                                have hcz84_1 : wr.cell? ⟨gb265, 1, none⟩ = some (.bool x266001_3) := (blk_cell BK265.out 1).trans rfl
                                have hcz84_2 : wr.cell? ⟨gb265, 2, none⟩ = some (.int .i64 x266002_3) := (blk_cell BK265.out 2).trans rfl
                                have hfz84_0 := blk_frozen BK265.out 0
                                have hfz84_1 := blk_frozen BK265.out 1
                                have hfz84_2 := blk_frozen BK265.out 2
                                go_wp2_with (first | ((with_reducible refine gate_callee (f := 10) rfl ?_); refine goesL_ (some 63) rfl rfl Try.func10 (by kernel_rfl) rfl #[.agg #[.int .i64 x266000_3, .bool x266001_3, .int .i64 x266002_3], .int .i64 (rd l1 x55_3), .int .i64 a2] rfl (by (try simp only [List.map_toArray, List.map_cons, List.map_nil]); first | done | rfl | (simp only [List.length_drop, List.length_take]; rfl)) ?_; (with_reducible refine (saga_Step.calls k3 x266000_3 x266001_3 x266002_3 (rd l1 x55_3) a2 t269 t270 t271 t272 t273 _ A32.out).mono ?_); rintro e w85 ⟨rfl, hb⟩; refine ⟨_, rfl, ?_⟩; have n0_ := Aside0.mk (blk_below (g := gb265) (o := .cells #[.int .i64 x266000_3, .bool x266001_3, .int .i64 x266002_3] 23 (0, 0)) (by (with_reducible repeat (first | refine blk_drewN ?_ _ | refine blk_drew ?_ | refine blk_alloc ?_ _)); exact BK265.out) hb); have n1_ := Aside0.mk (blk_below (g := gb267) (o := .cells #[.int .i64 a0_0, .bool a0_1, .int .i64 a0_2] 23 (0, 0)) (by (with_reducible repeat (first | refine blk_drewN ?_ _ | refine blk_drew ?_ | refine blk_alloc ?_ _)); exact BK267.out) hb); have n2_ := Aside0.mk (below_step (by repeat (first | (with_reducible first | exact HB.out | apply below_alloc | apply pw_below_drewN | apply below_drew1 | refine below_set ?_ GE265.out | refine below_set ?_ GE267.out) | exact HB.out)) hb); clear BK265; clear BK267; clear HB; have BK265 := n0_; have BK267 := n1_; have HB := n2_; clear n0_ n1_ n2_; (try clear hb); (try clear hb2); (try clear hk); (try clear hi)) | ((with_reducible refine gate_dst (N := 11) rfl ?_); (try (refine gate_guard (by rfl) ?_; dsimp only)); refine box_event ?hg (N := 11) ?hd (cs := #[.int .i64 0, .bool false, .int .i64 0]) (t := 23) ?hr ?_; (case hd => rfl); (case hg => rfl); (case hr => first | (go_simp; done) | (go_simp; rfl)); intro gb274 hg w86 hbox hb; have n0_ := Aside0.mk (blk_below (g := gb265) (o := .cells #[.int .i64 x266000_3, .bool x266001_3, .int .i64 x266002_3] 23 (0, 0)) (by (with_reducible repeat (first | refine blk_drewN ?_ _ | refine blk_drew ?_ | refine blk_alloc ?_ _)); exact BK265.out) hb); have n1_ := Aside0.mk (blk_below (g := gb267) (o := .cells #[.int .i64 a0_0, .bool a0_1, .int .i64 a0_2] 23 (0, 0)) (by (with_reducible repeat (first | refine blk_drewN ?_ _ | refine blk_drew ?_ | refine blk_alloc ?_ _)); exact BK267.out) hb); have n2_ := Aside0.mk (below_step (by repeat (first | (with_reducible first | exact HB.out | apply below_alloc | apply pw_below_drewN | apply below_drew1 | refine below_set ?_ GE265.out | refine below_set ?_ GE267.out) | exact HB.out)) hb); have n3_ := Aside0.mk (hbox); have n4_ := Aside0.mk ((by rw [hg]; exact (below_size (by repeat (first | (with_reducible first | exact HB.out | apply below_alloc | apply pw_below_drewN | apply below_drew1 | refine below_set ?_ GE265.out | refine below_set ?_ GE267.out) | exact HB.out))) : w.heap.size ≤ gb274)); have n5_ := Aside0.mk ((by rw [hg]; exact (below_size (by repeat (first | (with_reducible first | exact HB.out | apply below_alloc | apply pw_below_drewN | apply below_drew1 | refine below_set ?_ GE265.out | refine below_set ?_ GE267.out) | exact HB.out))) : w.heap.size ≤ gb274)); have n6_ := Aside0.mk ((by rw [hg]; exact Nat.ne_of_lt (blk_lt (g := gb265) (o := .cells #[.int .i64 x266000_3, .bool x266001_3, .int .i64 x266002_3] 23 (0, 0)) (by (with_reducible repeat (first | refine blk_drewN ?_ _ | refine blk_drew ?_ | refine blk_alloc ?_ _)); exact BK265.out)) : gb265 ≠ gb274)); have n7_ := Aside0.mk ((by rw [hg]; exact Nat.ne_of_gt (blk_lt (g := gb265) (o := .cells #[.int .i64 x266000_3, .bool x266001_3, .int .i64 x266002_3] 23 (0, 0)) (by (with_reducible repeat (first | refine blk_drewN ?_ _ | refine blk_drew ?_ | refine blk_alloc ?_ _)); exact BK265.out)) : gb274 ≠ gb265)); have n8_ := Aside0.mk ((by rw [hg]; exact Nat.ne_of_lt (blk_lt (g := gb267) (o := .cells #[.int .i64 a0_0, .bool a0_1, .int .i64 a0_2] 23 (0, 0)) (by (with_reducible repeat (first | refine blk_drewN ?_ _ | refine blk_drew ?_ | refine blk_alloc ?_ _)); exact BK267.out)) : gb267 ≠ gb274)); have n9_ := Aside0.mk ((by rw [hg]; exact Nat.ne_of_gt (blk_lt (g := gb267) (o := .cells #[.int .i64 a0_0, .bool a0_1, .int .i64 a0_2] 23 (0, 0)) (by (with_reducible repeat (first | refine blk_drewN ?_ _ | refine blk_drew ?_ | refine blk_alloc ?_ _)); exact BK267.out)) : gb274 ≠ gb267)); clear BK265; clear BK267; clear HB; have BK265 := n0_; have BK267 := n1_; have HB := n2_; have BK274 := n3_; have GW274 := n4_; have GE274 := n5_; have NB265_274 := n6_; have NB274_265 := n7_; have NB267_274 := n8_; have NB274_267 := n9_; clear n0_ n1_ n2_ n3_ n4_ n5_ n6_ n7_ n8_ n9_; clear hb hbox hg; have hnb87 := NB274_265.out; have hnc87 := NB265_274.out; have hnb88 := NB274_267.out; have hnc88 := NB267_274.out; have hcz89_0 : w86.cell? ⟨gb274, 0, none⟩ = some (.int .i64 0) := (blk_cell BK274.out 0).trans rfl; have hcz89_1 : w86.cell? ⟨gb274, 1, none⟩ = some (.bool false) := (blk_cell BK274.out 1).trans rfl; have hcz89_2 : w86.cell? ⟨gb274, 2, none⟩ = some (.int .i64 0) := (blk_cell BK274.out 2).trans rfl; have hfz89_0 := blk_frozen BK274.out 0; have hfz89_1 := blk_frozen BK274.out 1; have hfz89_2 := blk_frozen BK274.out 2; have hcz90_0 : w86.cell? ⟨gb267, 0, none⟩ = some (.int .i64 a0_0) := (blk_cell BK267.out 0).trans rfl; have hcz90_1 : w86.cell? ⟨gb267, 1, none⟩ = some (.bool a0_1) := (blk_cell BK267.out 1).trans rfl; have hcz90_2 : w86.cell? ⟨gb267, 2, none⟩ = some (.int .i64 a0_2) := (blk_cell BK267.out 2).trans rfl; have hfz90_0 := blk_frozen BK267.out 0; have hfz90_1 := blk_frozen BK267.out 1; have hfz90_2 := blk_frozen BK267.out 2; have hcz91_0 : w86.cell? ⟨gb265, 0, none⟩ = some (.int .i64 x266000_3) := (blk_cell BK265.out 0).trans rfl; have hcz91_1 : w86.cell? ⟨gb265, 1, none⟩ = some (.bool x266001_3) := (blk_cell BK265.out 1).trans rfl; have hcz91_2 : w86.cell? ⟨gb265, 2, none⟩ = some (.int .i64 x266002_3) := (blk_cell BK265.out 2).trans rfl; have hfz91_0 := blk_frozen BK265.out 0; have hfz91_1 := blk_frozen BK265.out 1; have hfz91_2 := blk_frozen BK265.out 2))
                                go_roundg k3
                                case measure => have := HJ5.out; have := HJ18.out; have := HK3.out; omega
                                case rel => exact ⟨(wrap64 (x55_3 + 1)), (t269), (t270), (t271), (by first | rfl | (simp; done) | (simp [*]; done)), H', ⟨by have := HJ5.out; have := HJ18.out; have := HK3.out; omega⟩, ⟨by (with_reducible repeat (first | refine blk_drewN ?_ _ | refine blk_drew ?_ | refine blk_alloc ?_ _)); refine blk_put (cs := #[.int .i64 t269, .bool t270, .int .i64 x266002_3]) ?_ 2 _ rfl; (with_reducible repeat (first | refine blk_drewN ?_ _ | refine blk_drew ?_ | refine blk_alloc ?_ _)); refine blk_put (cs := #[.int .i64 t269, .bool x266001_3, .int .i64 x266002_3]) ?_ 1 _ rfl; (with_reducible repeat (first | refine blk_drewN ?_ _ | refine blk_drew ?_ | refine blk_alloc ?_ _)); refine blk_put (cs := #[.int .i64 x266000_3, .bool x266001_3, .int .i64 x266002_3]) ?_ 0 _ rfl; (with_reducible repeat (first | refine blk_drewN ?_ _ | refine blk_drew ?_ | refine blk_alloc ?_ _)); refine blk_far ?_ NB265_274.out _; (with_reducible repeat (first | refine blk_drewN ?_ _ | refine blk_drew ?_ | refine blk_alloc ?_ _)); refine blk_far ?_ NB265_274.out _; (with_reducible repeat (first | refine blk_drewN ?_ _ | refine blk_drew ?_ | refine blk_alloc ?_ _)); refine blk_far ?_ NB265_274.out _; (with_reducible repeat (first | refine blk_drewN ?_ _ | refine blk_drew ?_ | refine blk_alloc ?_ _)); exact BK265.out⟩, ⟨by (with_reducible repeat (first | refine blk_drewN ?_ _ | refine blk_drew ?_ | refine blk_alloc ?_ _)); refine blk_far ?_ NB267_265.out _; (with_reducible repeat (first | refine blk_drewN ?_ _ | refine blk_drew ?_ | refine blk_alloc ?_ _)); refine blk_far ?_ NB267_265.out _; (with_reducible repeat (first | refine blk_drewN ?_ _ | refine blk_drew ?_ | refine blk_alloc ?_ _)); refine blk_far ?_ NB267_265.out _; (with_reducible repeat (first | refine blk_drewN ?_ _ | refine blk_drew ?_ | refine blk_alloc ?_ _)); refine blk_far ?_ NB267_274.out _; (with_reducible repeat (first | refine blk_drewN ?_ _ | refine blk_drew ?_ | refine blk_alloc ?_ _)); refine blk_far ?_ NB267_274.out _; (with_reducible repeat (first | refine blk_drewN ?_ _ | refine blk_drew ?_ | refine blk_alloc ?_ _)); refine blk_far ?_ NB267_274.out _; (with_reducible repeat (first | refine blk_drewN ?_ _ | refine blk_drew ?_ | refine blk_alloc ?_ _)); exact BK267.out⟩, ⟨by repeat (first | (with_reducible first | exact HB.out | apply below_alloc | apply pw_below_drewN | apply below_drew1 | refine below_set ?_ GE265.out | refine below_set ?_ GE267.out | refine below_set ?_ GE274.out) | exact HB.out)⟩⟩
                        · replace c33 := Bool.eq_false_iff.mpr c33
                          subst c33
                          have H1 : (if t269 < x266000_3 then (if t273 = 0 then (some false) else (if t269 < 8 then (some false) else (packhorselaw14_SagaUndoes.l0 k3 a2 false l1 (l1.length : Int) (wrap64 (x55_3 + 1)) t269 t270 t271 a0_0 a0_1 a0_2))) else (if t269 < 8 then (some false) else (packhorselaw14_SagaUndoes.l0 k3 a2 false l1 (l1.length : Int) (wrap64 (x55_3 + 1)) t269 t270 t271 a0_0 a0_1 a0_2))) = some r := by rw [if_neg (show ¬ (false = true) by decide)] at H; exact H
                          clear H
                          have H := H1
                          clear H1
                          by_cases c92 : t269 < x266000_3
                          · rw [if_pos c92] at H
                            have c92b0 : decide (t269 < x266000_3) = true := decide_eq_true c92
                            clear c92
                            by_cases c93 : t273 = 0
                            · rw [if_pos c93] at H
                              have c93b0 : (t273 == 0) = true := beq_iff_eq.mpr c93
                              have c93b1 : (t273 != 0) = false := bne_eq_false_iff_eq.mpr c93
                              clear c93
                              obtain rfl := Option.some.inj H
                              have p268 : 0 ≤ (x55_3 : Int) := of_decide_eq_true (by first | (with_reducible assumption) | assumption)
                              have q268 : x55_3 < (l1.length : Int) := of_decide_eq_true (by first | (with_reducible assumption) | assumption)
                              obtain ⟨ad268, e268, hx268_0⟩ := Kd.at_int HR1.out x55_3 p268 q268
                              cases e268
                              replace hx268_0 := (HB.out.cell (World.block_lt_of_cell? w _ hx268_0)).trans hx268_0
                              replace p268 := eq_true p268
                              replace q268 := eq_true q268
                              have hnb94 := NB265_267.out
                              have hnc94 := NB267_265.out
                              have hcz95_0 : wr.cell? ⟨gb265, 0, none⟩ = some (.int .i64 x266000_3) := (blk_cell BK265.out 0).trans rfl
                              have hcz95_1 : wr.cell? ⟨gb265, 1, none⟩ = some (.bool x266001_3) := (blk_cell BK265.out 1).trans rfl
                              have hcz95_2 : wr.cell? ⟨gb265, 2, none⟩ = some (.int .i64 x266002_3) := (blk_cell BK265.out 2).trans rfl
                              have hfz95_0 := blk_frozen BK265.out 0
                              have hfz95_1 := blk_frozen BK265.out 1
                              have hfz95_2 := blk_frozen BK265.out 2
                              go_wp2_with (first | ((with_reducible refine gate_callee (f := 10) rfl ?_); refine goesL_ (some 63) rfl rfl Try.func10 (by kernel_rfl) rfl #[.agg #[.int .i64 x266000_3, .bool x266001_3, .int .i64 x266002_3], .int .i64 (rd l1 x55_3), .int .i64 a2] rfl (by (try simp only [List.map_toArray, List.map_cons, List.map_nil]); first | done | rfl | (simp only [List.length_drop, List.length_take]; rfl)) ?_; (with_reducible refine (saga_Step.calls k3 x266000_3 x266001_3 x266002_3 (rd l1 x55_3) a2 t269 t270 t271 t272 t273 _ A32.out).mono ?_); rintro e w96 ⟨rfl, hb⟩; refine ⟨_, rfl, ?_⟩; have n0_ := Aside0.mk (blk_below (g := gb265) (o := .cells #[.int .i64 x266000_3, .bool x266001_3, .int .i64 x266002_3] 23 (0, 0)) (by (with_reducible repeat (first | refine blk_drewN ?_ _ | refine blk_drew ?_ | refine blk_alloc ?_ _)); exact BK265.out) hb); have n1_ := Aside0.mk (blk_below (g := gb267) (o := .cells #[.int .i64 a0_0, .bool a0_1, .int .i64 a0_2] 23 (0, 0)) (by (with_reducible repeat (first | refine blk_drewN ?_ _ | refine blk_drew ?_ | refine blk_alloc ?_ _)); exact BK267.out) hb); have n2_ := Aside0.mk (below_step (by repeat (first | (with_reducible first | exact HB.out | apply below_alloc | apply pw_below_drewN | apply below_drew1 | refine below_set ?_ GE265.out | refine below_set ?_ GE267.out) | exact HB.out)) hb); clear BK265; clear BK267; clear HB; have BK265 := n0_; have BK267 := n1_; have HB := n2_; clear n0_ n1_ n2_; (try clear hb); (try clear hb2); (try clear hk); (try clear hi)) | ((with_reducible refine gate_dst (N := 11) rfl ?_); (try (refine gate_guard (by rfl) ?_; dsimp only)); refine box_event ?hg (N := 11) ?hd (cs := #[.int .i64 0, .bool false, .int .i64 0]) (t := 23) ?hr ?_; (case hd => rfl); (case hg => rfl); (case hr => first | (go_simp; done) | (go_simp; rfl)); intro gb274 hg w97 hbox hb; have n0_ := Aside0.mk (blk_below (g := gb265) (o := .cells #[.int .i64 x266000_3, .bool x266001_3, .int .i64 x266002_3] 23 (0, 0)) (by (with_reducible repeat (first | refine blk_drewN ?_ _ | refine blk_drew ?_ | refine blk_alloc ?_ _)); exact BK265.out) hb); have n1_ := Aside0.mk (blk_below (g := gb267) (o := .cells #[.int .i64 a0_0, .bool a0_1, .int .i64 a0_2] 23 (0, 0)) (by (with_reducible repeat (first | refine blk_drewN ?_ _ | refine blk_drew ?_ | refine blk_alloc ?_ _)); exact BK267.out) hb); have n2_ := Aside0.mk (below_step (by repeat (first | (with_reducible first | exact HB.out | apply below_alloc | apply pw_below_drewN | apply below_drew1 | refine below_set ?_ GE265.out | refine below_set ?_ GE267.out) | exact HB.out)) hb); have n3_ := Aside0.mk (hbox); have n4_ := Aside0.mk ((by rw [hg]; exact (below_size (by repeat (first | (with_reducible first | exact HB.out | apply below_alloc | apply pw_below_drewN | apply below_drew1 | refine below_set ?_ GE265.out | refine below_set ?_ GE267.out) | exact HB.out))) : w.heap.size ≤ gb274)); have n5_ := Aside0.mk ((by rw [hg]; exact (below_size (by repeat (first | (with_reducible first | exact HB.out | apply below_alloc | apply pw_below_drewN | apply below_drew1 | refine below_set ?_ GE265.out | refine below_set ?_ GE267.out) | exact HB.out))) : w.heap.size ≤ gb274)); have n6_ := Aside0.mk ((by rw [hg]; exact Nat.ne_of_lt (blk_lt (g := gb265) (o := .cells #[.int .i64 x266000_3, .bool x266001_3, .int .i64 x266002_3] 23 (0, 0)) (by (with_reducible repeat (first | refine blk_drewN ?_ _ | refine blk_drew ?_ | refine blk_alloc ?_ _)); exact BK265.out)) : gb265 ≠ gb274)); have n7_ := Aside0.mk ((by rw [hg]; exact Nat.ne_of_gt (blk_lt (g := gb265) (o := .cells #[.int .i64 x266000_3, .bool x266001_3, .int .i64 x266002_3] 23 (0, 0)) (by (with_reducible repeat (first | refine blk_drewN ?_ _ | refine blk_drew ?_ | refine blk_alloc ?_ _)); exact BK265.out)) : gb274 ≠ gb265)); have n8_ := Aside0.mk ((by rw [hg]; exact Nat.ne_of_lt (blk_lt (g := gb267) (o := .cells #[.int .i64 a0_0, .bool a0_1, .int .i64 a0_2] 23 (0, 0)) (by (with_reducible repeat (first | refine blk_drewN ?_ _ | refine blk_drew ?_ | refine blk_alloc ?_ _)); exact BK267.out)) : gb267 ≠ gb274)); have n9_ := Aside0.mk ((by rw [hg]; exact Nat.ne_of_gt (blk_lt (g := gb267) (o := .cells #[.int .i64 a0_0, .bool a0_1, .int .i64 a0_2] 23 (0, 0)) (by (with_reducible repeat (first | refine blk_drewN ?_ _ | refine blk_drew ?_ | refine blk_alloc ?_ _)); exact BK267.out)) : gb274 ≠ gb267)); clear BK265; clear BK267; clear HB; have BK265 := n0_; have BK267 := n1_; have HB := n2_; have BK274 := n3_; have GW274 := n4_; have GE274 := n5_; have NB265_274 := n6_; have NB274_265 := n7_; have NB267_274 := n8_; have NB274_267 := n9_; clear n0_ n1_ n2_ n3_ n4_ n5_ n6_ n7_ n8_ n9_; clear hb hbox hg; have hnb98 := NB274_265.out; have hnc98 := NB265_274.out; have hnb99 := NB274_267.out; have hnc99 := NB267_274.out; have hcz100_0 : w97.cell? ⟨gb274, 0, none⟩ = some (.int .i64 0) := (blk_cell BK274.out 0).trans rfl; have hcz100_1 : w97.cell? ⟨gb274, 1, none⟩ = some (.bool false) := (blk_cell BK274.out 1).trans rfl; have hcz100_2 : w97.cell? ⟨gb274, 2, none⟩ = some (.int .i64 0) := (blk_cell BK274.out 2).trans rfl; have hfz100_0 := blk_frozen BK274.out 0; have hfz100_1 := blk_frozen BK274.out 1; have hfz100_2 := blk_frozen BK274.out 2; have hcz101_0 : w97.cell? ⟨gb265, 0, none⟩ = some (.int .i64 x266000_3) := (blk_cell BK265.out 0).trans rfl; have hcz101_1 : w97.cell? ⟨gb265, 1, none⟩ = some (.bool x266001_3) := (blk_cell BK265.out 1).trans rfl; have hcz101_2 : w97.cell? ⟨gb265, 2, none⟩ = some (.int .i64 x266002_3) := (blk_cell BK265.out 2).trans rfl; have hfz101_0 := blk_frozen BK265.out 0; have hfz101_1 := blk_frozen BK265.out 1; have hfz101_2 := blk_frozen BK265.out 2))
                              go_ret
                              exact ⟨by first | rfl | (simp [errW_none, errW_some] <;> rfl) | (simp [*, errW_none, errW_some] <;> rfl), by repeat (first | (with_reducible first | exact HB.out | apply below_alloc | apply pw_below_drewN | apply below_drew1 | refine below_set ?_ GE265.out | refine below_set ?_ GE267.out | refine below_set ?_ GE274.out) | exact HB.out)⟩
                            · rw [if_neg c93] at H
                              have c93b0 : (t273 == 0) = false := beq_eq_false_iff_ne.mpr c93
                              have c93b1 : (t273 != 0) = true := bne_iff_ne.mpr c93
                              by_cases c102 : t269 < 8
                              · rw [if_pos c102] at H
                                have c102b0 : decide (t269 < 8) = true := decide_eq_true c102
                                clear c102
                                obtain rfl := Option.some.inj H
                                have p268 : 0 ≤ (x55_3 : Int) := of_decide_eq_true (by first | (with_reducible assumption) | assumption)
                                have q268 : x55_3 < (l1.length : Int) := of_decide_eq_true (by first | (with_reducible assumption) | assumption)
                                obtain ⟨ad268, e268, hx268_0⟩ := Kd.at_int HR1.out x55_3 p268 q268
                                cases e268
                                replace hx268_0 := (HB.out.cell (World.block_lt_of_cell? w _ hx268_0)).trans hx268_0
                                replace p268 := eq_true p268
                                replace q268 := eq_true q268
                                have hnb103 := NB265_267.out
                                have hnc103 := NB267_265.out
                                have hcz104_0 : wr.cell? ⟨gb265, 0, none⟩ = some (.int .i64 x266000_3) := (blk_cell BK265.out 0).trans rfl
                                have hcz104_1 : wr.cell? ⟨gb265, 1, none⟩ = some (.bool x266001_3) := (blk_cell BK265.out 1).trans rfl
                                have hcz104_2 : wr.cell? ⟨gb265, 2, none⟩ = some (.int .i64 x266002_3) := (blk_cell BK265.out 2).trans rfl
                                have hfz104_0 := blk_frozen BK265.out 0
                                have hfz104_1 := blk_frozen BK265.out 1
                                have hfz104_2 := blk_frozen BK265.out 2
                                go_wp2_with (first | ((with_reducible refine gate_callee (f := 10) rfl ?_); refine goesL_ (some 63) rfl rfl Try.func10 (by kernel_rfl) rfl #[.agg #[.int .i64 x266000_3, .bool x266001_3, .int .i64 x266002_3], .int .i64 (rd l1 x55_3), .int .i64 a2] rfl (by (try simp only [List.map_toArray, List.map_cons, List.map_nil]); first | done | rfl | (simp only [List.length_drop, List.length_take]; rfl)) ?_; (with_reducible refine (saga_Step.calls k3 x266000_3 x266001_3 x266002_3 (rd l1 x55_3) a2 t269 t270 t271 t272 t273 _ A32.out).mono ?_); rintro e w105 ⟨rfl, hb⟩; refine ⟨_, rfl, ?_⟩; have n0_ := Aside0.mk (blk_below (g := gb265) (o := .cells #[.int .i64 x266000_3, .bool x266001_3, .int .i64 x266002_3] 23 (0, 0)) (by (with_reducible repeat (first | refine blk_drewN ?_ _ | refine blk_drew ?_ | refine blk_alloc ?_ _)); exact BK265.out) hb); have n1_ := Aside0.mk (blk_below (g := gb267) (o := .cells #[.int .i64 a0_0, .bool a0_1, .int .i64 a0_2] 23 (0, 0)) (by (with_reducible repeat (first | refine blk_drewN ?_ _ | refine blk_drew ?_ | refine blk_alloc ?_ _)); exact BK267.out) hb); have n2_ := Aside0.mk (below_step (by repeat (first | (with_reducible first | exact HB.out | apply below_alloc | apply pw_below_drewN | apply below_drew1 | refine below_set ?_ GE265.out | refine below_set ?_ GE267.out) | exact HB.out)) hb); clear BK265; clear BK267; clear HB; have BK265 := n0_; have BK267 := n1_; have HB := n2_; clear n0_ n1_ n2_; (try clear hb); (try clear hb2); (try clear hk); (try clear hi)) | ((with_reducible refine gate_dst (N := 11) rfl ?_); (try (refine gate_guard (by rfl) ?_; dsimp only)); refine box_event ?hg (N := 11) ?hd (cs := #[.int .i64 0, .bool false, .int .i64 0]) (t := 23) ?hr ?_; (case hd => rfl); (case hg => rfl); (case hr => first | (go_simp; done) | (go_simp; rfl)); intro gb274 hg w106 hbox hb; have n0_ := Aside0.mk (blk_below (g := gb265) (o := .cells #[.int .i64 x266000_3, .bool x266001_3, .int .i64 x266002_3] 23 (0, 0)) (by (with_reducible repeat (first | refine blk_drewN ?_ _ | refine blk_drew ?_ | refine blk_alloc ?_ _)); exact BK265.out) hb); have n1_ := Aside0.mk (blk_below (g := gb267) (o := .cells #[.int .i64 a0_0, .bool a0_1, .int .i64 a0_2] 23 (0, 0)) (by (with_reducible repeat (first | refine blk_drewN ?_ _ | refine blk_drew ?_ | refine blk_alloc ?_ _)); exact BK267.out) hb); have n2_ := Aside0.mk (below_step (by repeat (first | (with_reducible first | exact HB.out | apply below_alloc | apply pw_below_drewN | apply below_drew1 | refine below_set ?_ GE265.out | refine below_set ?_ GE267.out) | exact HB.out)) hb); have n3_ := Aside0.mk (hbox); have n4_ := Aside0.mk ((by rw [hg]; exact (below_size (by repeat (first | (with_reducible first | exact HB.out | apply below_alloc | apply pw_below_drewN | apply below_drew1 | refine below_set ?_ GE265.out | refine below_set ?_ GE267.out) | exact HB.out))) : w.heap.size ≤ gb274)); have n5_ := Aside0.mk ((by rw [hg]; exact (below_size (by repeat (first | (with_reducible first | exact HB.out | apply below_alloc | apply pw_below_drewN | apply below_drew1 | refine below_set ?_ GE265.out | refine below_set ?_ GE267.out) | exact HB.out))) : w.heap.size ≤ gb274)); have n6_ := Aside0.mk ((by rw [hg]; exact Nat.ne_of_lt (blk_lt (g := gb265) (o := .cells #[.int .i64 x266000_3, .bool x266001_3, .int .i64 x266002_3] 23 (0, 0)) (by (with_reducible repeat (first | refine blk_drewN ?_ _ | refine blk_drew ?_ | refine blk_alloc ?_ _)); exact BK265.out)) : gb265 ≠ gb274)); have n7_ := Aside0.mk ((by rw [hg]; exact Nat.ne_of_gt (blk_lt (g := gb265) (o := .cells #[.int .i64 x266000_3, .bool x266001_3, .int .i64 x266002_3] 23 (0, 0)) (by (with_reducible repeat (first | refine blk_drewN ?_ _ | refine blk_drew ?_ | refine blk_alloc ?_ _)); exact BK265.out)) : gb274 ≠ gb265)); have n8_ := Aside0.mk ((by rw [hg]; exact Nat.ne_of_lt (blk_lt (g := gb267) (o := .cells #[.int .i64 a0_0, .bool a0_1, .int .i64 a0_2] 23 (0, 0)) (by (with_reducible repeat (first | refine blk_drewN ?_ _ | refine blk_drew ?_ | refine blk_alloc ?_ _)); exact BK267.out)) : gb267 ≠ gb274)); have n9_ := Aside0.mk ((by rw [hg]; exact Nat.ne_of_gt (blk_lt (g := gb267) (o := .cells #[.int .i64 a0_0, .bool a0_1, .int .i64 a0_2] 23 (0, 0)) (by (with_reducible repeat (first | refine blk_drewN ?_ _ | refine blk_drew ?_ | refine blk_alloc ?_ _)); exact BK267.out)) : gb274 ≠ gb267)); clear BK265; clear BK267; clear HB; have BK265 := n0_; have BK267 := n1_; have HB := n2_; have BK274 := n3_; have GW274 := n4_; have GE274 := n5_; have NB265_274 := n6_; have NB274_265 := n7_; have NB267_274 := n8_; have NB274_267 := n9_; clear n0_ n1_ n2_ n3_ n4_ n5_ n6_ n7_ n8_ n9_; clear hb hbox hg; have hnb107 := NB274_265.out; have hnc107 := NB265_274.out; have hnb108 := NB274_267.out; have hnc108 := NB267_274.out; have hcz109_0 : w106.cell? ⟨gb274, 0, none⟩ = some (.int .i64 0) := (blk_cell BK274.out 0).trans rfl; have hcz109_1 : w106.cell? ⟨gb274, 1, none⟩ = some (.bool false) := (blk_cell BK274.out 1).trans rfl; have hcz109_2 : w106.cell? ⟨gb274, 2, none⟩ = some (.int .i64 0) := (blk_cell BK274.out 2).trans rfl; have hfz109_0 := blk_frozen BK274.out 0; have hfz109_1 := blk_frozen BK274.out 1; have hfz109_2 := blk_frozen BK274.out 2; have hcz110_0 : w106.cell? ⟨gb265, 0, none⟩ = some (.int .i64 x266000_3) := (blk_cell BK265.out 0).trans rfl; have hcz110_1 : w106.cell? ⟨gb265, 1, none⟩ = some (.bool x266001_3) := (blk_cell BK265.out 1).trans rfl; have hcz110_2 : w106.cell? ⟨gb265, 2, none⟩ = some (.int .i64 x266002_3) := (blk_cell BK265.out 2).trans rfl; have hfz110_0 := blk_frozen BK265.out 0; have hfz110_1 := blk_frozen BK265.out 1; have hfz110_2 := blk_frozen BK265.out 2))
                                go_ret
                                exact ⟨by first | rfl | (simp [errW_none, errW_some] <;> rfl) | (simp [*, errW_none, errW_some] <;> rfl), by repeat (first | (with_reducible first | exact HB.out | apply below_alloc | apply pw_below_drewN | apply below_drew1 | refine below_set ?_ GE265.out | refine below_set ?_ GE267.out | refine below_set ?_ GE274.out) | exact HB.out)⟩
                              · rw [if_neg c102] at H
                                have c102b0 : decide (t269 < 8) = false := decide_eq_false c102
                                clear c102
                                have H' := Aside0.mk H
                                clear H
                                have p268 : 0 ≤ (x55_3 : Int) := of_decide_eq_true (by first | (with_reducible assumption) | assumption)
                                have q268 : x55_3 < (l1.length : Int) := of_decide_eq_true (by first | (with_reducible assumption) | assumption)
                                obtain ⟨ad268, e268, hx268_0⟩ := Kd.at_int HR1.out x55_3 p268 q268
                                cases e268
                                replace hx268_0 := (HB.out.cell (World.block_lt_of_cell? w _ hx268_0)).trans hx268_0
                                replace p268 := eq_true p268
                                replace q268 := eq_true q268
                                have hnb111 := NB265_267.out
                                have hnc111 := NB267_265.out
                                have hcz112_0 : wr.cell? ⟨gb265, 0, none⟩ = some (.int .i64 x266000_3) := (blk_cell BK265.out 0).trans rfl
                                have hcz112_1 : wr.cell? ⟨gb265, 1, none⟩ = some (.bool x266001_3) := (blk_cell BK265.out 1).trans rfl
                                have hcz112_2 : wr.cell? ⟨gb265, 2, none⟩ = some (.int .i64 x266002_3) := (blk_cell BK265.out 2).trans rfl
                                have hfz112_0 := blk_frozen BK265.out 0
                                have hfz112_1 := blk_frozen BK265.out 1
                                have hfz112_2 := blk_frozen BK265.out 2
                                go_wp2_with (first | ((with_reducible refine gate_callee (f := 10) rfl ?_); refine goesL_ (some 63) rfl rfl Try.func10 (by kernel_rfl) rfl #[.agg #[.int .i64 x266000_3, .bool x266001_3, .int .i64 x266002_3], .int .i64 (rd l1 x55_3), .int .i64 a2] rfl (by (try simp only [List.map_toArray, List.map_cons, List.map_nil]); first | done | rfl | (simp only [List.length_drop, List.length_take]; rfl)) ?_; (with_reducible refine (saga_Step.calls k3 x266000_3 x266001_3 x266002_3 (rd l1 x55_3) a2 t269 t270 t271 t272 t273 _ A32.out).mono ?_); rintro e w113 ⟨rfl, hb⟩; refine ⟨_, rfl, ?_⟩; have n0_ := Aside0.mk (blk_below (g := gb265) (o := .cells #[.int .i64 x266000_3, .bool x266001_3, .int .i64 x266002_3] 23 (0, 0)) (by (with_reducible repeat (first | refine blk_drewN ?_ _ | refine blk_drew ?_ | refine blk_alloc ?_ _)); exact BK265.out) hb); have n1_ := Aside0.mk (blk_below (g := gb267) (o := .cells #[.int .i64 a0_0, .bool a0_1, .int .i64 a0_2] 23 (0, 0)) (by (with_reducible repeat (first | refine blk_drewN ?_ _ | refine blk_drew ?_ | refine blk_alloc ?_ _)); exact BK267.out) hb); have n2_ := Aside0.mk (below_step (by repeat (first | (with_reducible first | exact HB.out | apply below_alloc | apply pw_below_drewN | apply below_drew1 | refine below_set ?_ GE265.out | refine below_set ?_ GE267.out) | exact HB.out)) hb); clear BK265; clear BK267; clear HB; have BK265 := n0_; have BK267 := n1_; have HB := n2_; clear n0_ n1_ n2_; (try clear hb); (try clear hb2); (try clear hk); (try clear hi)) | ((with_reducible refine gate_dst (N := 11) rfl ?_); (try (refine gate_guard (by rfl) ?_; dsimp only)); refine box_event ?hg (N := 11) ?hd (cs := #[.int .i64 0, .bool false, .int .i64 0]) (t := 23) ?hr ?_; (case hd => rfl); (case hg => rfl); (case hr => first | (go_simp; done) | (go_simp; rfl)); intro gb274 hg w114 hbox hb; have n0_ := Aside0.mk (blk_below (g := gb265) (o := .cells #[.int .i64 x266000_3, .bool x266001_3, .int .i64 x266002_3] 23 (0, 0)) (by (with_reducible repeat (first | refine blk_drewN ?_ _ | refine blk_drew ?_ | refine blk_alloc ?_ _)); exact BK265.out) hb); have n1_ := Aside0.mk (blk_below (g := gb267) (o := .cells #[.int .i64 a0_0, .bool a0_1, .int .i64 a0_2] 23 (0, 0)) (by (with_reducible repeat (first | refine blk_drewN ?_ _ | refine blk_drew ?_ | refine blk_alloc ?_ _)); exact BK267.out) hb); have n2_ := Aside0.mk (below_step (by repeat (first | (with_reducible first | exact HB.out | apply below_alloc | apply pw_below_drewN | apply below_drew1 | refine below_set ?_ GE265.out | refine below_set ?_ GE267.out) | exact HB.out)) hb); have n3_ := Aside0.mk (hbox); have n4_ := Aside0.mk ((by rw [hg]; exact (below_size (by repeat (first | (with_reducible first | exact HB.out | apply below_alloc | apply pw_below_drewN | apply below_drew1 | refine below_set ?_ GE265.out | refine below_set ?_ GE267.out) | exact HB.out))) : w.heap.size ≤ gb274)); have n5_ := Aside0.mk ((by rw [hg]; exact (below_size (by repeat (first | (with_reducible first | exact HB.out | apply below_alloc | apply pw_below_drewN | apply below_drew1 | refine below_set ?_ GE265.out | refine below_set ?_ GE267.out) | exact HB.out))) : w.heap.size ≤ gb274)); have n6_ := Aside0.mk ((by rw [hg]; exact Nat.ne_of_lt (blk_lt (g := gb265) (o := .cells #[.int .i64 x266000_3, .bool x266001_3, .int .i64 x266002_3] 23 (0, 0)) (by (with_reducible repeat (first | refine blk_drewN ?_ _ | refine blk_drew ?_ | refine blk_alloc ?_ _)); exact BK265.out)) : gb265 ≠ gb274)); have n7_ := Aside0.mk ((by rw [hg]; exact Nat.ne_of_gt (blk_lt (g := gb265) (o := .cells #[.int .i64 x266000_3, .bool x266001_3, .int .i64 x266002_3] 23 (0, 0)) (by (with_reducible repeat (first | refine blk_drewN ?_ _ | refine blk_drew ?_ | refine blk_alloc ?_ _)); exact BK265.out)) : gb274 ≠ gb265)); have n8_ := Aside0.mk ((by rw [hg]; exact Nat.ne_of_lt (blk_lt (g := gb267) (o := .cells #[.int .i64 a0_0, .bool a0_1, .int .i64 a0_2] 23 (0, 0)) (by (with_reducible repeat (first | refine blk_drewN ?_ _ | refine blk_drew ?_ | refine blk_alloc ?_ _)); exact BK267.out)) : gb267 ≠ gb274)); have n9_ := Aside0.mk ((by rw [hg]; exact Nat.ne_of_gt (blk_lt (g := gb267) (o := .cells #[.int .i64 a0_0, .bool a0_1, .int .i64 a0_2] 23 (0, 0)) (by (with_reducible repeat (first | refine blk_drewN ?_ _ | refine blk_drew ?_ | refine blk_alloc ?_ _)); exact BK267.out)) : gb274 ≠ gb267)); clear BK265; clear BK267; clear HB; have BK265 := n0_; have BK267 := n1_; have HB := n2_; have BK274 := n3_; have GW274 := n4_; have GE274 := n5_; have NB265_274 := n6_; have NB274_265 := n7_; have NB267_274 := n8_; have NB274_267 := n9_; clear n0_ n1_ n2_ n3_ n4_ n5_ n6_ n7_ n8_ n9_; clear hb hbox hg; have hnb115 := NB274_265.out; have hnc115 := NB265_274.out; have hnb116 := NB274_267.out; have hnc116 := NB267_274.out; have hcz117_0 : w114.cell? ⟨gb274, 0, none⟩ = some (.int .i64 0) := (blk_cell BK274.out 0).trans rfl; have hcz117_1 : w114.cell? ⟨gb274, 1, none⟩ = some (.bool false) := (blk_cell BK274.out 1).trans rfl; have hcz117_2 : w114.cell? ⟨gb274, 2, none⟩ = some (.int .i64 0) := (blk_cell BK274.out 2).trans rfl; have hfz117_0 := blk_frozen BK274.out 0; have hfz117_1 := blk_frozen BK274.out 1; have hfz117_2 := blk_frozen BK274.out 2; have hcz118_0 : w114.cell? ⟨gb265, 0, none⟩ = some (.int .i64 x266000_3) := (blk_cell BK265.out 0).trans rfl; have hcz118_1 : w114.cell? ⟨gb265, 1, none⟩ = some (.bool x266001_3) := (blk_cell BK265.out 1).trans rfl; have hcz118_2 : w114.cell? ⟨gb265, 2, none⟩ = some (.int .i64 x266002_3) := (blk_cell BK265.out 2).trans rfl; have hfz118_0 := blk_frozen BK265.out 0; have hfz118_1 := blk_frozen BK265.out 1; have hfz118_2 := blk_frozen BK265.out 2))
                                go_roundg k3
                                case measure => have := HJ5.out; have := HJ18.out; have := HK3.out; omega
                                case rel => exact ⟨(wrap64 (x55_3 + 1)), (t269), (t270), (t271), (by first | rfl | (simp; done) | (simp [*]; done)), H', ⟨by have := HJ5.out; have := HJ18.out; have := HK3.out; omega⟩, ⟨by (with_reducible repeat (first | refine blk_drewN ?_ _ | refine blk_drew ?_ | refine blk_alloc ?_ _)); refine blk_put (cs := #[.int .i64 t269, .bool t270, .int .i64 x266002_3]) ?_ 2 _ rfl; (with_reducible repeat (first | refine blk_drewN ?_ _ | refine blk_drew ?_ | refine blk_alloc ?_ _)); refine blk_put (cs := #[.int .i64 t269, .bool x266001_3, .int .i64 x266002_3]) ?_ 1 _ rfl; (with_reducible repeat (first | refine blk_drewN ?_ _ | refine blk_drew ?_ | refine blk_alloc ?_ _)); refine blk_put (cs := #[.int .i64 x266000_3, .bool x266001_3, .int .i64 x266002_3]) ?_ 0 _ rfl; (with_reducible repeat (first | refine blk_drewN ?_ _ | refine blk_drew ?_ | refine blk_alloc ?_ _)); refine blk_far ?_ NB265_274.out _; (with_reducible repeat (first | refine blk_drewN ?_ _ | refine blk_drew ?_ | refine blk_alloc ?_ _)); refine blk_far ?_ NB265_274.out _; (with_reducible repeat (first | refine blk_drewN ?_ _ | refine blk_drew ?_ | refine blk_alloc ?_ _)); refine blk_far ?_ NB265_274.out _; (with_reducible repeat (first | refine blk_drewN ?_ _ | refine blk_drew ?_ | refine blk_alloc ?_ _)); exact BK265.out⟩, ⟨by (with_reducible repeat (first | refine blk_drewN ?_ _ | refine blk_drew ?_ | refine blk_alloc ?_ _)); refine blk_far ?_ NB267_265.out _; (with_reducible repeat (first | refine blk_drewN ?_ _ | refine blk_drew ?_ | refine blk_alloc ?_ _)); refine blk_far ?_ NB267_265.out _; (with_reducible repeat (first | refine blk_drewN ?_ _ | refine blk_drew ?_ | refine blk_alloc ?_ _)); refine blk_far ?_ NB267_265.out _; (with_reducible repeat (first | refine blk_drewN ?_ _ | refine blk_drew ?_ | refine blk_alloc ?_ _)); refine blk_far ?_ NB267_274.out _; (with_reducible repeat (first | refine blk_drewN ?_ _ | refine blk_drew ?_ | refine blk_alloc ?_ _)); refine blk_far ?_ NB267_274.out _; (with_reducible repeat (first | refine blk_drewN ?_ _ | refine blk_drew ?_ | refine blk_alloc ?_ _)); refine blk_far ?_ NB267_274.out _; (with_reducible repeat (first | refine blk_drewN ?_ _ | refine blk_drew ?_ | refine blk_alloc ?_ _)); exact BK267.out⟩, ⟨by repeat (first | (with_reducible first | exact HB.out | apply below_alloc | apply pw_below_drewN | apply below_drew1 | refine below_set ?_ GE265.out | refine below_set ?_ GE267.out | refine below_set ?_ GE274.out) | exact HB.out)⟩⟩
                          · rw [if_neg c92] at H
                            have c92b0 : decide (t269 < x266000_3) = false := decide_eq_false c92
                            clear c92
                            by_cases c119 : t269 < 8
                            · rw [if_pos c119] at H
                              have c119b0 : decide (t269 < 8) = true := decide_eq_true c119
                              clear c119
                              obtain rfl := Option.some.inj H
                              have p268 : 0 ≤ (x55_3 : Int) := of_decide_eq_true (by first | (with_reducible assumption) | assumption)
                              have q268 : x55_3 < (l1.length : Int) := of_decide_eq_true (by first | (with_reducible assumption) | assumption)
                              obtain ⟨ad268, e268, hx268_0⟩ := Kd.at_int HR1.out x55_3 p268 q268
                              cases e268
                              replace hx268_0 := (HB.out.cell (World.block_lt_of_cell? w _ hx268_0)).trans hx268_0
                              replace p268 := eq_true p268
                              replace q268 := eq_true q268
                              have hnb120 := NB265_267.out
                              have hnc120 := NB267_265.out
                              have hcz121_0 : wr.cell? ⟨gb265, 0, none⟩ = some (.int .i64 x266000_3) := (blk_cell BK265.out 0).trans rfl
                              have hcz121_1 : wr.cell? ⟨gb265, 1, none⟩ = some (.bool x266001_3) := (blk_cell BK265.out 1).trans rfl
                              have hcz121_2 : wr.cell? ⟨gb265, 2, none⟩ = some (.int .i64 x266002_3) := (blk_cell BK265.out 2).trans rfl
                              have hfz121_0 := blk_frozen BK265.out 0
                              have hfz121_1 := blk_frozen BK265.out 1
                              have hfz121_2 := blk_frozen BK265.out 2
                              go_wp2_with (first | ((with_reducible refine gate_callee (f := 10) rfl ?_); refine goesL_ (some 63) rfl rfl Try.func10 (by kernel_rfl) rfl #[.agg #[.int .i64 x266000_3, .bool x266001_3, .int .i64 x266002_3], .int .i64 (rd l1 x55_3), .int .i64 a2] rfl (by (try simp only [List.map_toArray, List.map_cons, List.map_nil]); first | done | rfl | (simp only [List.length_drop, List.length_take]; rfl)) ?_; (with_reducible refine (saga_Step.calls k3 x266000_3 x266001_3 x266002_3 (rd l1 x55_3) a2 t269 t270 t271 t272 t273 _ A32.out).mono ?_); rintro e w122 ⟨rfl, hb⟩; refine ⟨_, rfl, ?_⟩; have n0_ := Aside0.mk (blk_below (g := gb265) (o := .cells #[.int .i64 x266000_3, .bool x266001_3, .int .i64 x266002_3] 23 (0, 0)) (by (with_reducible repeat (first | refine blk_drewN ?_ _ | refine blk_drew ?_ | refine blk_alloc ?_ _)); exact BK265.out) hb); have n1_ := Aside0.mk (blk_below (g := gb267) (o := .cells #[.int .i64 a0_0, .bool a0_1, .int .i64 a0_2] 23 (0, 0)) (by (with_reducible repeat (first | refine blk_drewN ?_ _ | refine blk_drew ?_ | refine blk_alloc ?_ _)); exact BK267.out) hb); have n2_ := Aside0.mk (below_step (by repeat (first | (with_reducible first | exact HB.out | apply below_alloc | apply pw_below_drewN | apply below_drew1 | refine below_set ?_ GE265.out | refine below_set ?_ GE267.out) | exact HB.out)) hb); clear BK265; clear BK267; clear HB; have BK265 := n0_; have BK267 := n1_; have HB := n2_; clear n0_ n1_ n2_; (try clear hb); (try clear hb2); (try clear hk); (try clear hi)) | ((with_reducible refine gate_dst (N := 11) rfl ?_); (try (refine gate_guard (by rfl) ?_; dsimp only)); refine box_event ?hg (N := 11) ?hd (cs := #[.int .i64 0, .bool false, .int .i64 0]) (t := 23) ?hr ?_; (case hd => rfl); (case hg => rfl); (case hr => first | (go_simp; done) | (go_simp; rfl)); intro gb274 hg w123 hbox hb; have n0_ := Aside0.mk (blk_below (g := gb265) (o := .cells #[.int .i64 x266000_3, .bool x266001_3, .int .i64 x266002_3] 23 (0, 0)) (by (with_reducible repeat (first | refine blk_drewN ?_ _ | refine blk_drew ?_ | refine blk_alloc ?_ _)); exact BK265.out) hb); have n1_ := Aside0.mk (blk_below (g := gb267) (o := .cells #[.int .i64 a0_0, .bool a0_1, .int .i64 a0_2] 23 (0, 0)) (by (with_reducible repeat (first | refine blk_drewN ?_ _ | refine blk_drew ?_ | refine blk_alloc ?_ _)); exact BK267.out) hb); have n2_ := Aside0.mk (below_step (by repeat (first | (with_reducible first | exact HB.out | apply below_alloc | apply pw_below_drewN | apply below_drew1 | refine below_set ?_ GE265.out | refine below_set ?_ GE267.out) | exact HB.out)) hb); have n3_ := Aside0.mk (hbox); have n4_ := Aside0.mk ((by rw [hg]; exact (below_size (by repeat (first | (with_reducible first | exact HB.out | apply below_alloc | apply pw_below_drewN | apply below_drew1 | refine below_set ?_ GE265.out | refine below_set ?_ GE267.out) | exact HB.out))) : w.heap.size ≤ gb274)); have n5_ := Aside0.mk ((by rw [hg]; exact (below_size (by repeat (first | (with_reducible first | exact HB.out | apply below_alloc | apply pw_below_drewN | apply below_drew1 | refine below_set ?_ GE265.out | refine below_set ?_ GE267.out) | exact HB.out))) : w.heap.size ≤ gb274)); have n6_ := Aside0.mk ((by rw [hg]; exact Nat.ne_of_lt (blk_lt (g := gb265) (o := .cells #[.int .i64 x266000_3, .bool x266001_3, .int .i64 x266002_3] 23 (0, 0)) (by (with_reducible repeat (first | refine blk_drewN ?_ _ | refine blk_drew ?_ | refine blk_alloc ?_ _)); exact BK265.out)) : gb265 ≠ gb274)); have n7_ := Aside0.mk ((by rw [hg]; exact Nat.ne_of_gt (blk_lt (g := gb265) (o := .cells #[.int .i64 x266000_3, .bool x266001_3, .int .i64 x266002_3] 23 (0, 0)) (by (with_reducible repeat (first | refine blk_drewN ?_ _ | refine blk_drew ?_ | refine blk_alloc ?_ _)); exact BK265.out)) : gb274 ≠ gb265)); have n8_ := Aside0.mk ((by rw [hg]; exact Nat.ne_of_lt (blk_lt (g := gb267) (o := .cells #[.int .i64 a0_0, .bool a0_1, .int .i64 a0_2] 23 (0, 0)) (by (with_reducible repeat (first | refine blk_drewN ?_ _ | refine blk_drew ?_ | refine blk_alloc ?_ _)); exact BK267.out)) : gb267 ≠ gb274)); have n9_ := Aside0.mk ((by rw [hg]; exact Nat.ne_of_gt (blk_lt (g := gb267) (o := .cells #[.int .i64 a0_0, .bool a0_1, .int .i64 a0_2] 23 (0, 0)) (by (with_reducible repeat (first | refine blk_drewN ?_ _ | refine blk_drew ?_ | refine blk_alloc ?_ _)); exact BK267.out)) : gb274 ≠ gb267)); clear BK265; clear BK267; clear HB; have BK265 := n0_; have BK267 := n1_; have HB := n2_; have BK274 := n3_; have GW274 := n4_; have GE274 := n5_; have NB265_274 := n6_; have NB274_265 := n7_; have NB267_274 := n8_; have NB274_267 := n9_; clear n0_ n1_ n2_ n3_ n4_ n5_ n6_ n7_ n8_ n9_; clear hb hbox hg; have hnb124 := NB274_265.out; have hnc124 := NB265_274.out; have hnb125 := NB274_267.out; have hnc125 := NB267_274.out; have hcz126_0 : w123.cell? ⟨gb274, 0, none⟩ = some (.int .i64 0) := (blk_cell BK274.out 0).trans rfl; have hcz126_1 : w123.cell? ⟨gb274, 1, none⟩ = some (.bool false) := (blk_cell BK274.out 1).trans rfl; have hcz126_2 : w123.cell? ⟨gb274, 2, none⟩ = some (.int .i64 0) := (blk_cell BK274.out 2).trans rfl; have hfz126_0 := blk_frozen BK274.out 0; have hfz126_1 := blk_frozen BK274.out 1; have hfz126_2 := blk_frozen BK274.out 2; have hcz127_0 : w123.cell? ⟨gb265, 0, none⟩ = some (.int .i64 x266000_3) := (blk_cell BK265.out 0).trans rfl; have hcz127_1 : w123.cell? ⟨gb265, 1, none⟩ = some (.bool x266001_3) := (blk_cell BK265.out 1).trans rfl; have hcz127_2 : w123.cell? ⟨gb265, 2, none⟩ = some (.int .i64 x266002_3) := (blk_cell BK265.out 2).trans rfl; have hfz127_0 := blk_frozen BK265.out 0; have hfz127_1 := blk_frozen BK265.out 1; have hfz127_2 := blk_frozen BK265.out 2))
                              go_ret
                              exact ⟨by first | rfl | (simp [errW_none, errW_some] <;> rfl) | (simp [*, errW_none, errW_some] <;> rfl), by repeat (first | (with_reducible first | exact HB.out | apply below_alloc | apply pw_below_drewN | apply below_drew1 | refine below_set ?_ GE265.out | refine below_set ?_ GE267.out | refine below_set ?_ GE274.out) | exact HB.out)⟩
                            · rw [if_neg c119] at H
                              have c119b0 : decide (t269 < 8) = false := decide_eq_false c119
                              clear c119
                              have H' := Aside0.mk H
                              clear H
                              have p268 : 0 ≤ (x55_3 : Int) := of_decide_eq_true (by first | (with_reducible assumption) | assumption)
                              have q268 : x55_3 < (l1.length : Int) := of_decide_eq_true (by first | (with_reducible assumption) | assumption)
                              obtain ⟨ad268, e268, hx268_0⟩ := Kd.at_int HR1.out x55_3 p268 q268
                              cases e268
                              replace hx268_0 := (HB.out.cell (World.block_lt_of_cell? w _ hx268_0)).trans hx268_0
                              replace p268 := eq_true p268
                              replace q268 := eq_true q268
                              have hnb128 := NB265_267.out
                              have hnc128 := NB267_265.out
                              have hcz129_0 : wr.cell? ⟨gb265, 0, none⟩ = some (.int .i64 x266000_3) := (blk_cell BK265.out 0).trans rfl
                              have hcz129_1 : wr.cell? ⟨gb265, 1, none⟩ = some (.bool x266001_3) := (blk_cell BK265.out 1).trans rfl
                              have hcz129_2 : wr.cell? ⟨gb265, 2, none⟩ = some (.int .i64 x266002_3) := (blk_cell BK265.out 2).trans rfl
                              have hfz129_0 := blk_frozen BK265.out 0
                              have hfz129_1 := blk_frozen BK265.out 1
                              have hfz129_2 := blk_frozen BK265.out 2
                              go_wp2_with (first | ((with_reducible refine gate_callee (f := 10) rfl ?_); refine goesL_ (some 63) rfl rfl Try.func10 (by kernel_rfl) rfl #[.agg #[.int .i64 x266000_3, .bool x266001_3, .int .i64 x266002_3], .int .i64 (rd l1 x55_3), .int .i64 a2] rfl (by (try simp only [List.map_toArray, List.map_cons, List.map_nil]); first | done | rfl | (simp only [List.length_drop, List.length_take]; rfl)) ?_; (with_reducible refine (saga_Step.calls k3 x266000_3 x266001_3 x266002_3 (rd l1 x55_3) a2 t269 t270 t271 t272 t273 _ A32.out).mono ?_); rintro e w130 ⟨rfl, hb⟩; refine ⟨_, rfl, ?_⟩; have n0_ := Aside0.mk (blk_below (g := gb265) (o := .cells #[.int .i64 x266000_3, .bool x266001_3, .int .i64 x266002_3] 23 (0, 0)) (by (with_reducible repeat (first | refine blk_drewN ?_ _ | refine blk_drew ?_ | refine blk_alloc ?_ _)); exact BK265.out) hb); have n1_ := Aside0.mk (blk_below (g := gb267) (o := .cells #[.int .i64 a0_0, .bool a0_1, .int .i64 a0_2] 23 (0, 0)) (by (with_reducible repeat (first | refine blk_drewN ?_ _ | refine blk_drew ?_ | refine blk_alloc ?_ _)); exact BK267.out) hb); have n2_ := Aside0.mk (below_step (by repeat (first | (with_reducible first | exact HB.out | apply below_alloc | apply pw_below_drewN | apply below_drew1 | refine below_set ?_ GE265.out | refine below_set ?_ GE267.out) | exact HB.out)) hb); clear BK265; clear BK267; clear HB; have BK265 := n0_; have BK267 := n1_; have HB := n2_; clear n0_ n1_ n2_; (try clear hb); (try clear hb2); (try clear hk); (try clear hi)) | ((with_reducible refine gate_dst (N := 11) rfl ?_); (try (refine gate_guard (by rfl) ?_; dsimp only)); refine box_event ?hg (N := 11) ?hd (cs := #[.int .i64 0, .bool false, .int .i64 0]) (t := 23) ?hr ?_; (case hd => rfl); (case hg => rfl); (case hr => first | (go_simp; done) | (go_simp; rfl)); intro gb274 hg w131 hbox hb; have n0_ := Aside0.mk (blk_below (g := gb265) (o := .cells #[.int .i64 x266000_3, .bool x266001_3, .int .i64 x266002_3] 23 (0, 0)) (by (with_reducible repeat (first | refine blk_drewN ?_ _ | refine blk_drew ?_ | refine blk_alloc ?_ _)); exact BK265.out) hb); have n1_ := Aside0.mk (blk_below (g := gb267) (o := .cells #[.int .i64 a0_0, .bool a0_1, .int .i64 a0_2] 23 (0, 0)) (by (with_reducible repeat (first | refine blk_drewN ?_ _ | refine blk_drew ?_ | refine blk_alloc ?_ _)); exact BK267.out) hb); have n2_ := Aside0.mk (below_step (by repeat (first | (with_reducible first | exact HB.out | apply below_alloc | apply pw_below_drewN | apply below_drew1 | refine below_set ?_ GE265.out | refine below_set ?_ GE267.out) | exact HB.out)) hb); have n3_ := Aside0.mk (hbox); have n4_ := Aside0.mk ((by rw [hg]; exact (below_size (by repeat (first | (with_reducible first | exact HB.out | apply below_alloc | apply pw_below_drewN | apply below_drew1 | refine below_set ?_ GE265.out | refine below_set ?_ GE267.out) | exact HB.out))) : w.heap.size ≤ gb274)); have n5_ := Aside0.mk ((by rw [hg]; exact (below_size (by repeat (first | (with_reducible first | exact HB.out | apply below_alloc | apply pw_below_drewN | apply below_drew1 | refine below_set ?_ GE265.out | refine below_set ?_ GE267.out) | exact HB.out))) : w.heap.size ≤ gb274)); have n6_ := Aside0.mk ((by rw [hg]; exact Nat.ne_of_lt (blk_lt (g := gb265) (o := .cells #[.int .i64 x266000_3, .bool x266001_3, .int .i64 x266002_3] 23 (0, 0)) (by (with_reducible repeat (first | refine blk_drewN ?_ _ | refine blk_drew ?_ | refine blk_alloc ?_ _)); exact BK265.out)) : gb265 ≠ gb274)); have n7_ := Aside0.mk ((by rw [hg]; exact Nat.ne_of_gt (blk_lt (g := gb265) (o := .cells #[.int .i64 x266000_3, .bool x266001_3, .int .i64 x266002_3] 23 (0, 0)) (by (with_reducible repeat (first | refine blk_drewN ?_ _ | refine blk_drew ?_ | refine blk_alloc ?_ _)); exact BK265.out)) : gb274 ≠ gb265)); have n8_ := Aside0.mk ((by rw [hg]; exact Nat.ne_of_lt (blk_lt (g := gb267) (o := .cells #[.int .i64 a0_0, .bool a0_1, .int .i64 a0_2] 23 (0, 0)) (by (with_reducible repeat (first | refine blk_drewN ?_ _ | refine blk_drew ?_ | refine blk_alloc ?_ _)); exact BK267.out)) : gb267 ≠ gb274)); have n9_ := Aside0.mk ((by rw [hg]; exact Nat.ne_of_gt (blk_lt (g := gb267) (o := .cells #[.int .i64 a0_0, .bool a0_1, .int .i64 a0_2] 23 (0, 0)) (by (with_reducible repeat (first | refine blk_drewN ?_ _ | refine blk_drew ?_ | refine blk_alloc ?_ _)); exact BK267.out)) : gb274 ≠ gb267)); clear BK265; clear BK267; clear HB; have BK265 := n0_; have BK267 := n1_; have HB := n2_; have BK274 := n3_; have GW274 := n4_; have GE274 := n5_; have NB265_274 := n6_; have NB274_265 := n7_; have NB267_274 := n8_; have NB274_267 := n9_; clear n0_ n1_ n2_ n3_ n4_ n5_ n6_ n7_ n8_ n9_; clear hb hbox hg; have hnb132 := NB274_265.out; have hnc132 := NB265_274.out; have hnb133 := NB274_267.out; have hnc133 := NB267_274.out; have hcz134_0 : w131.cell? ⟨gb274, 0, none⟩ = some (.int .i64 0) := (blk_cell BK274.out 0).trans rfl; have hcz134_1 : w131.cell? ⟨gb274, 1, none⟩ = some (.bool false) := (blk_cell BK274.out 1).trans rfl; have hcz134_2 : w131.cell? ⟨gb274, 2, none⟩ = some (.int .i64 0) := (blk_cell BK274.out 2).trans rfl; have hfz134_0 := blk_frozen BK274.out 0; have hfz134_1 := blk_frozen BK274.out 1; have hfz134_2 := blk_frozen BK274.out 2; have hcz135_0 : w131.cell? ⟨gb265, 0, none⟩ = some (.int .i64 x266000_3) := (blk_cell BK265.out 0).trans rfl; have hcz135_1 : w131.cell? ⟨gb265, 1, none⟩ = some (.bool x266001_3) := (blk_cell BK265.out 1).trans rfl; have hcz135_2 : w131.cell? ⟨gb265, 2, none⟩ = some (.int .i64 x266002_3) := (blk_cell BK265.out 2).trans rfl; have hfz135_0 := blk_frozen BK265.out 0; have hfz135_1 := blk_frozen BK265.out 1; have hfz135_2 := blk_frozen BK265.out 2))
                              go_roundg k3
                              case measure => have := HJ5.out; have := HJ18.out; have := HK3.out; omega
                              case rel => exact ⟨(wrap64 (x55_3 + 1)), (t269), (t270), (t271), (by first | rfl | (simp; done) | (simp [*]; done)), H', ⟨by have := HJ5.out; have := HJ18.out; have := HK3.out; omega⟩, ⟨by (with_reducible repeat (first | refine blk_drewN ?_ _ | refine blk_drew ?_ | refine blk_alloc ?_ _)); refine blk_put (cs := #[.int .i64 t269, .bool t270, .int .i64 x266002_3]) ?_ 2 _ rfl; (with_reducible repeat (first | refine blk_drewN ?_ _ | refine blk_drew ?_ | refine blk_alloc ?_ _)); refine blk_put (cs := #[.int .i64 t269, .bool x266001_3, .int .i64 x266002_3]) ?_ 1 _ rfl; (with_reducible repeat (first | refine blk_drewN ?_ _ | refine blk_drew ?_ | refine blk_alloc ?_ _)); refine blk_put (cs := #[.int .i64 x266000_3, .bool x266001_3, .int .i64 x266002_3]) ?_ 0 _ rfl; (with_reducible repeat (first | refine blk_drewN ?_ _ | refine blk_drew ?_ | refine blk_alloc ?_ _)); refine blk_far ?_ NB265_274.out _; (with_reducible repeat (first | refine blk_drewN ?_ _ | refine blk_drew ?_ | refine blk_alloc ?_ _)); refine blk_far ?_ NB265_274.out _; (with_reducible repeat (first | refine blk_drewN ?_ _ | refine blk_drew ?_ | refine blk_alloc ?_ _)); refine blk_far ?_ NB265_274.out _; (with_reducible repeat (first | refine blk_drewN ?_ _ | refine blk_drew ?_ | refine blk_alloc ?_ _)); exact BK265.out⟩, ⟨by (with_reducible repeat (first | refine blk_drewN ?_ _ | refine blk_drew ?_ | refine blk_alloc ?_ _)); refine blk_far ?_ NB267_265.out _; (with_reducible repeat (first | refine blk_drewN ?_ _ | refine blk_drew ?_ | refine blk_alloc ?_ _)); refine blk_far ?_ NB267_265.out _; (with_reducible repeat (first | refine blk_drewN ?_ _ | refine blk_drew ?_ | refine blk_alloc ?_ _)); refine blk_far ?_ NB267_265.out _; (with_reducible repeat (first | refine blk_drewN ?_ _ | refine blk_drew ?_ | refine blk_alloc ?_ _)); refine blk_far ?_ NB267_274.out _; (with_reducible repeat (first | refine blk_drewN ?_ _ | refine blk_drew ?_ | refine blk_alloc ?_ _)); refine blk_far ?_ NB267_274.out _; (with_reducible repeat (first | refine blk_drewN ?_ _ | refine blk_drew ?_ | refine blk_alloc ?_ _)); refine blk_far ?_ NB267_274.out _; (with_reducible repeat (first | refine blk_drewN ?_ _ | refine blk_drew ?_ | refine blk_alloc ?_ _)); exact BK267.out⟩, ⟨by repeat (first | (with_reducible first | exact HB.out | apply below_alloc | apply pw_below_drewN | apply below_drew1 | refine below_set ?_ GE265.out | refine below_set ?_ GE267.out | refine below_set ?_ GE274.out) | exact HB.out)⟩⟩
                      · rw [if_neg c31] at H
                        exact absurd H (by simp)
                    · rw [if_neg c30] at H
                      exact absurd H (by simp)
                  · rw [if_neg c29] at H
                    have c29b0 : decide (x55_3 < (l1.length : Int)) = false := decide_eq_false c29
                    clear c29
                    by_cases c136 : x7_18 = true
                    · subst c136
                      have H1 : (some true) = some r := by rw [if_pos rfl] at H; exact H
                      clear H
                      have H := H1
                      clear H1
                      obtain rfl := Option.some.inj H
                      go_wp2
                      go_ret
                      exact ⟨by first | rfl | (simp [errW_none, errW_some] <;> rfl) | (simp [*, errW_none, errW_some] <;> rfl), by repeat (first | (with_reducible first | exact HB.out | apply below_alloc | apply pw_below_drewN | apply below_drew1 | refine below_set ?_ GE265.out | refine below_set ?_ GE267.out) | exact HB.out)⟩
                    · replace c136 := Bool.eq_false_iff.mpr c136
                      subst c136
                      have H1 : (some (decide (x266000_3 ≥ 9))) = some r := by rw [if_neg (show ¬ (false = true) by decide)] at H; exact H
                      clear H
                      have H := H1
                      clear H1
                      obtain rfl := Option.some.inj H
                      have hnb137 := NB265_267.out
                      have hnc137 := NB267_265.out
                      have hcz138_0 : wr.cell? ⟨gb265, 0, none⟩ = some (.int .i64 x266000_3) := (blk_cell BK265.out 0).trans rfl
                      have hcz138_1 : wr.cell? ⟨gb265, 1, none⟩ = some (.bool x266001_3) := (blk_cell BK265.out 1).trans rfl
                      have hcz138_2 : wr.cell? ⟨gb265, 2, none⟩ = some (.int .i64 x266002_3) := (blk_cell BK265.out 2).trans rfl
                      have hfz138_0 := blk_frozen BK265.out 0
                      have hfz138_1 := blk_frozen BK265.out 1
                      have hfz138_2 := blk_frozen BK265.out 2
                      go_wp2
                      go_ret
                      exact ⟨by first | rfl | (simp [errW_none, errW_some] <;> rfl) | (simp [*, errW_none, errW_some] <;> rfl), by repeat (first | (with_reducible first | exact HB.out | apply below_alloc | apply pw_below_drewN | apply below_drew1 | refine below_set ?_ GE265.out | refine below_set ?_ GE267.out) | exact HB.out)⟩
  · replace c5 := Bool.eq_false_iff.mpr c5
    subst c5
    have H1 : (some false) = some r := by rw [if_neg (show ¬ (false = true) by decide)] at H; exact H
    clear H
    have H := H1
    clear H1
    obtain rfl := Option.some.inj H
    go_enter Try.func5, Try.ntmps5
    go_wp2_with (first | ((with_reducible refine gate_dst (N := 3) rfl ?_); (try (refine gate_guard (by rfl) ?_; dsimp only)); refine box_event ?hg (N := 3) ?hd (cs := #[.int .i64 a0_0, .bool a0_1, .int .i64 a0_2]) (t := 23) ?hr ?_; (case hd => rfl); (case hg => rfl); (case hr => first | (go_simp; done) | (go_simp; rfl)); intro gb265 hg w139 hbox hb; have n0_ := Aside0.mk (below_step (by repeat (first | (with_reducible first | exact HB.out | apply below_alloc | apply pw_below_drewN | apply below_drew1) | exact HB.out)) hb); have n1_ := Aside0.mk (hbox); have n2_ := Aside0.mk ((by rw [hg]; exact (below_size (by repeat (first | (with_reducible first | exact HB.out | apply below_alloc | apply pw_below_drewN | apply below_drew1) | exact HB.out))) : w.heap.size ≤ gb265)); have n3_ := Aside0.mk ((by rw [hg]; exact (below_size (by repeat (first | (with_reducible first | exact HB.out | apply below_alloc | apply pw_below_drewN | apply below_drew1) | exact HB.out))) : w.heap.size ≤ gb265)); clear HB; have HB := n0_; have BK265 := n1_; have GW265 := n2_; have GE265 := n3_; clear n0_ n1_ n2_ n3_; clear hb hbox hg) | ((with_reducible refine gate_callee (f := 9) rfl ?_); refine goesL_ (some 14) rfl rfl Try.func9 (by kernel_rfl) rfl #[] rfl (by (try simp only [List.map_toArray, List.map_cons, List.map_nil]); first | done | rfl | (simp only [List.length_drop, List.length_take]; rfl)) ?_; (with_reducible refine (packhorselaw14_sagaAlive.calls k  false _ A4.out).mono ?_); rintro e w140 ⟨rfl, hb⟩; refine ⟨_, rfl, ?_⟩; have n0_ := Aside0.mk (blk_below (g := gb265) (o := .cells #[.int .i64 a0_0, .bool a0_1, .int .i64 a0_2] 23 (0, 0)) (by (with_reducible repeat (first | refine blk_drewN ?_ _ | refine blk_drew ?_ | refine blk_alloc ?_ _)); exact BK265.out) hb); have n1_ := Aside0.mk (below_step (by repeat (first | (with_reducible first | exact HB.out | apply below_alloc | apply pw_below_drewN | apply below_drew1 | refine below_set ?_ GE265.out) | exact HB.out)) hb); clear BK265; clear HB; have BK265 := n0_; have HB := n1_; clear n0_ n1_; (try clear hb); (try clear hb2); (try clear hk); (try clear hi)))
    go_ret
    exact ⟨by first | rfl | (simp [errW_none, errW_some] <;> rfl) | (simp [*, errW_none, errW_some] <;> rfl), by repeat (first | (with_reducible first | exact HB.out | apply below_alloc | apply pw_below_drewN | apply below_drew1 | refine below_set ?_ GE265.out) | exact HB.out)⟩

end Go.Proofs.Ytcghipdlihpbcaa.PAll
