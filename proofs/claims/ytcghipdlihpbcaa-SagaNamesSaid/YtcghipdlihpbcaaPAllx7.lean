-- Made by a program of this session (wip/gen)
import Derived.Test.YtcghipdlihpbcaaPAllx0
import Derived.Test.YtcghipdlihpbcaaPAllx1
import Derived.Test.YtcghipdlihpbcaaPAllx2
import Derived.Test.YtcghipdlihpbcaaPAllx6
namespace Go.Proofs.Ytcghipdlihpbcaa.PAll
open Go.RowKit Go.Proofs.YtcghipdlihpbcaaW.PrintWords Go.Proofs.YtcghipdlihpbcaaW.PrintLast Go.Proofs.YtcghipdlihpbcaaW.PrintMore
attribute [local go_sem] max2_int min2_int max_two min_two max_three min_three max_four min_four   -- for this text's walks alone
set_option linter.unusedVariables false
set_option linter.unusedSimpArgs false

attribute [local go_sem high] eqA23
/-! ### packhorselaw14_SagaGivenUp: function 8 -/
mutual
def packhorselaw14_SagaGivenUp.l0 : Nat → Int → Bool → List Int → Int → Int → Int → Bool → Int → Option (Bool)
  | 0, _, _, _, _, _, _, _, _ => none
  | k + 1, x1, x6, x18, x19, x20, x259000, x259001, x259002 => if x20 < x19 then (if 0 ≤ x20 then (if x20 < (x18.length : Int) then ((saga_Step.f k x259000 x259001 x259002 (rd x18 x20) x1).bind fun bt260 => (if bt260.2.2.2.2 = 0 then (if x6 = true then (packhorselaw14_SagaGivenUp.j1 k x1 true (rd x18 x20) bt260.2.2.2.1 x18 x19 x20 bt260.1 bt260.2.1 bt260.2.2.1) else (packhorselaw14_SagaGivenUp.j1 k x1 ((rd x18 x20) == 3) (rd x18 x20) bt260.2.2.2.1 x18 x19 x20 bt260.1 bt260.2.1 bt260.2.2.1)) else (if (!(bt260.1 == x259000) || (!(bt260.2.1 == x259001) || (!(bt260.2.2.1 == x259002)))) = true then (some false) else (if bt260.2.2.2.1 = 0 then (packhorselaw14_SagaGivenUp.l0 k x1 x6 x18 x19 (wrap64 (x20 + 1)) x259000 x259001 x259002) else (some false))))) else (none)) else (none)) else (if x259000 ≥ 1 then (some (decide (x259000 ≤ 12))) else (some false))
def packhorselaw14_SagaGivenUp.j1 : Nat → Int → Bool → Int → Int → List Int → Int → Int → Int → Bool → Int → Option (Bool)
  | 0, _, _, _, _, _, _, _, _, _, _ => none
  | k + 1, x1, x6, x8, x10, x18, x19, x20, x266000, x266001, x266002 => if x6 = true then ((saga_Left.f x266000 x266001 x266002).bind fun t266 => (if t266 = true then (some false) else (if x10 = 0 then (if x8 = 3 then (packhorselaw14_SagaGivenUp.l0 k x1 x6 x18 x19 (wrap64 (x20 + 1)) x266000 x266001 x266002) else ((saga_Asks.f x266000).bind fun t267 => (if t267 = x10 then (packhorselaw14_SagaGivenUp.l0 k x1 x6 x18 x19 (wrap64 (x20 + 1)) x266000 x266001 x266002) else (some false)))) else ((saga_Asks.f x266000).bind fun t268 => (if x10 = t268 then (if x8 = 3 then (packhorselaw14_SagaGivenUp.l0 k x1 x6 x18 x19 (wrap64 (x20 + 1)) x266000 x266001 x266002) else (if t268 = x10 then (packhorselaw14_SagaGivenUp.l0 k x1 x6 x18 x19 (wrap64 (x20 + 1)) x266000 x266001 x266002) else (some false))) else (some false)))))) else (if x10 = 0 then (if x8 = 3 then (packhorselaw14_SagaGivenUp.l0 k x1 x6 x18 x19 (wrap64 (x20 + 1)) x266000 x266001 x266002) else ((saga_Asks.f x266000).bind fun t269 => (if t269 = x10 then (packhorselaw14_SagaGivenUp.l0 k x1 x6 x18 x19 (wrap64 (x20 + 1)) x266000 x266001 x266002) else (some false)))) else ((saga_Asks.f x266000).bind fun t270 => (if x10 = t270 then (if x8 = 3 then (packhorselaw14_SagaGivenUp.l0 k x1 x6 x18 x19 (wrap64 (x20 + 1)) x266000 x266001 x266002) else (if t270 = x10 then (packhorselaw14_SagaGivenUp.l0 k x1 x6 x18 x19 (wrap64 (x20 + 1)) x266000 x266001 x266002) else (some false))) else (some false))))
end
def packhorselaw14_SagaGivenUp.f (k : Nat) (l0 : List Int) (a1 : Int) : Option (Bool) := (packhorselaw14_sagaAlive.f k).bind fun t257 => (if t257 = true then (if (l0.length : Int) > 1000 then (some true) else (packhorselaw14_SagaGivenUp.l0 k a1 false l0 (l0.length : Int) 0 1 false 0)) else (some false))
theorem packhorselaw14_SagaGivenUp.mono_l : ∀ k, (∀ y0 y1 y2 y3 y4 y5 y6 y7, LeO (packhorselaw14_SagaGivenUp.l0 k y0 y1 y2 y3 y4 y5 y6 y7) (packhorselaw14_SagaGivenUp.l0 (k + 1) y0 y1 y2 y3 y4 y5 y6 y7)) ∧ (∀ y0 y1 y2 y3 y4 y5 y6 y7 y8 y9, LeO (packhorselaw14_SagaGivenUp.j1 k y0 y1 y2 y3 y4 y5 y6 y7 y8 y9) (packhorselaw14_SagaGivenUp.j1 (k + 1) y0 y1 y2 y3 y4 y5 y6 y7 y8 y9))
  | 0 => ⟨fun _ _ _ _ _ _ _ _ r h => by simp [packhorselaw14_SagaGivenUp.l0] at h, fun _ _ _ _ _ _ _ _ _ _ r h => by simp [packhorselaw14_SagaGivenUp.j1] at h⟩
  | k + 1 => by
    obtain ⟨ih0, ih1⟩ := packhorselaw14_SagaGivenUp.mono_l k
    refine ⟨?_, ?_⟩
    · intro y0 y1 y2 y3 y4 y5 y6 y7
      unfold packhorselaw14_SagaGivenUp.l0
      repeat' first
      | (with_reducible exact ih0 _ _ _ _ _ _ _ _)
      | (with_reducible exact ih1 _ _ _ _ _ _ _ _ _ _)
      | (with_reducible exact packhorselaw14_sagaAlive.mono _)
      | (with_reducible exact saga_Step.mono _ _ _ _ _ _)
      | (with_reducible exact LeO.refl _)
      | (with_reducible exact LeO.none _)
      | (with_reducible refine LeO.ite ?_ ?_)
      | (with_reducible refine LeO.bind ?_ (fun _ => ?_))
      | exact ih0 _ _ _ _ _ _ _ _
      | exact ih1 _ _ _ _ _ _ _ _ _ _
      | exact packhorselaw14_sagaAlive.mono _
      | exact saga_Step.mono _ _ _ _ _ _
      | exact LeO.none _
      | refine LeO.ite ?_ ?_
      | refine LeO.bind ?_ (fun _ => ?_)
    · intro y0 y1 y2 y3 y4 y5 y6 y7 y8 y9
      unfold packhorselaw14_SagaGivenUp.j1
      repeat' first
      | (with_reducible exact ih0 _ _ _ _ _ _ _ _)
      | (with_reducible exact ih1 _ _ _ _ _ _ _ _ _ _)
      | (with_reducible exact packhorselaw14_sagaAlive.mono _)
      | (with_reducible exact saga_Step.mono _ _ _ _ _ _)
      | (with_reducible exact LeO.refl _)
      | (with_reducible exact LeO.none _)
      | (with_reducible refine LeO.ite ?_ ?_)
      | (with_reducible refine LeO.bind ?_ (fun _ => ?_))
      | exact ih0 _ _ _ _ _ _ _ _
      | exact ih1 _ _ _ _ _ _ _ _ _ _
      | exact packhorselaw14_sagaAlive.mono _
      | exact saga_Step.mono _ _ _ _ _ _
      | exact LeO.none _
      | refine LeO.ite ?_ ?_
      | refine LeO.bind ?_ (fun _ => ?_)
theorem packhorselaw14_SagaGivenUp.mono : ∀ a0 a1 k, LeO (packhorselaw14_SagaGivenUp.f k a0 a1) (packhorselaw14_SagaGivenUp.f (k + 1) a0 a1) := by
  intro a0 a1 k
  obtain ⟨ih0, ih1⟩ := packhorselaw14_SagaGivenUp.mono_l k
  unfold packhorselaw14_SagaGivenUp.f
  repeat' first
      | (with_reducible exact ih0 _ _ _ _ _ _ _ _)
      | (with_reducible exact ih1 _ _ _ _ _ _ _ _ _ _)
      | (with_reducible exact packhorselaw14_sagaAlive.mono _)
      | (with_reducible exact saga_Step.mono _ _ _ _ _ _)
      | (with_reducible exact LeO.refl _)
      | (with_reducible exact LeO.none _)
      | (with_reducible refine LeO.ite ?_ ?_)
      | (with_reducible refine LeO.bind ?_ (fun _ => ?_))
      | exact ih0 _ _ _ _ _ _ _ _
      | exact ih1 _ _ _ _ _ _ _ _ _ _
      | exact packhorselaw14_sagaAlive.mono _
      | exact saga_Step.mono _ _ _ _ _ _
      | exact LeO.none _
      | refine LeO.ite ?_ ?_
      | refine LeO.bind ?_ (fun _ => ?_)
set_option maxHeartbeats 8000000 in
set_option maxRecDepth 100000 in
theorem packhorselaw14_SagaGivenUp.calls (k : Nat) (A0 : Option Addr) (c0 : Nat) (l0 : List Int) (a1 : Int) (r : Bool) (w : World) (hr0 : Kd.C (Kd.int .i64) w A0 l0.length l0) (hc0 : l0.length ≤ c0) (h : packhorselaw14_SagaGivenUp.f k l0 a1 = some r) :
    Calls Try.prog 8 #[.slice A0 l0.length c0, .int .i64 a1] w fun e w' => e = .returned (.bool r) ∧ Below w.heap.size w w' := by
  have hu23 := Try.underlying23
  have HR0 := Aside0.mk hr0
  have HC0 := Aside0.mk hc0
  clear hr0 hc0
  have HB := Aside0.mk (Below.refl w.heap.size w)
  have H : ((packhorselaw14_sagaAlive.f k).bind fun t257 => (if t257 = true then (if (l0.length : Int) > 1000 then (some true) else (packhorselaw14_SagaGivenUp.l0 k a1 false l0 (l0.length : Int) 0 1 false 0)) else (some false))) = some r := h
  clear h
  replace H := Option.bind_eq_some_iff.mp H
  obtain ⟨t257, A30, H⟩ := H
  replace H : (if t257 = true then (if (l0.length : Int) > 1000 then (some true) else (packhorselaw14_SagaGivenUp.l0 k a1 false l0 (l0.length : Int) 0 1 false 0)) else (some false)) = some r := H
  have A3 := Aside0.mk A30
  clear A30
  by_cases c4 : t257 = true
  · subst c4
    have H1 : (if (l0.length : Int) > 1000 then (some true) else (packhorselaw14_SagaGivenUp.l0 k a1 false l0 (l0.length : Int) 0 1 false 0)) = some r := by rw [if_pos rfl] at H; exact H
    clear H
    have H := H1
    clear H1
    by_cases c5 : (l0.length : Int) > 1000
    · rw [if_pos c5] at H
      have c5b0 : decide (1000 < (l0.length : Int)) = true := decide_eq_true c5
      have c5b1 : decide (1000 < l0.length) = true := decide_eq_true (by omega)
      clear c5
      obtain rfl := Option.some.inj H
      go_enter Try.func8, Try.ntmps8
      go_wp2_with (first | ((with_reducible refine gate_callee (f := 9) rfl ?_); refine goesL_ (some 12) rfl rfl Try.func9 (by kernel_rfl) rfl #[] rfl (by (try simp only [List.map_toArray, List.map_cons, List.map_nil]); first | done | rfl | (simp only [List.length_drop, List.length_take]; rfl)) ?_; (with_reducible refine (packhorselaw14_sagaAlive.calls k  true _ A3.out).mono ?_); rintro e w6 ⟨rfl, hb⟩; refine ⟨_, rfl, ?_⟩; have n0_ := Aside0.mk (below_step (by repeat (first | (with_reducible first | exact HB.out | apply below_alloc | apply pw_below_drewN | apply below_drew1) | exact HB.out)) hb); clear HB; have HB := n0_; clear n0_; (try clear hb); (try clear hb2); (try clear hk); (try clear hi)))
      go_ret
      exact ⟨by first | rfl | (simp [errW_none, errW_some] <;> rfl) | (simp [*, errW_none, errW_some] <;> rfl), by repeat (first | (with_reducible first | exact HB.out | apply below_alloc | apply pw_below_drewN | apply below_drew1) | exact HB.out)⟩
    · rw [if_neg c5] at H
      have c5b0 : decide (1000 < (l0.length : Int)) = false := decide_eq_false c5
      have c5b1 : decide (1000 < l0.length) = false := decide_eq_false (by omega)
      clear c5
      have H' := Aside0.mk H
      clear H
      go_enter Try.func8, Try.ntmps8
      go_wp2_with (first | ((with_reducible refine gate_callee (f := 9) rfl ?_); refine goesL_ (some 12) rfl rfl Try.func9 (by kernel_rfl) rfl #[] rfl (by (try simp only [List.map_toArray, List.map_cons, List.map_nil]); first | done | rfl | (simp only [List.length_drop, List.length_take]; rfl)) ?_; (with_reducible refine (packhorselaw14_sagaAlive.calls k  true _ A3.out).mono ?_); rintro e w7 ⟨rfl, hb⟩; refine ⟨_, rfl, ?_⟩; have n0_ := Aside0.mk (below_step (by repeat (first | (with_reducible first | exact HB.out | apply below_alloc | apply pw_below_drewN | apply below_drew1) | exact HB.out)) hb); clear HB; have HB := n0_; clear n0_; (try clear hb); (try clear hb2); (try clear hk); (try clear hi)) | ((with_reducible refine gate_dst (N := 5) rfl ?_); refine box_event ?hg (N := 5) ?hd (cs := #[.int .i64 0, .bool false, .int .i64 0]) (t := 23) ?hr ?_; (case hd => rfl); (case hg => rfl); (case hr => first | (go_simp; done) | (go_simp; rfl)); intro gb258 hg w8 hbox hb; have n0_ := Aside0.mk (below_step (by repeat (first | (with_reducible first | exact HB.out | apply below_alloc | apply pw_below_drewN | apply below_drew1) | exact HB.out)) hb); have n1_ := Aside0.mk (hbox); have n2_ := Aside0.mk ((by rw [hg]; exact (below_size (by repeat (first | (with_reducible first | exact HB.out | apply below_alloc | apply pw_below_drewN | apply below_drew1) | exact HB.out))) : w.heap.size ≤ gb258)); have n3_ := Aside0.mk ((by rw [hg]; exact (below_size (by repeat (first | (with_reducible first | exact HB.out | apply below_alloc | apply pw_below_drewN | apply below_drew1) | exact HB.out))) : w.heap.size ≤ gb258)); clear HB; have HB := n0_; have BK258 := n1_; have GW258 := n2_; have GE258 := n3_; clear n0_ n1_ n2_ n3_; clear hb hbox hg; have hcz9_0 : w8.cell? ⟨gb258, 0, none⟩ = some (.int .i64 0) := (blk_cell BK258.out 0).trans rfl; have hcz9_1 : w8.cell? ⟨gb258, 1, none⟩ = some (.bool false) := (blk_cell BK258.out 1).trans rfl; have hcz9_2 : w8.cell? ⟨gb258, 2, none⟩ = some (.int .i64 0) := (blk_cell BK258.out 2).trans rfl; have hfz9_0 := blk_frozen BK258.out 0; have hfz9_1 := blk_frozen BK258.out 1; have hfz9_2 := blk_frozen BK258.out 2))
      go_loopg [6, 20] k (fun kq v6 v20 w' => ∃ (x6_1 : Bool) (x20_1 : Int) (x259000_1 : Int) (x259001_1 : Bool) (x259002_1 : Int), v6 = .bool x6_1 ∧ v20 = .int .i64 x20_1 ∧ Aside0 (packhorselaw14_SagaGivenUp.l0 kq a1 x6_1 l0 (l0.length : Int) x20_1 x259000_1 x259001_1 x259002_1 = some r) ∧ Aside0 (kq ≤ k) ∧ Aside0 (w'.heap[gb258]? = some (.cells #[.int .i64 x259000_1, .bool x259001_1, .int .i64 x259002_1] 23 (0, 0))) ∧ Aside0 (Below w.heap.size w w'))
      case atStart => exact ⟨(false), (0), (1), (false), (0), (by first | rfl | (simp; done) | (simp [*]; done)), (by first | rfl | (simp; done) | (simp [*]; done)), H', ⟨Nat.le_refl _⟩, ⟨by (with_reducible repeat (first | refine blk_drewN ?_ _ | refine blk_drew ?_ | refine blk_alloc ?_ _)); refine blk_put (cs := #[.int .i64 1, .bool false, .int .i64 0]) ?_ 2 _ rfl; (with_reducible repeat (first | refine blk_drewN ?_ _ | refine blk_drew ?_ | refine blk_alloc ?_ _)); refine blk_put (cs := #[.int .i64 1, .bool false, .int .i64 0]) ?_ 1 _ rfl; (with_reducible repeat (first | refine blk_drewN ?_ _ | refine blk_drew ?_ | refine blk_alloc ?_ _)); refine blk_put (cs := #[.int .i64 0, .bool false, .int .i64 0]) ?_ 0 _ rfl; (with_reducible repeat (first | refine blk_drewN ?_ _ | refine blk_drew ?_ | refine blk_alloc ?_ _)); exact BK258.out⟩, ⟨by repeat (first | (with_reducible first | exact HB.out | apply below_alloc | apply pw_below_drewN | apply below_drew1 | refine below_set ?_ GE258.out) | exact HB.out)⟩⟩
      case round =>
        clear H'
        try clear p2
        try clear c4
        try clear c5
        try clear c5b0
        try clear c5b1
        try clear c8
        try clear c9
        try clear hcz9_0
        try clear hcz9_1
        try clear hcz9_2
        try clear hfz9_0
        try clear hfz9_1
        try clear hfz9_2
        obtain ⟨x6_1, x20_1, x259000_1, x259001_1, x259002_1, rfl, rfl, HA, HK1, BK258, HB⟩ := hrel
        cases gk with
        | zero => exact absurd HA.out (by simp [packhorselaw14_SagaGivenUp.l0])
        | succ k1 =>
          have H := HA.out
          clear HA
          simp only [packhorselaw14_SagaGivenUp.l0] at H
          by_cases c10 : x20_1 < (l0.length : Int)
          · rw [if_pos c10] at H
            have c10b0 : decide (x20_1 < (l0.length : Int)) = true := decide_eq_true c10
            clear c10
            by_cases c11 : 0 ≤ x20_1
            · rw [if_pos c11] at H
              have c11b0 : decide (0 ≤ x20_1) = true := decide_eq_true c11
              clear c11
              by_cases c12 : x20_1 < (l0.length : Int)
              · rw [if_pos c12] at H
                have c12b0 : decide (x20_1 < (l0.length : Int)) = true := decide_eq_true c12
                clear c12
                replace H := Option.bind_eq_some_iff.mp H
                obtain ⟨⟨t260, t261, t262, t263, t264⟩, A130, H⟩ := H
                replace H : (if t264 = 0 then (if x6_1 = true then (packhorselaw14_SagaGivenUp.j1 k1 a1 true (rd l0 x20_1) t263 l0 (l0.length : Int) x20_1 t260 t261 t262) else (packhorselaw14_SagaGivenUp.j1 k1 a1 ((rd l0 x20_1) == 3) (rd l0 x20_1) t263 l0 (l0.length : Int) x20_1 t260 t261 t262)) else (if (!(t260 == x259000_1) || (!(t261 == x259001_1) || (!(t262 == x259002_1)))) = true then (some false) else (if t263 = 0 then (packhorselaw14_SagaGivenUp.l0 k1 a1 x6_1 l0 (l0.length : Int) (wrap64 (x20_1 + 1)) x259000_1 x259001_1 x259002_1) else (some false)))) = some r := H
                have A13 := Aside0.mk A130
                clear A130
                by_cases c14 : t264 = 0
                · rw [if_pos c14] at H
                  have c14b0 : (t264 == 0) = true := beq_iff_eq.mpr c14
                  have c14b1 : (t264 != 0) = false := bne_eq_false_iff_eq.mpr c14
                  clear c14
                  have HC15 := Aside0.mk H
                  clear H
                  have p259 : 0 ≤ (x20_1 : Int) := of_decide_eq_true (by first | (with_reducible assumption) | assumption)
                  have q259 : x20_1 < (l0.length : Int) := of_decide_eq_true (by first | (with_reducible assumption) | assumption)
                  obtain ⟨ad259, e259, hx259_0⟩ := Kd.at_int HR0.out x20_1 p259 q259
                  cases e259
                  replace hx259_0 := (HB.out.cell (World.block_lt_of_cell? w _ hx259_0)).trans hx259_0
                  replace p259 := eq_true p259
                  replace q259 := eq_true q259
                  have hcz16_0 : wr.cell? ⟨gb258, 0, none⟩ = some (.int .i64 x259000_1) := (blk_cell BK258.out 0).trans rfl
                  have hcz16_1 : wr.cell? ⟨gb258, 1, none⟩ = some (.bool x259001_1) := (blk_cell BK258.out 1).trans rfl
                  have hcz16_2 : wr.cell? ⟨gb258, 2, none⟩ = some (.int .i64 x259002_1) := (blk_cell BK258.out 2).trans rfl
                  have hfz16_0 := blk_frozen BK258.out 0
                  have hfz16_1 := blk_frozen BK258.out 1
                  have hfz16_2 := blk_frozen BK258.out 2
                  go_upto_region 14 with (first | ((with_reducible refine gate_callee (f := 10) rfl ?_); refine goesL_ (some 28) rfl rfl Try.func10 (by kernel_rfl) rfl #[.agg #[.int .i64 x259000_1, .bool x259001_1, .int .i64 x259002_1], .int .i64 (rd l0 x20_1), .int .i64 a1] rfl (by (try simp only [List.map_toArray, List.map_cons, List.map_nil]); first | done | rfl | (simp only [List.length_drop, List.length_take]; rfl)) ?_; (with_reducible refine (saga_Step.calls k1 x259000_1 x259001_1 x259002_1 (rd l0 x20_1) a1 t260 t261 t262 t263 t264 _ A13.out).mono ?_); rintro e w17 ⟨rfl, hb⟩; refine ⟨_, rfl, ?_⟩; have n0_ := Aside0.mk (blk_below (g := gb258) (o := .cells #[.int .i64 x259000_1, .bool x259001_1, .int .i64 x259002_1] 23 (0, 0)) (by (with_reducible repeat (first | refine blk_drewN ?_ _ | refine blk_drew ?_ | refine blk_alloc ?_ _)); exact BK258.out) hb); have n1_ := Aside0.mk (below_step (by repeat (first | (with_reducible first | exact HB.out | apply below_alloc | apply pw_below_drewN | apply below_drew1 | refine below_set ?_ GE258.out) | exact HB.out)) hb); clear BK258; clear HB; have BK258 := n0_; have HB := n1_; clear n0_ n1_; (try clear hb); (try clear hb2); (try clear hk); (try clear hi)) | ((with_reducible refine gate_dst (N := 9) rfl ?_); refine box_event ?hg (N := 9) ?hd (cs := #[.int .i64 0, .bool false, .int .i64 0]) (t := 23) ?hr ?_; (case hd => rfl); (case hg => rfl); (case hr => first | (go_simp; done) | (go_simp; rfl)); intro gb265 hg w18 hbox hb; have n0_ := Aside0.mk (blk_below (g := gb258) (o := .cells #[.int .i64 x259000_1, .bool x259001_1, .int .i64 x259002_1] 23 (0, 0)) (by (with_reducible repeat (first | refine blk_drewN ?_ _ | refine blk_drew ?_ | refine blk_alloc ?_ _)); exact BK258.out) hb); have n1_ := Aside0.mk (below_step (by repeat (first | (with_reducible first | exact HB.out | apply below_alloc | apply pw_below_drewN | apply below_drew1 | refine below_set ?_ GE258.out) | exact HB.out)) hb); have n2_ := Aside0.mk (hbox); have n3_ := Aside0.mk ((by rw [hg]; exact (below_size (by repeat (first | (with_reducible first | exact HB.out | apply below_alloc | apply pw_below_drewN | apply below_drew1 | refine below_set ?_ GE258.out) | exact HB.out))) : w.heap.size ≤ gb265)); have n4_ := Aside0.mk ((by rw [hg]; exact (below_size (by repeat (first | (with_reducible first | exact HB.out | apply below_alloc | apply pw_below_drewN | apply below_drew1 | refine below_set ?_ GE258.out) | exact HB.out))) : w.heap.size ≤ gb265)); have n5_ := Aside0.mk ((by rw [hg]; exact Nat.ne_of_lt (blk_lt (g := gb258) (o := .cells #[.int .i64 x259000_1, .bool x259001_1, .int .i64 x259002_1] 23 (0, 0)) (by (with_reducible repeat (first | refine blk_drewN ?_ _ | refine blk_drew ?_ | refine blk_alloc ?_ _)); exact BK258.out)) : gb258 ≠ gb265)); have n6_ := Aside0.mk ((by rw [hg]; exact Nat.ne_of_gt (blk_lt (g := gb258) (o := .cells #[.int .i64 x259000_1, .bool x259001_1, .int .i64 x259002_1] 23 (0, 0)) (by (with_reducible repeat (first | refine blk_drewN ?_ _ | refine blk_drew ?_ | refine blk_alloc ?_ _)); exact BK258.out)) : gb265 ≠ gb258)); clear BK258; clear HB; have BK258 := n0_; have HB := n1_; have BK265 := n2_; have GW265 := n3_; have GE265 := n4_; have NB258_265 := n5_; have NB265_258 := n6_; clear n0_ n1_ n2_ n3_ n4_ n5_ n6_; clear hb hbox hg; have hnb19 := NB265_258.out; have hnc19 := NB258_265.out; have hcz20_0 : w18.cell? ⟨gb265, 0, none⟩ = some (.int .i64 0) := (blk_cell BK265.out 0).trans rfl; have hcz20_1 : w18.cell? ⟨gb265, 1, none⟩ = some (.bool false) := (blk_cell BK265.out 1).trans rfl; have hcz20_2 : w18.cell? ⟨gb265, 2, none⟩ = some (.int .i64 0) := (blk_cell BK265.out 2).trans rfl; have hfz20_0 := blk_frozen BK265.out 0; have hfz20_1 := blk_frozen BK265.out 1; have hfz20_2 := blk_frozen BK265.out 2))
                  (try simp only [Act.put, List.setIfInBounds_toArray, List.set_cons_zero, List.set_cons_succ])
                  go_cut [6] (fun v6 wc => ∃ (kq : Nat) (x6_14 : Bool), v6 = .bool x6_14 ∧ Aside0 (packhorselaw14_SagaGivenUp.j1 kq a1 x6_14 (rd l0 x20_1) t263 l0 (l0.length : Int) x20_1 t260 t261 t262 = some r) ∧ Aside0 (kq ≤ k1) ∧ Aside0 (wc.heap[gb258]? = some (.cells #[.int .i64 x259000_1, .bool x259001_1, .int .i64 x259002_1] 23 (0, 0))) ∧ Aside0 (wc.heap[gb265]? = some (.cells #[.int .i64 t260, .bool t261, .int .i64 t262] 23 (0, 0))) ∧ Aside0 (Below w.heap.size w wc))
                  case first =>
                    have H := HC15.out
                    clear HC15
                    by_cases c21 : x6_1 = true
                    · subst c21
                      have H1 : (packhorselaw14_SagaGivenUp.j1 k1 a1 true (rd l0 x20_1) t263 l0 (l0.length : Int) x20_1 t260 t261 t262) = some r := by rw [if_pos rfl] at H; exact H
                      clear H
                      have H := H1
                      clear H1
                      have H' := Aside0.mk H
                      clear H
                      go_wp2
                      go_meet
                      case rel => exact ⟨_, (true), (by first | rfl | (simp; done) | (simp [*]; done)), H', ⟨by have := HK1.out; first | omega | exact Nat.le_refl _⟩, ⟨by (with_reducible repeat (first | refine blk_drewN ?_ _ | refine blk_drew ?_ | refine blk_alloc ?_ _)); refine blk_far ?_ NB258_265.out _; (with_reducible repeat (first | refine blk_drewN ?_ _ | refine blk_drew ?_ | refine blk_alloc ?_ _)); refine blk_far ?_ NB258_265.out _; (with_reducible repeat (first | refine blk_drewN ?_ _ | refine blk_drew ?_ | refine blk_alloc ?_ _)); refine blk_far ?_ NB258_265.out _; (with_reducible repeat (first | refine blk_drewN ?_ _ | refine blk_drew ?_ | refine blk_alloc ?_ _)); exact BK258.out⟩, ⟨by (with_reducible repeat (first | refine blk_drewN ?_ _ | refine blk_drew ?_ | refine blk_alloc ?_ _)); refine blk_put (cs := #[.int .i64 t260, .bool t261, .int .i64 0]) ?_ 2 _ rfl; (with_reducible repeat (first | refine blk_drewN ?_ _ | refine blk_drew ?_ | refine blk_alloc ?_ _)); refine blk_put (cs := #[.int .i64 t260, .bool false, .int .i64 0]) ?_ 1 _ rfl; (with_reducible repeat (first | refine blk_drewN ?_ _ | refine blk_drew ?_ | refine blk_alloc ?_ _)); refine blk_put (cs := #[.int .i64 0, .bool false, .int .i64 0]) ?_ 0 _ rfl; (with_reducible repeat (first | refine blk_drewN ?_ _ | refine blk_drew ?_ | refine blk_alloc ?_ _)); exact BK265.out⟩, ⟨by repeat (first | (with_reducible first | exact HB.out | apply below_alloc | apply pw_below_drewN | apply below_drew1 | refine below_set ?_ GE258.out | refine below_set ?_ GE265.out) | exact HB.out)⟩⟩
                    · replace c21 := Bool.eq_false_iff.mpr c21
                      subst c21
                      have H1 : (packhorselaw14_SagaGivenUp.j1 k1 a1 ((rd l0 x20_1) == 3) (rd l0 x20_1) t263 l0 (l0.length : Int) x20_1 t260 t261 t262) = some r := by rw [if_neg (show ¬ (false = true) by decide)] at H; exact H
                      clear H
                      have H := H1
                      clear H1
                      have H' := Aside0.mk H
                      clear H
                      go_wp2
                      go_meet
                      case rel => exact ⟨_, (((rd l0 x20_1) == 3)), (by first | rfl | (simp; done) | (simp [*]; done)), H', ⟨by have := HK1.out; first | omega | exact Nat.le_refl _⟩, ⟨by (with_reducible repeat (first | refine blk_drewN ?_ _ | refine blk_drew ?_ | refine blk_alloc ?_ _)); refine blk_far ?_ NB258_265.out _; (with_reducible repeat (first | refine blk_drewN ?_ _ | refine blk_drew ?_ | refine blk_alloc ?_ _)); refine blk_far ?_ NB258_265.out _; (with_reducible repeat (first | refine blk_drewN ?_ _ | refine blk_drew ?_ | refine blk_alloc ?_ _)); refine blk_far ?_ NB258_265.out _; (with_reducible repeat (first | refine blk_drewN ?_ _ | refine blk_drew ?_ | refine blk_alloc ?_ _)); exact BK258.out⟩, ⟨by (with_reducible repeat (first | refine blk_drewN ?_ _ | refine blk_drew ?_ | refine blk_alloc ?_ _)); refine blk_put (cs := #[.int .i64 t260, .bool t261, .int .i64 0]) ?_ 2 _ rfl; (with_reducible repeat (first | refine blk_drewN ?_ _ | refine blk_drew ?_ | refine blk_alloc ?_ _)); refine blk_put (cs := #[.int .i64 t260, .bool false, .int .i64 0]) ?_ 1 _ rfl; (with_reducible repeat (first | refine blk_drewN ?_ _ | refine blk_drew ?_ | refine blk_alloc ?_ _)); refine blk_put (cs := #[.int .i64 0, .bool false, .int .i64 0]) ?_ 0 _ rfl; (with_reducible repeat (first | refine blk_drewN ?_ _ | refine blk_drew ?_ | refine blk_alloc ?_ _)); exact BK265.out⟩, ⟨by repeat (first | (with_reducible first | exact HB.out | apply below_alloc | apply pw_below_drewN | apply below_drew1 | refine below_set ?_ GE258.out | refine below_set ?_ GE265.out) | exact HB.out)⟩⟩
                  case rest =>
                    clear HC15
                    try clear c1
                    try clear c2
                    try clear p2
                    try clear q2
                    try clear hx2
                    try clear c4
                    try clear c5
                    try clear c5b0
                    try clear c5b1
                    try clear p6
                    try clear c8
                    try clear c9
                    try clear c10
                    try clear c10b0
                    try clear c11
                    try clear c11b0
                    try clear c12
                    try clear c12b0
                    try clear c14
                    try clear c14b0
                    try clear c14b1
                    try clear c19
                    try clear c21
                    try clear hcz16_0
                    try clear hcz16_1
                    try clear hcz16_2
                    try clear hcz20_0
                    try clear hcz20_1
                    try clear hcz20_2
                    try clear hcz9_0
                    try clear hcz9_1
                    try clear hcz9_2
                    try clear hfz16_0
                    try clear hfz16_1
                    try clear hfz16_2
                    try clear hfz20_0
                    try clear hfz20_1
                    try clear hfz20_2
                    try clear hfz9_0
                    try clear hfz9_1
                    try clear hfz9_2
                    try clear hx259_0
                    try clear p2
                    try clear p259
                    try clear q259
                    obtain ⟨kq, x6_14, rfl, HA, HJ14, BK258, BK265, HB⟩ := hcut
                    cases kq with
                    | zero => exact absurd HA.out (by simp [packhorselaw14_SagaGivenUp.j1])
                    | succ kj14 =>
                      have H := HA.out
                      clear HA
                      simp only [packhorselaw14_SagaGivenUp.j1] at H
                      by_cases c22 : x6_14 = true
                      · subst c22
                        have H1 : ((saga_Left.f t260 t261 t262).bind fun t266 => (if t266 = true then (some false) else (if t263 = 0 then (if (rd l0 x20_1) = 3 then (packhorselaw14_SagaGivenUp.l0 kj14 a1 true l0 (l0.length : Int) (wrap64 (x20_1 + 1)) t260 t261 t262) else ((saga_Asks.f t260).bind fun t267 => (if t267 = t263 then (packhorselaw14_SagaGivenUp.l0 kj14 a1 true l0 (l0.length : Int) (wrap64 (x20_1 + 1)) t260 t261 t262) else (some false)))) else ((saga_Asks.f t260).bind fun t268 => (if t263 = t268 then (if (rd l0 x20_1) = 3 then (packhorselaw14_SagaGivenUp.l0 kj14 a1 true l0 (l0.length : Int) (wrap64 (x20_1 + 1)) t260 t261 t262) else (if t268 = t263 then (packhorselaw14_SagaGivenUp.l0 kj14 a1 true l0 (l0.length : Int) (wrap64 (x20_1 + 1)) t260 t261 t262) else (some false))) else (some false)))))) = some r := by rw [if_pos rfl] at H; exact H
                        clear H
                        have H := H1
                        clear H1
                        replace H := Option.bind_eq_some_iff.mp H
                        obtain ⟨t266, A230, H⟩ := H
                        replace H : (if t266 = true then (some false) else (if t263 = 0 then (if (rd l0 x20_1) = 3 then (packhorselaw14_SagaGivenUp.l0 kj14 a1 true l0 (l0.length : Int) (wrap64 (x20_1 + 1)) t260 t261 t262) else ((saga_Asks.f t260).bind fun t267 => (if t267 = t263 then (packhorselaw14_SagaGivenUp.l0 kj14 a1 true l0 (l0.length : Int) (wrap64 (x20_1 + 1)) t260 t261 t262) else (some false)))) else ((saga_Asks.f t260).bind fun t268 => (if t263 = t268 then (if (rd l0 x20_1) = 3 then (packhorselaw14_SagaGivenUp.l0 kj14 a1 true l0 (l0.length : Int) (wrap64 (x20_1 + 1)) t260 t261 t262) else (if t268 = t263 then (packhorselaw14_SagaGivenUp.l0 kj14 a1 true l0 (l0.length : Int) (wrap64 (x20_1 + 1)) t260 t261 t262) else (some false))) else (some false))))) = some r := H
                        have A23 := Aside0.mk A230
                        clear A230
                        by_cases c24 : t266 = true
                        · subst c24
                          have H1 : (some false) = some r := by rw [if_pos rfl] at H; exact H
                          clear H
                          have H := H1
                          clear H1
                          obtain rfl := Option.some.inj H
                          have hnb25 := NB265_258.out
                          have hnc25 := NB258_265.out
                          have hcz26_0 : wc.cell? ⟨gb265, 0, none⟩ = some (.int .i64 t260) := (blk_cell BK265.out 0).trans rfl
                          have hcz26_1 : wc.cell? ⟨gb265, 1, none⟩ = some (.bool t261) := (blk_cell BK265.out 1).trans rfl
                          have hcz26_2 : wc.cell? ⟨gb265, 2, none⟩ = some (.int .i64 t262) := (blk_cell BK265.out 2).trans rfl
                          have hfz26_0 := blk_frozen BK265.out 0
                          have hfz26_1 := blk_frozen BK265.out 1
                          have hfz26_2 := blk_frozen BK265.out 2
                          go_wp2_with (first | (go_at_call 14; (with_reducible refine (saga_Left.calls t260 t261 t262 true _ A23.out).mono ?_); rintro e w27 ⟨rfl, hb⟩; have n0_ := Aside0.mk (blk_below (g := gb258) (o := .cells #[.int .i64 x259000_1, .bool x259001_1, .int .i64 x259002_1] 23 (0, 0)) (by (with_reducible repeat (first | refine blk_drewN ?_ _ | refine blk_drew ?_ | refine blk_alloc ?_ _)); exact BK258.out) hb); have n1_ := Aside0.mk (blk_below (g := gb265) (o := .cells #[.int .i64 t260, .bool t261, .int .i64 t262] 23 (0, 0)) (by (with_reducible repeat (first | refine blk_drewN ?_ _ | refine blk_drew ?_ | refine blk_alloc ?_ _)); exact BK265.out) hb); have n2_ := Aside0.mk (below_step (by repeat (first | (with_reducible first | exact HB.out | apply below_alloc | apply pw_below_drewN | apply below_drew1 | refine below_set ?_ GE258.out | refine below_set ?_ GE265.out) | exact HB.out)) hb); clear BK258; clear BK265; clear HB; have BK258 := n0_; have BK265 := n1_; have HB := n2_; clear n0_ n1_ n2_; (try clear hb); (try clear hb2); (try clear hk); (try clear hi)))
                          go_ret
                          exact ⟨by first | rfl | (simp [errW_none, errW_some] <;> rfl) | (simp [*, errW_none, errW_some] <;> rfl), by repeat (first | (with_reducible first | exact HB.out | apply below_alloc | apply pw_below_drewN | apply below_drew1 | refine below_set ?_ GE258.out | refine below_set ?_ GE265.out) | exact HB.out)⟩
                        · replace c24 := Bool.eq_false_iff.mpr c24
                          subst c24
                          have H1 : (if t263 = 0 then (if (rd l0 x20_1) = 3 then (packhorselaw14_SagaGivenUp.l0 kj14 a1 true l0 (l0.length : Int) (wrap64 (x20_1 + 1)) t260 t261 t262) else ((saga_Asks.f t260).bind fun t267 => (if t267 = t263 then (packhorselaw14_SagaGivenUp.l0 kj14 a1 true l0 (l0.length : Int) (wrap64 (x20_1 + 1)) t260 t261 t262) else (some false)))) else ((saga_Asks.f t260).bind fun t268 => (if t263 = t268 then (if (rd l0 x20_1) = 3 then (packhorselaw14_SagaGivenUp.l0 kj14 a1 true l0 (l0.length : Int) (wrap64 (x20_1 + 1)) t260 t261 t262) else (if t268 = t263 then (packhorselaw14_SagaGivenUp.l0 kj14 a1 true l0 (l0.length : Int) (wrap64 (x20_1 + 1)) t260 t261 t262) else (some false))) else (some false)))) = some r := by rw [if_neg (show ¬ (false = true) by decide)] at H; exact H
                          clear H
                          have H := H1
                          clear H1
                          by_cases c28 : t263 = 0
                          · rw [if_pos c28] at H
                            have c28b0 : (t263 == 0) = true := beq_iff_eq.mpr c28
                            have c28b1 : (t263 != 0) = false := bne_eq_false_iff_eq.mpr c28
                            clear c28
                            by_cases c29 : (rd l0 x20_1) = 3
                            · rw [if_pos c29] at H
                              have c29b0 : ((rd l0 x20_1) == 3) = true := beq_iff_eq.mpr c29
                              have c29b1 : ((rd l0 x20_1) != 3) = false := bne_eq_false_iff_eq.mpr c29
                              clear c29
                              have H' := Aside0.mk H
                              clear H
                              have hnb30 := NB265_258.out
                              have hnc30 := NB258_265.out
                              have hcz31_0 : wc.cell? ⟨gb265, 0, none⟩ = some (.int .i64 t260) := (blk_cell BK265.out 0).trans rfl
                              have hcz31_1 : wc.cell? ⟨gb265, 1, none⟩ = some (.bool t261) := (blk_cell BK265.out 1).trans rfl
                              have hcz31_2 : wc.cell? ⟨gb265, 2, none⟩ = some (.int .i64 t262) := (blk_cell BK265.out 2).trans rfl
                              have hfz31_0 := blk_frozen BK265.out 0
                              have hfz31_1 := blk_frozen BK265.out 1
                              have hfz31_2 := blk_frozen BK265.out 2
                              go_wp2_with (first | (go_at_call 14; (with_reducible refine (saga_Left.calls t260 t261 t262 false _ A23.out).mono ?_); rintro e w32 ⟨rfl, hb⟩; have n0_ := Aside0.mk (blk_below (g := gb258) (o := .cells #[.int .i64 x259000_1, .bool x259001_1, .int .i64 x259002_1] 23 (0, 0)) (by (with_reducible repeat (first | refine blk_drewN ?_ _ | refine blk_drew ?_ | refine blk_alloc ?_ _)); exact BK258.out) hb); have n1_ := Aside0.mk (blk_below (g := gb265) (o := .cells #[.int .i64 t260, .bool t261, .int .i64 t262] 23 (0, 0)) (by (with_reducible repeat (first | refine blk_drewN ?_ _ | refine blk_drew ?_ | refine blk_alloc ?_ _)); exact BK265.out) hb); have n2_ := Aside0.mk (below_step (by repeat (first | (with_reducible first | exact HB.out | apply below_alloc | apply pw_below_drewN | apply below_drew1 | refine below_set ?_ GE258.out | refine below_set ?_ GE265.out) | exact HB.out)) hb); clear BK258; clear BK265; clear HB; have BK258 := n0_; have BK265 := n1_; have HB := n2_; clear n0_ n1_ n2_; (try clear hb); (try clear hb2); (try clear hk); (try clear hi); have hcz33_0 : w32.cell? ⟨gb265, 0, none⟩ = some (.int .i64 t260) := (blk_cell BK265.out 0).trans rfl; have hcz33_1 : w32.cell? ⟨gb265, 1, none⟩ = some (.bool t261) := (blk_cell BK265.out 1).trans rfl; have hcz33_2 : w32.cell? ⟨gb265, 2, none⟩ = some (.int .i64 t262) := (blk_cell BK265.out 2).trans rfl; have hfz33_0 := blk_frozen BK265.out 0; have hfz33_1 := blk_frozen BK265.out 1; have hfz33_2 := blk_frozen BK265.out 2; have hcz34_0 : w32.cell? ⟨gb258, 0, none⟩ = some (.int .i64 x259000_1) := (blk_cell BK258.out 0).trans rfl; have hcz34_1 : w32.cell? ⟨gb258, 1, none⟩ = some (.bool x259001_1) := (blk_cell BK258.out 1).trans rfl; have hcz34_2 : w32.cell? ⟨gb258, 2, none⟩ = some (.int .i64 x259002_1) := (blk_cell BK258.out 2).trans rfl; have hfz34_0 := blk_frozen BK258.out 0; have hfz34_1 := blk_frozen BK258.out 1; have hfz34_2 := blk_frozen BK258.out 2))
                              go_roundg kj14
                              case measure => have := HK1.out; have := HJ14.out; omega
                              case rel => exact ⟨(true), (wrap64 (x20_1 + 1)), (t260), (t261), (t262), (by first | rfl | (simp; done) | (simp [*]; done)), (by first | rfl | (simp; done) | (simp [*]; done)), H', ⟨by have := HK1.out; have := HJ14.out; omega⟩, ⟨by (with_reducible repeat (first | refine blk_drewN ?_ _ | refine blk_drew ?_ | refine blk_alloc ?_ _)); refine blk_put (cs := #[.int .i64 t260, .bool t261, .int .i64 x259002_1]) ?_ 2 _ rfl; (with_reducible repeat (first | refine blk_drewN ?_ _ | refine blk_drew ?_ | refine blk_alloc ?_ _)); refine blk_put (cs := #[.int .i64 t260, .bool x259001_1, .int .i64 x259002_1]) ?_ 1 _ rfl; (with_reducible repeat (first | refine blk_drewN ?_ _ | refine blk_drew ?_ | refine blk_alloc ?_ _)); refine blk_put (cs := #[.int .i64 x259000_1, .bool x259001_1, .int .i64 x259002_1]) ?_ 0 _ rfl; (with_reducible repeat (first | refine blk_drewN ?_ _ | refine blk_drew ?_ | refine blk_alloc ?_ _)); exact BK258.out⟩, ⟨by repeat (first | (with_reducible first | exact HB.out | apply below_alloc | apply pw_below_drewN | apply below_drew1 | refine below_set ?_ GE258.out | refine below_set ?_ GE265.out) | exact HB.out)⟩⟩
                            · rw [if_neg c29] at H
                              have c29b0 : ((rd l0 x20_1) == 3) = false := beq_eq_false_iff_ne.mpr c29
                              have c29b1 : ((rd l0 x20_1) != 3) = true := bne_iff_ne.mpr c29
                              replace H := Option.bind_eq_some_iff.mp H
                              obtain ⟨t267, A350, H⟩ := H
                              replace H : (if t267 = t263 then (packhorselaw14_SagaGivenUp.l0 kj14 a1 true l0 (l0.length : Int) (wrap64 (x20_1 + 1)) t260 t261 t262) else (some false)) = some r := H
                              have A35 := Aside0.mk A350
                              clear A350
                              by_cases c36 : t267 = t263
                              · rw [if_pos c36] at H
                                have c36b0 : (t267 == t263) = true := beq_iff_eq.mpr c36
                                have c36b1 : (t267 != t263) = false := bne_eq_false_iff_eq.mpr c36
                                clear c36
                                have H' := Aside0.mk H
                                clear H
                                have hnb37 := NB265_258.out
                                have hnc37 := NB258_265.out
                                have hcz38_0 : wc.cell? ⟨gb265, 0, none⟩ = some (.int .i64 t260) := (blk_cell BK265.out 0).trans rfl
                                have hcz38_1 : wc.cell? ⟨gb265, 1, none⟩ = some (.bool t261) := (blk_cell BK265.out 1).trans rfl
                                have hcz38_2 : wc.cell? ⟨gb265, 2, none⟩ = some (.int .i64 t262) := (blk_cell BK265.out 2).trans rfl
                                have hfz38_0 := blk_frozen BK265.out 0
                                have hfz38_1 := blk_frozen BK265.out 1
                                have hfz38_2 := blk_frozen BK265.out 2
                                go_wp2_with (first | (go_at_call 14; (with_reducible refine (saga_Left.calls t260 t261 t262 false _ A23.out).mono ?_); rintro e w39 ⟨rfl, hb⟩; have n0_ := Aside0.mk (blk_below (g := gb258) (o := .cells #[.int .i64 x259000_1, .bool x259001_1, .int .i64 x259002_1] 23 (0, 0)) (by (with_reducible repeat (first | refine blk_drewN ?_ _ | refine blk_drew ?_ | refine blk_alloc ?_ _)); exact BK258.out) hb); have n1_ := Aside0.mk (blk_below (g := gb265) (o := .cells #[.int .i64 t260, .bool t261, .int .i64 t262] 23 (0, 0)) (by (with_reducible repeat (first | refine blk_drewN ?_ _ | refine blk_drew ?_ | refine blk_alloc ?_ _)); exact BK265.out) hb); have n2_ := Aside0.mk (below_step (by repeat (first | (with_reducible first | exact HB.out | apply below_alloc | apply pw_below_drewN | apply below_drew1 | refine below_set ?_ GE258.out | refine below_set ?_ GE265.out) | exact HB.out)) hb); clear BK258; clear BK265; clear HB; have BK258 := n0_; have BK265 := n1_; have HB := n2_; clear n0_ n1_ n2_; (try clear hb); (try clear hb2); (try clear hk); (try clear hi); have hcz40_0 : w39.cell? ⟨gb265, 0, none⟩ = some (.int .i64 t260) := (blk_cell BK265.out 0).trans rfl; have hcz40_1 : w39.cell? ⟨gb265, 1, none⟩ = some (.bool t261) := (blk_cell BK265.out 1).trans rfl; have hcz40_2 : w39.cell? ⟨gb265, 2, none⟩ = some (.int .i64 t262) := (blk_cell BK265.out 2).trans rfl; have hfz40_0 := blk_frozen BK265.out 0; have hfz40_1 := blk_frozen BK265.out 1; have hfz40_2 := blk_frozen BK265.out 2) | (go_at_call 12; (with_reducible refine (saga_Asks.calls t260 t267 _ A35.out).mono ?_); rintro e w' ⟨rfl, ⟨nd, rfl⟩⟩; (try (rw [drewN_self w39]; generalize hq_ : World.drewN w39 _ = w39; have n0_ : Aside0 (w39.heap[gb258]? = some (.cells #[.int .i64 x259000_1, .bool x259001_1, .int .i64 x259002_1] 23 (0, 0))) := ⟨by rw [← hq_]; exact (by (with_reducible repeat (first | refine blk_drewN ?_ _ | refine blk_drew ?_ | refine blk_alloc ?_ _)); exact BK258.out)⟩; have n1_ : Aside0 (w39.heap[gb265]? = some (.cells #[.int .i64 t260, .bool t261, .int .i64 t262] 23 (0, 0))) := ⟨by rw [← hq_]; exact (by (with_reducible repeat (first | refine blk_drewN ?_ _ | refine blk_drew ?_ | refine blk_alloc ?_ _)); exact BK265.out)⟩; have n2_ : Aside0 (Below w.heap.size w w39) := ⟨by rw [← hq_]; exact (by repeat (first | (with_reducible first | exact HB.out | apply below_alloc | apply pw_below_drewN | apply below_drew1 | refine below_set ?_ GE258.out | refine below_set ?_ GE265.out) | exact HB.out))⟩; clear BK258 BK265 HB hq_; have BK258 := n0_; have BK265 := n1_; have HB := n2_; clear n0_ n1_ n2_)); have hcz41_0 : w39.cell? ⟨gb265, 0, none⟩ = some (.int .i64 t260) := (blk_cell BK265.out 0).trans rfl; have hcz41_1 : w39.cell? ⟨gb265, 1, none⟩ = some (.bool t261) := (blk_cell BK265.out 1).trans rfl; have hcz41_2 : w39.cell? ⟨gb265, 2, none⟩ = some (.int .i64 t262) := (blk_cell BK265.out 2).trans rfl; have hfz41_0 := blk_frozen BK265.out 0; have hfz41_1 := blk_frozen BK265.out 1; have hfz41_2 := blk_frozen BK265.out 2; have hcz42_0 : w39.cell? ⟨gb258, 0, none⟩ = some (.int .i64 x259000_1) := (blk_cell BK258.out 0).trans rfl; have hcz42_1 : w39.cell? ⟨gb258, 1, none⟩ = some (.bool x259001_1) := (blk_cell BK258.out 1).trans rfl; have hcz42_2 : w39.cell? ⟨gb258, 2, none⟩ = some (.int .i64 x259002_1) := (blk_cell BK258.out 2).trans rfl; have hfz42_0 := blk_frozen BK258.out 0; have hfz42_1 := blk_frozen BK258.out 1; have hfz42_2 := blk_frozen BK258.out 2))
                                go_roundg kj14
                                case measure => have := HK1.out; have := HJ14.out; omega
                                case rel => exact ⟨(true), (wrap64 (x20_1 + 1)), (t260), (t261), (t262), (by first | rfl | (simp; done) | (simp [*]; done)), (by first | rfl | (simp; done) | (simp [*]; done)), H', ⟨by have := HK1.out; have := HJ14.out; omega⟩, ⟨by (with_reducible repeat (first | refine blk_drewN ?_ _ | refine blk_drew ?_ | refine blk_alloc ?_ _)); refine blk_put (cs := #[.int .i64 t260, .bool t261, .int .i64 x259002_1]) ?_ 2 _ rfl; (with_reducible repeat (first | refine blk_drewN ?_ _ | refine blk_drew ?_ | refine blk_alloc ?_ _)); refine blk_put (cs := #[.int .i64 t260, .bool x259001_1, .int .i64 x259002_1]) ?_ 1 _ rfl; (with_reducible repeat (first | refine blk_drewN ?_ _ | refine blk_drew ?_ | refine blk_alloc ?_ _)); refine blk_put (cs := #[.int .i64 x259000_1, .bool x259001_1, .int .i64 x259002_1]) ?_ 0 _ rfl; (with_reducible repeat (first | refine blk_drewN ?_ _ | refine blk_drew ?_ | refine blk_alloc ?_ _)); exact BK258.out⟩, ⟨by repeat (first | (with_reducible first | exact HB.out | apply below_alloc | apply pw_below_drewN | apply below_drew1 | refine below_set ?_ GE258.out | refine below_set ?_ GE265.out) | exact HB.out)⟩⟩
                              · rw [if_neg c36] at H
                                have c36b0 : (t267 == t263) = false := beq_eq_false_iff_ne.mpr c36
                                have c36b1 : (t267 != t263) = true := bne_iff_ne.mpr c36
                                obtain rfl := Option.some.inj H
                                have hnb43 := NB265_258.out
                                have hnc43 := NB258_265.out
                                have hcz44_0 : wc.cell? ⟨gb265, 0, none⟩ = some (.int .i64 t260) := (blk_cell BK265.out 0).trans rfl
                                have hcz44_1 : wc.cell? ⟨gb265, 1, none⟩ = some (.bool t261) := (blk_cell BK265.out 1).trans rfl
                                have hcz44_2 : wc.cell? ⟨gb265, 2, none⟩ = some (.int .i64 t262) := (blk_cell BK265.out 2).trans rfl
                                have hfz44_0 := blk_frozen BK265.out 0
                                have hfz44_1 := blk_frozen BK265.out 1
                                have hfz44_2 := blk_frozen BK265.out 2
                                go_wp2_with (first | (go_at_call 14; (with_reducible refine (saga_Left.calls t260 t261 t262 false _ A23.out).mono ?_); rintro e w45 ⟨rfl, hb⟩; have n0_ := Aside0.mk (blk_below (g := gb258) (o := .cells #[.int .i64 x259000_1, .bool x259001_1, .int .i64 x259002_1] 23 (0, 0)) (by (with_reducible repeat (first | refine blk_drewN ?_ _ | refine blk_drew ?_ | refine blk_alloc ?_ _)); exact BK258.out) hb); have n1_ := Aside0.mk (blk_below (g := gb265) (o := .cells #[.int .i64 t260, .bool t261, .int .i64 t262] 23 (0, 0)) (by (with_reducible repeat (first | refine blk_drewN ?_ _ | refine blk_drew ?_ | refine blk_alloc ?_ _)); exact BK265.out) hb); have n2_ := Aside0.mk (below_step (by repeat (first | (with_reducible first | exact HB.out | apply below_alloc | apply pw_below_drewN | apply below_drew1 | refine below_set ?_ GE258.out | refine below_set ?_ GE265.out) | exact HB.out)) hb); clear BK258; clear BK265; clear HB; have BK258 := n0_; have BK265 := n1_; have HB := n2_; clear n0_ n1_ n2_; (try clear hb); (try clear hb2); (try clear hk); (try clear hi); have hcz46_0 : w45.cell? ⟨gb265, 0, none⟩ = some (.int .i64 t260) := (blk_cell BK265.out 0).trans rfl; have hcz46_1 : w45.cell? ⟨gb265, 1, none⟩ = some (.bool t261) := (blk_cell BK265.out 1).trans rfl; have hcz46_2 : w45.cell? ⟨gb265, 2, none⟩ = some (.int .i64 t262) := (blk_cell BK265.out 2).trans rfl; have hfz46_0 := blk_frozen BK265.out 0; have hfz46_1 := blk_frozen BK265.out 1; have hfz46_2 := blk_frozen BK265.out 2) | (go_at_call 12; (with_reducible refine (saga_Asks.calls t260 t267 _ A35.out).mono ?_); rintro e w' ⟨rfl, ⟨nd, rfl⟩⟩))
                                go_ret
                                exact ⟨by first | rfl | (simp [errW_none, errW_some] <;> rfl) | (simp [*, errW_none, errW_some] <;> rfl), by repeat (first | (with_reducible first | exact HB.out | apply below_alloc | apply pw_below_drewN | apply below_drew1 | refine below_set ?_ GE258.out | refine below_set ?_ GE265.out) | exact HB.out)⟩
                          · rw [if_neg c28] at H
                            have c28b0 : (t263 == 0) = false := beq_eq_false_iff_ne.mpr c28
                            have c28b1 : (t263 != 0) = true := bne_iff_ne.mpr c28
                            replace H := Option.bind_eq_some_iff.mp H
                            obtain ⟨t268, A470, H⟩ := H
                            replace H : (if t263 = t268 then (if (rd l0 x20_1) = 3 then (packhorselaw14_SagaGivenUp.l0 kj14 a1 true l0 (l0.length : Int) (wrap64 (x20_1 + 1)) t260 t261 t262) else (if t268 = t263 then (packhorselaw14_SagaGivenUp.l0 kj14 a1 true l0 (l0.length : Int) (wrap64 (x20_1 + 1)) t260 t261 t262) else (some false))) else (some false)) = some r := H
                            have A47 := Aside0.mk A470
                            clear A470
                            by_cases c48 : t263 = t268
                            · rw [if_pos c48] at H
                              have c48b0 : (t263 == t268) = true := beq_iff_eq.mpr c48
                              have c48b1 : (t263 != t268) = false := bne_eq_false_iff_eq.mpr c48
                              clear c48
                              by_cases c49 : (rd l0 x20_1) = 3
                              · rw [if_pos c49] at H
                                have c49b0 : ((rd l0 x20_1) == 3) = true := beq_iff_eq.mpr c49
                                have c49b1 : ((rd l0 x20_1) != 3) = false := bne_eq_false_iff_eq.mpr c49
                                clear c49
                                have H' := Aside0.mk H
                                clear H
                                have hnb50 := NB265_258.out
                                have hnc50 := NB258_265.out
                                have hcz51_0 : wc.cell? ⟨gb265, 0, none⟩ = some (.int .i64 t260) := (blk_cell BK265.out 0).trans rfl
                                have hcz51_1 : wc.cell? ⟨gb265, 1, none⟩ = some (.bool t261) := (blk_cell BK265.out 1).trans rfl
                                have hcz51_2 : wc.cell? ⟨gb265, 2, none⟩ = some (.int .i64 t262) := (blk_cell BK265.out 2).trans rfl
                                have hfz51_0 := blk_frozen BK265.out 0
                                have hfz51_1 := blk_frozen BK265.out 1
                                have hfz51_2 := blk_frozen BK265.out 2
                                go_wp2_with (first | (go_at_call 14; (with_reducible refine (saga_Left.calls t260 t261 t262 false _ A23.out).mono ?_); rintro e w52 ⟨rfl, hb⟩; have n0_ := Aside0.mk (blk_below (g := gb258) (o := .cells #[.int .i64 x259000_1, .bool x259001_1, .int .i64 x259002_1] 23 (0, 0)) (by (with_reducible repeat (first | refine blk_drewN ?_ _ | refine blk_drew ?_ | refine blk_alloc ?_ _)); exact BK258.out) hb); have n1_ := Aside0.mk (blk_below (g := gb265) (o := .cells #[.int .i64 t260, .bool t261, .int .i64 t262] 23 (0, 0)) (by (with_reducible repeat (first | refine blk_drewN ?_ _ | refine blk_drew ?_ | refine blk_alloc ?_ _)); exact BK265.out) hb); have n2_ := Aside0.mk (below_step (by repeat (first | (with_reducible first | exact HB.out | apply below_alloc | apply pw_below_drewN | apply below_drew1 | refine below_set ?_ GE258.out | refine below_set ?_ GE265.out) | exact HB.out)) hb); clear BK258; clear BK265; clear HB; have BK258 := n0_; have BK265 := n1_; have HB := n2_; clear n0_ n1_ n2_; (try clear hb); (try clear hb2); (try clear hk); (try clear hi); have hcz53_0 : w52.cell? ⟨gb265, 0, none⟩ = some (.int .i64 t260) := (blk_cell BK265.out 0).trans rfl; have hcz53_1 : w52.cell? ⟨gb265, 1, none⟩ = some (.bool t261) := (blk_cell BK265.out 1).trans rfl; have hcz53_2 : w52.cell? ⟨gb265, 2, none⟩ = some (.int .i64 t262) := (blk_cell BK265.out 2).trans rfl; have hfz53_0 := blk_frozen BK265.out 0; have hfz53_1 := blk_frozen BK265.out 1; have hfz53_2 := blk_frozen BK265.out 2) | (go_at_call 12; (with_reducible refine (saga_Asks.calls t260 t268 _ A47.out).mono ?_); rintro e w' ⟨rfl, ⟨nd, rfl⟩⟩; (try (rw [drewN_self w52]; generalize hq_ : World.drewN w52 _ = w52; have n0_ : Aside0 (w52.heap[gb258]? = some (.cells #[.int .i64 x259000_1, .bool x259001_1, .int .i64 x259002_1] 23 (0, 0))) := ⟨by rw [← hq_]; exact (by (with_reducible repeat (first | refine blk_drewN ?_ _ | refine blk_drew ?_ | refine blk_alloc ?_ _)); exact BK258.out)⟩; have n1_ : Aside0 (w52.heap[gb265]? = some (.cells #[.int .i64 t260, .bool t261, .int .i64 t262] 23 (0, 0))) := ⟨by rw [← hq_]; exact (by (with_reducible repeat (first | refine blk_drewN ?_ _ | refine blk_drew ?_ | refine blk_alloc ?_ _)); exact BK265.out)⟩; have n2_ : Aside0 (Below w.heap.size w w52) := ⟨by rw [← hq_]; exact (by repeat (first | (with_reducible first | exact HB.out | apply below_alloc | apply pw_below_drewN | apply below_drew1 | refine below_set ?_ GE258.out | refine below_set ?_ GE265.out) | exact HB.out))⟩; clear BK258 BK265 HB hq_; have BK258 := n0_; have BK265 := n1_; have HB := n2_; clear n0_ n1_ n2_)); have hcz54_0 : w52.cell? ⟨gb265, 0, none⟩ = some (.int .i64 t260) := (blk_cell BK265.out 0).trans rfl; have hcz54_1 : w52.cell? ⟨gb265, 1, none⟩ = some (.bool t261) := (blk_cell BK265.out 1).trans rfl; have hcz54_2 : w52.cell? ⟨gb265, 2, none⟩ = some (.int .i64 t262) := (blk_cell BK265.out 2).trans rfl; have hfz54_0 := blk_frozen BK265.out 0; have hfz54_1 := blk_frozen BK265.out 1; have hfz54_2 := blk_frozen BK265.out 2; have hcz55_0 : w52.cell? ⟨gb258, 0, none⟩ = some (.int .i64 x259000_1) := (blk_cell BK258.out 0).trans rfl; have hcz55_1 : w52.cell? ⟨gb258, 1, none⟩ = some (.bool x259001_1) := (blk_cell BK258.out 1).trans rfl; have hcz55_2 : w52.cell? ⟨gb258, 2, none⟩ = some (.int .i64 x259002_1) := (blk_cell BK258.out 2).trans rfl; have hfz55_0 := blk_frozen BK258.out 0; have hfz55_1 := blk_frozen BK258.out 1; have hfz55_2 := blk_frozen BK258.out 2))
                                go_roundg kj14
                                case measure => have := HK1.out; have := HJ14.out; omega
                                case rel => exact ⟨(true), (wrap64 (x20_1 + 1)), (t260), (t261), (t262), (by first | rfl | (simp; done) | (simp [*]; done)), (by first | rfl | (simp; done) | (simp [*]; done)), H', ⟨by have := HK1.out; have := HJ14.out; omega⟩, ⟨by (with_reducible repeat (first | refine blk_drewN ?_ _ | refine blk_drew ?_ | refine blk_alloc ?_ _)); refine blk_put (cs := #[.int .i64 t260, .bool t261, .int .i64 x259002_1]) ?_ 2 _ rfl; (with_reducible repeat (first | refine blk_drewN ?_ _ | refine blk_drew ?_ | refine blk_alloc ?_ _)); refine blk_put (cs := #[.int .i64 t260, .bool x259001_1, .int .i64 x259002_1]) ?_ 1 _ rfl; (with_reducible repeat (first | refine blk_drewN ?_ _ | refine blk_drew ?_ | refine blk_alloc ?_ _)); refine blk_put (cs := #[.int .i64 x259000_1, .bool x259001_1, .int .i64 x259002_1]) ?_ 0 _ rfl; (with_reducible repeat (first | refine blk_drewN ?_ _ | refine blk_drew ?_ | refine blk_alloc ?_ _)); exact BK258.out⟩, ⟨by repeat (first | (with_reducible first | exact HB.out | apply below_alloc | apply pw_below_drewN | apply below_drew1 | refine below_set ?_ GE258.out | refine below_set ?_ GE265.out) | exact HB.out)⟩⟩
                              · rw [if_neg c49] at H
                                have c49b0 : ((rd l0 x20_1) == 3) = false := beq_eq_false_iff_ne.mpr c49
                                have c49b1 : ((rd l0 x20_1) != 3) = true := bne_iff_ne.mpr c49
                                by_cases c56 : t268 = t263
                                · rw [if_pos c56] at H
                                  have c56b0 : (t268 == t263) = true := beq_iff_eq.mpr c56
                                  have c56b1 : (t268 != t263) = false := bne_eq_false_iff_eq.mpr c56
                                  clear c56
                                  have H' := Aside0.mk H
                                  clear H
                                  have hnb57 := NB265_258.out
                                  have hnc57 := NB258_265.out
                                  have hcz58_0 : wc.cell? ⟨gb265, 0, none⟩ = some (.int .i64 t260) := (blk_cell BK265.out 0).trans rfl
                                  have hcz58_1 : wc.cell? ⟨gb265, 1, none⟩ = some (.bool t261) := (blk_cell BK265.out 1).trans rfl
                                  have hcz58_2 : wc.cell? ⟨gb265, 2, none⟩ = some (.int .i64 t262) := (blk_cell BK265.out 2).trans rfl
                                  have hfz58_0 := blk_frozen BK265.out 0
                                  have hfz58_1 := blk_frozen BK265.out 1
                                  have hfz58_2 := blk_frozen BK265.out 2
                                  go_wp2_with (first | (go_at_call 14; (with_reducible refine (saga_Left.calls t260 t261 t262 false _ A23.out).mono ?_); rintro e w59 ⟨rfl, hb⟩; have n0_ := Aside0.mk (blk_below (g := gb258) (o := .cells #[.int .i64 x259000_1, .bool x259001_1, .int .i64 x259002_1] 23 (0, 0)) (by (with_reducible repeat (first | refine blk_drewN ?_ _ | refine blk_drew ?_ | refine blk_alloc ?_ _)); exact BK258.out) hb); have n1_ := Aside0.mk (blk_below (g := gb265) (o := .cells #[.int .i64 t260, .bool t261, .int .i64 t262] 23 (0, 0)) (by (with_reducible repeat (first | refine blk_drewN ?_ _ | refine blk_drew ?_ | refine blk_alloc ?_ _)); exact BK265.out) hb); have n2_ := Aside0.mk (below_step (by repeat (first | (with_reducible first | exact HB.out | apply below_alloc | apply pw_below_drewN | apply below_drew1 | refine below_set ?_ GE258.out | refine below_set ?_ GE265.out) | exact HB.out)) hb); clear BK258; clear BK265; clear HB; have BK258 := n0_; have BK265 := n1_; have HB := n2_; clear n0_ n1_ n2_; (try clear hb); (try clear hb2); (try clear hk); (try clear hi); have hcz60_0 : w59.cell? ⟨gb265, 0, none⟩ = some (.int .i64 t260) := (blk_cell BK265.out 0).trans rfl; have hcz60_1 : w59.cell? ⟨gb265, 1, none⟩ = some (.bool t261) := (blk_cell BK265.out 1).trans rfl; have hcz60_2 : w59.cell? ⟨gb265, 2, none⟩ = some (.int .i64 t262) := (blk_cell BK265.out 2).trans rfl; have hfz60_0 := blk_frozen BK265.out 0; have hfz60_1 := blk_frozen BK265.out 1; have hfz60_2 := blk_frozen BK265.out 2) | (go_at_call 12; (with_reducible refine (saga_Asks.calls t260 t268 _ A47.out).mono ?_); rintro e w' ⟨rfl, ⟨nd, rfl⟩⟩; (try (rw [drewN_self w59]; generalize hq_ : World.drewN w59 _ = w59; have n0_ : Aside0 (w59.heap[gb258]? = some (.cells #[.int .i64 x259000_1, .bool x259001_1, .int .i64 x259002_1] 23 (0, 0))) := ⟨by rw [← hq_]; exact (by (with_reducible repeat (first | refine blk_drewN ?_ _ | refine blk_drew ?_ | refine blk_alloc ?_ _)); exact BK258.out)⟩; have n1_ : Aside0 (w59.heap[gb265]? = some (.cells #[.int .i64 t260, .bool t261, .int .i64 t262] 23 (0, 0))) := ⟨by rw [← hq_]; exact (by (with_reducible repeat (first | refine blk_drewN ?_ _ | refine blk_drew ?_ | refine blk_alloc ?_ _)); exact BK265.out)⟩; have n2_ : Aside0 (Below w.heap.size w w59) := ⟨by rw [← hq_]; exact (by repeat (first | (with_reducible first | exact HB.out | apply below_alloc | apply pw_below_drewN | apply below_drew1 | refine below_set ?_ GE258.out | refine below_set ?_ GE265.out) | exact HB.out))⟩; clear BK258 BK265 HB hq_; have BK258 := n0_; have BK265 := n1_; have HB := n2_; clear n0_ n1_ n2_)); have hcz61_0 : w59.cell? ⟨gb265, 0, none⟩ = some (.int .i64 t260) := (blk_cell BK265.out 0).trans rfl; have hcz61_1 : w59.cell? ⟨gb265, 1, none⟩ = some (.bool t261) := (blk_cell BK265.out 1).trans rfl; have hcz61_2 : w59.cell? ⟨gb265, 2, none⟩ = some (.int .i64 t262) := (blk_cell BK265.out 2).trans rfl; have hfz61_0 := blk_frozen BK265.out 0; have hfz61_1 := blk_frozen BK265.out 1; have hfz61_2 := blk_frozen BK265.out 2; have hcz62_0 : w59.cell? ⟨gb258, 0, none⟩ = some (.int .i64 x259000_1) := (blk_cell BK258.out 0).trans rfl; have hcz62_1 : w59.cell? ⟨gb258, 1, none⟩ = some (.bool x259001_1) := (blk_cell BK258.out 1).trans rfl; have hcz62_2 : w59.cell? ⟨gb258, 2, none⟩ = some (.int .i64 x259002_1) := (blk_cell BK258.out 2).trans rfl; have hfz62_0 := blk_frozen BK258.out 0; have hfz62_1 := blk_frozen BK258.out 1; have hfz62_2 := blk_frozen BK258.out 2))
                                  go_roundg kj14
                                  case measure => have := HK1.out; have := HJ14.out; omega
                                  case rel => exact ⟨(true), (wrap64 (x20_1 + 1)), (t260), (t261), (t262), (by first | rfl | (simp; done) | (simp [*]; done)), (by first | rfl | (simp; done) | (simp [*]; done)), H', ⟨by have := HK1.out; have := HJ14.out; omega⟩, ⟨by (with_reducible repeat (first | refine blk_drewN ?_ _ | refine blk_drew ?_ | refine blk_alloc ?_ _)); refine blk_put (cs := #[.int .i64 t260, .bool t261, .int .i64 x259002_1]) ?_ 2 _ rfl; (with_reducible repeat (first | refine blk_drewN ?_ _ | refine blk_drew ?_ | refine blk_alloc ?_ _)); refine blk_put (cs := #[.int .i64 t260, .bool x259001_1, .int .i64 x259002_1]) ?_ 1 _ rfl; (with_reducible repeat (first | refine blk_drewN ?_ _ | refine blk_drew ?_ | refine blk_alloc ?_ _)); refine blk_put (cs := #[.int .i64 x259000_1, .bool x259001_1, .int .i64 x259002_1]) ?_ 0 _ rfl; (with_reducible repeat (first | refine blk_drewN ?_ _ | refine blk_drew ?_ | refine blk_alloc ?_ _)); exact BK258.out⟩, ⟨by repeat (first | (with_reducible first | exact HB.out | apply below_alloc | apply pw_below_drewN | apply below_drew1 | refine below_set ?_ GE258.out | refine below_set ?_ GE265.out) | exact HB.out)⟩⟩
                                · rw [if_neg c56] at H
                                  have c56b0 : (t268 == t263) = false := beq_eq_false_iff_ne.mpr c56
                                  have c56b1 : (t268 != t263) = true := bne_iff_ne.mpr c56
                                  obtain rfl := Option.some.inj H
                                  have hnb63 := NB265_258.out
                                  have hnc63 := NB258_265.out
                                  have hcz64_0 : wc.cell? ⟨gb265, 0, none⟩ = some (.int .i64 t260) := (blk_cell BK265.out 0).trans rfl
                                  have hcz64_1 : wc.cell? ⟨gb265, 1, none⟩ = some (.bool t261) := (blk_cell BK265.out 1).trans rfl
                                  have hcz64_2 : wc.cell? ⟨gb265, 2, none⟩ = some (.int .i64 t262) := (blk_cell BK265.out 2).trans rfl
                                  have hfz64_0 := blk_frozen BK265.out 0
                                  have hfz64_1 := blk_frozen BK265.out 1
                                  have hfz64_2 := blk_frozen BK265.out 2
                                  go_wp2_with (first | (go_at_call 14; (with_reducible refine (saga_Left.calls t260 t261 t262 false _ A23.out).mono ?_); rintro e w65 ⟨rfl, hb⟩; have n0_ := Aside0.mk (blk_below (g := gb258) (o := .cells #[.int .i64 x259000_1, .bool x259001_1, .int .i64 x259002_1] 23 (0, 0)) (by (with_reducible repeat (first | refine blk_drewN ?_ _ | refine blk_drew ?_ | refine blk_alloc ?_ _)); exact BK258.out) hb); have n1_ := Aside0.mk (blk_below (g := gb265) (o := .cells #[.int .i64 t260, .bool t261, .int .i64 t262] 23 (0, 0)) (by (with_reducible repeat (first | refine blk_drewN ?_ _ | refine blk_drew ?_ | refine blk_alloc ?_ _)); exact BK265.out) hb); have n2_ := Aside0.mk (below_step (by repeat (first | (with_reducible first | exact HB.out | apply below_alloc | apply pw_below_drewN | apply below_drew1 | refine below_set ?_ GE258.out | refine below_set ?_ GE265.out) | exact HB.out)) hb); clear BK258; clear BK265; clear HB; have BK258 := n0_; have BK265 := n1_; have HB := n2_; clear n0_ n1_ n2_; (try clear hb); (try clear hb2); (try clear hk); (try clear hi); have hcz66_0 : w65.cell? ⟨gb265, 0, none⟩ = some (.int .i64 t260) := (blk_cell BK265.out 0).trans rfl; have hcz66_1 : w65.cell? ⟨gb265, 1, none⟩ = some (.bool t261) := (blk_cell BK265.out 1).trans rfl; have hcz66_2 : w65.cell? ⟨gb265, 2, none⟩ = some (.int .i64 t262) := (blk_cell BK265.out 2).trans rfl; have hfz66_0 := blk_frozen BK265.out 0; have hfz66_1 := blk_frozen BK265.out 1; have hfz66_2 := blk_frozen BK265.out 2) | (go_at_call 12; (with_reducible refine (saga_Asks.calls t260 t268 _ A47.out).mono ?_); rintro e w' ⟨rfl, ⟨nd, rfl⟩⟩))
                                  go_ret
                                  exact ⟨by first | rfl | (simp [errW_none, errW_some] <;> rfl) | (simp [*, errW_none, errW_some] <;> rfl), by repeat (first | (with_reducible first | exact HB.out | apply below_alloc | apply pw_below_drewN | apply below_drew1 | refine below_set ?_ GE258.out | refine below_set ?_ GE265.out) | exact HB.out)⟩
                            · rw [if_neg c48] at H
                              have c48b0 : (t263 == t268) = false := beq_eq_false_iff_ne.mpr c48
                              have c48b1 : (t263 != t268) = true := bne_iff_ne.mpr c48
                              obtain rfl := Option.some.inj H
                              have hnb67 := NB265_258.out
                              have hnc67 := NB258_265.out
                              have hcz68_0 : wc.cell? ⟨gb265, 0, none⟩ = some (.int .i64 t260) := (blk_cell BK265.out 0).trans rfl
                              have hcz68_1 : wc.cell? ⟨gb265, 1, none⟩ = some (.bool t261) := (blk_cell BK265.out 1).trans rfl
                              have hcz68_2 : wc.cell? ⟨gb265, 2, none⟩ = some (.int .i64 t262) := (blk_cell BK265.out 2).trans rfl
                              have hfz68_0 := blk_frozen BK265.out 0
                              have hfz68_1 := blk_frozen BK265.out 1
                              have hfz68_2 := blk_frozen BK265.out 2
                              go_wp2_with (first | (go_at_call 14; (with_reducible refine (saga_Left.calls t260 t261 t262 false _ A23.out).mono ?_); rintro e w69 ⟨rfl, hb⟩; have n0_ := Aside0.mk (blk_below (g := gb258) (o := .cells #[.int .i64 x259000_1, .bool x259001_1, .int .i64 x259002_1] 23 (0, 0)) (by (with_reducible repeat (first | refine blk_drewN ?_ _ | refine blk_drew ?_ | refine blk_alloc ?_ _)); exact BK258.out) hb); have n1_ := Aside0.mk (blk_below (g := gb265) (o := .cells #[.int .i64 t260, .bool t261, .int .i64 t262] 23 (0, 0)) (by (with_reducible repeat (first | refine blk_drewN ?_ _ | refine blk_drew ?_ | refine blk_alloc ?_ _)); exact BK265.out) hb); have n2_ := Aside0.mk (below_step (by repeat (first | (with_reducible first | exact HB.out | apply below_alloc | apply pw_below_drewN | apply below_drew1 | refine below_set ?_ GE258.out | refine below_set ?_ GE265.out) | exact HB.out)) hb); clear BK258; clear BK265; clear HB; have BK258 := n0_; have BK265 := n1_; have HB := n2_; clear n0_ n1_ n2_; (try clear hb); (try clear hb2); (try clear hk); (try clear hi); have hcz70_0 : w69.cell? ⟨gb265, 0, none⟩ = some (.int .i64 t260) := (blk_cell BK265.out 0).trans rfl; have hcz70_1 : w69.cell? ⟨gb265, 1, none⟩ = some (.bool t261) := (blk_cell BK265.out 1).trans rfl; have hcz70_2 : w69.cell? ⟨gb265, 2, none⟩ = some (.int .i64 t262) := (blk_cell BK265.out 2).trans rfl; have hfz70_0 := blk_frozen BK265.out 0; have hfz70_1 := blk_frozen BK265.out 1; have hfz70_2 := blk_frozen BK265.out 2) | (go_at_call 12; (with_reducible refine (saga_Asks.calls t260 t268 _ A47.out).mono ?_); rintro e w' ⟨rfl, ⟨nd, rfl⟩⟩))
                              go_ret
                              exact ⟨by first | rfl | (simp [errW_none, errW_some] <;> rfl) | (simp [*, errW_none, errW_some] <;> rfl), by repeat (first | (with_reducible first | exact HB.out | apply below_alloc | apply pw_below_drewN | apply below_drew1 | refine below_set ?_ GE258.out | refine below_set ?_ GE265.out) | exact HB.out)⟩
                      · replace c22 := Bool.eq_false_iff.mpr c22
                        subst c22
                        have H1 : (if t263 = 0 then (if (rd l0 x20_1) = 3 then (packhorselaw14_SagaGivenUp.l0 kj14 a1 false l0 (l0.length : Int) (wrap64 (x20_1 + 1)) t260 t261 t262) else ((saga_Asks.f t260).bind fun t269 => (if t269 = t263 then (packhorselaw14_SagaGivenUp.l0 kj14 a1 false l0 (l0.length : Int) (wrap64 (x20_1 + 1)) t260 t261 t262) else (some false)))) else ((saga_Asks.f t260).bind fun t270 => (if t263 = t270 then (if (rd l0 x20_1) = 3 then (packhorselaw14_SagaGivenUp.l0 kj14 a1 false l0 (l0.length : Int) (wrap64 (x20_1 + 1)) t260 t261 t262) else (if t270 = t263 then (packhorselaw14_SagaGivenUp.l0 kj14 a1 false l0 (l0.length : Int) (wrap64 (x20_1 + 1)) t260 t261 t262) else (some false))) else (some false)))) = some r := by rw [if_neg (show ¬ (false = true) by decide)] at H; exact H
                        clear H
                        have H := H1
                        clear H1
                        by_cases c71 : t263 = 0
                        · rw [if_pos c71] at H
                          have c71b0 : (t263 == 0) = true := beq_iff_eq.mpr c71
                          have c71b1 : (t263 != 0) = false := bne_eq_false_iff_eq.mpr c71
                          clear c71
                          by_cases c72 : (rd l0 x20_1) = 3
                          · rw [if_pos c72] at H
                            have c72b0 : ((rd l0 x20_1) == 3) = true := beq_iff_eq.mpr c72
                            have c72b1 : ((rd l0 x20_1) != 3) = false := bne_eq_false_iff_eq.mpr c72
                            clear c72
                            have H' := Aside0.mk H
                            clear H
                            have hnb73 := NB265_258.out
                            have hnc73 := NB258_265.out
                            have hcz74_0 : wc.cell? ⟨gb265, 0, none⟩ = some (.int .i64 t260) := (blk_cell BK265.out 0).trans rfl
                            have hcz74_1 : wc.cell? ⟨gb265, 1, none⟩ = some (.bool t261) := (blk_cell BK265.out 1).trans rfl
                            have hcz74_2 : wc.cell? ⟨gb265, 2, none⟩ = some (.int .i64 t262) := (blk_cell BK265.out 2).trans rfl
                            have hfz74_0 := blk_frozen BK265.out 0
                            have hfz74_1 := blk_frozen BK265.out 1
                            have hfz74_2 := blk_frozen BK265.out 2
                            have hcz75_0 : wc.cell? ⟨gb258, 0, none⟩ = some (.int .i64 x259000_1) := (blk_cell BK258.out 0).trans rfl
                            have hcz75_1 : wc.cell? ⟨gb258, 1, none⟩ = some (.bool x259001_1) := (blk_cell BK258.out 1).trans rfl
                            have hcz75_2 : wc.cell? ⟨gb258, 2, none⟩ = some (.int .i64 x259002_1) := (blk_cell BK258.out 2).trans rfl
                            have hfz75_0 := blk_frozen BK258.out 0
                            have hfz75_1 := blk_frozen BK258.out 1
                            have hfz75_2 := blk_frozen BK258.out 2
                            go_wp2
                            go_roundg kj14
                            case measure => have := HK1.out; have := HJ14.out; omega
                            case rel => exact ⟨(false), (wrap64 (x20_1 + 1)), (t260), (t261), (t262), (by first | rfl | (simp; done) | (simp [*]; done)), (by first | rfl | (simp; done) | (simp [*]; done)), H', ⟨by have := HK1.out; have := HJ14.out; omega⟩, ⟨by (with_reducible repeat (first | refine blk_drewN ?_ _ | refine blk_drew ?_ | refine blk_alloc ?_ _)); refine blk_put (cs := #[.int .i64 t260, .bool t261, .int .i64 x259002_1]) ?_ 2 _ rfl; (with_reducible repeat (first | refine blk_drewN ?_ _ | refine blk_drew ?_ | refine blk_alloc ?_ _)); refine blk_put (cs := #[.int .i64 t260, .bool x259001_1, .int .i64 x259002_1]) ?_ 1 _ rfl; (with_reducible repeat (first | refine blk_drewN ?_ _ | refine blk_drew ?_ | refine blk_alloc ?_ _)); refine blk_put (cs := #[.int .i64 x259000_1, .bool x259001_1, .int .i64 x259002_1]) ?_ 0 _ rfl; (with_reducible repeat (first | refine blk_drewN ?_ _ | refine blk_drew ?_ | refine blk_alloc ?_ _)); exact BK258.out⟩, ⟨by repeat (first | (with_reducible first | exact HB.out | apply below_alloc | apply pw_below_drewN | apply below_drew1 | refine below_set ?_ GE258.out | refine below_set ?_ GE265.out) | exact HB.out)⟩⟩
                          · rw [if_neg c72] at H
                            have c72b0 : ((rd l0 x20_1) == 3) = false := beq_eq_false_iff_ne.mpr c72
                            have c72b1 : ((rd l0 x20_1) != 3) = true := bne_iff_ne.mpr c72
                            replace H := Option.bind_eq_some_iff.mp H
                            obtain ⟨t269, A760, H⟩ := H
                            replace H : (if t269 = t263 then (packhorselaw14_SagaGivenUp.l0 kj14 a1 false l0 (l0.length : Int) (wrap64 (x20_1 + 1)) t260 t261 t262) else (some false)) = some r := H
                            have A76 := Aside0.mk A760
                            clear A760
                            by_cases c77 : t269 = t263
                            · rw [if_pos c77] at H
                              have c77b0 : (t269 == t263) = true := beq_iff_eq.mpr c77
                              have c77b1 : (t269 != t263) = false := bne_eq_false_iff_eq.mpr c77
                              clear c77
                              have H' := Aside0.mk H
                              clear H
                              have hnb78 := NB265_258.out
                              have hnc78 := NB258_265.out
                              have hcz79_0 : wc.cell? ⟨gb265, 0, none⟩ = some (.int .i64 t260) := (blk_cell BK265.out 0).trans rfl
                              have hcz79_1 : wc.cell? ⟨gb265, 1, none⟩ = some (.bool t261) := (blk_cell BK265.out 1).trans rfl
                              have hcz79_2 : wc.cell? ⟨gb265, 2, none⟩ = some (.int .i64 t262) := (blk_cell BK265.out 2).trans rfl
                              have hfz79_0 := blk_frozen BK265.out 0
                              have hfz79_1 := blk_frozen BK265.out 1
                              have hfz79_2 := blk_frozen BK265.out 2
                              go_wp2_with (first | (go_at_call 12; (with_reducible refine (saga_Asks.calls t260 t269 _ A76.out).mono ?_); rintro e w' ⟨rfl, ⟨nd, rfl⟩⟩; (try (rw [drewN_self wc]; generalize hq_ : World.drewN wc _ = wc; have n0_ : Aside0 (wc.heap[gb258]? = some (.cells #[.int .i64 x259000_1, .bool x259001_1, .int .i64 x259002_1] 23 (0, 0))) := ⟨by rw [← hq_]; exact (by (with_reducible repeat (first | refine blk_drewN ?_ _ | refine blk_drew ?_ | refine blk_alloc ?_ _)); exact BK258.out)⟩; have n1_ : Aside0 (wc.heap[gb265]? = some (.cells #[.int .i64 t260, .bool t261, .int .i64 t262] 23 (0, 0))) := ⟨by rw [← hq_]; exact (by (with_reducible repeat (first | refine blk_drewN ?_ _ | refine blk_drew ?_ | refine blk_alloc ?_ _)); exact BK265.out)⟩; have n2_ : Aside0 (Below w.heap.size w wc) := ⟨by rw [← hq_]; exact (by repeat (first | (with_reducible first | exact HB.out | apply below_alloc | apply pw_below_drewN | apply below_drew1 | refine below_set ?_ GE258.out | refine below_set ?_ GE265.out) | exact HB.out))⟩; clear BK258 BK265 HB hq_; have BK258 := n0_; have BK265 := n1_; have HB := n2_; clear n0_ n1_ n2_)); have hcz80_0 : wc.cell? ⟨gb265, 0, none⟩ = some (.int .i64 t260) := (blk_cell BK265.out 0).trans rfl; have hcz80_1 : wc.cell? ⟨gb265, 1, none⟩ = some (.bool t261) := (blk_cell BK265.out 1).trans rfl; have hcz80_2 : wc.cell? ⟨gb265, 2, none⟩ = some (.int .i64 t262) := (blk_cell BK265.out 2).trans rfl; have hfz80_0 := blk_frozen BK265.out 0; have hfz80_1 := blk_frozen BK265.out 1; have hfz80_2 := blk_frozen BK265.out 2; have hcz81_0 : wc.cell? ⟨gb258, 0, none⟩ = some (.int .i64 x259000_1) := (blk_cell BK258.out 0).trans rfl; have hcz81_1 : wc.cell? ⟨gb258, 1, none⟩ = some (.bool x259001_1) := (blk_cell BK258.out 1).trans rfl; have hcz81_2 : wc.cell? ⟨gb258, 2, none⟩ = some (.int .i64 x259002_1) := (blk_cell BK258.out 2).trans rfl; have hfz81_0 := blk_frozen BK258.out 0; have hfz81_1 := blk_frozen BK258.out 1; have hfz81_2 := blk_frozen BK258.out 2))
                              go_roundg kj14
                              case measure => have := HK1.out; have := HJ14.out; omega
                              case rel => exact ⟨(false), (wrap64 (x20_1 + 1)), (t260), (t261), (t262), (by first | rfl | (simp; done) | (simp [*]; done)), (by first | rfl | (simp; done) | (simp [*]; done)), H', ⟨by have := HK1.out; have := HJ14.out; omega⟩, ⟨by (with_reducible repeat (first | refine blk_drewN ?_ _ | refine blk_drew ?_ | refine blk_alloc ?_ _)); refine blk_put (cs := #[.int .i64 t260, .bool t261, .int .i64 x259002_1]) ?_ 2 _ rfl; (with_reducible repeat (first | refine blk_drewN ?_ _ | refine blk_drew ?_ | refine blk_alloc ?_ _)); refine blk_put (cs := #[.int .i64 t260, .bool x259001_1, .int .i64 x259002_1]) ?_ 1 _ rfl; (with_reducible repeat (first | refine blk_drewN ?_ _ | refine blk_drew ?_ | refine blk_alloc ?_ _)); refine blk_put (cs := #[.int .i64 x259000_1, .bool x259001_1, .int .i64 x259002_1]) ?_ 0 _ rfl; (with_reducible repeat (first | refine blk_drewN ?_ _ | refine blk_drew ?_ | refine blk_alloc ?_ _)); exact BK258.out⟩, ⟨by repeat (first | (with_reducible first | exact HB.out | apply below_alloc | apply pw_below_drewN | apply below_drew1 | refine below_set ?_ GE258.out | refine below_set ?_ GE265.out) | exact HB.out)⟩⟩
                            · rw [if_neg c77] at H
                              have c77b0 : (t269 == t263) = false := beq_eq_false_iff_ne.mpr c77
                              have c77b1 : (t269 != t263) = true := bne_iff_ne.mpr c77
                              obtain rfl := Option.some.inj H
                              have hnb82 := NB265_258.out
                              have hnc82 := NB258_265.out
                              have hcz83_0 : wc.cell? ⟨gb265, 0, none⟩ = some (.int .i64 t260) := (blk_cell BK265.out 0).trans rfl
                              have hcz83_1 : wc.cell? ⟨gb265, 1, none⟩ = some (.bool t261) := (blk_cell BK265.out 1).trans rfl
                              have hcz83_2 : wc.cell? ⟨gb265, 2, none⟩ = some (.int .i64 t262) := (blk_cell BK265.out 2).trans rfl
                              have hfz83_0 := blk_frozen BK265.out 0
                              have hfz83_1 := blk_frozen BK265.out 1
                              have hfz83_2 := blk_frozen BK265.out 2
                              go_wp2_with (first | (go_at_call 12; (with_reducible refine (saga_Asks.calls t260 t269 _ A76.out).mono ?_); rintro e w' ⟨rfl, ⟨nd, rfl⟩⟩))
                              go_ret
                              exact ⟨by first | rfl | (simp [errW_none, errW_some] <;> rfl) | (simp [*, errW_none, errW_some] <;> rfl), by repeat (first | (with_reducible first | exact HB.out | apply below_alloc | apply pw_below_drewN | apply below_drew1 | refine below_set ?_ GE258.out | refine below_set ?_ GE265.out) | exact HB.out)⟩
                        · rw [if_neg c71] at H
                          have c71b0 : (t263 == 0) = false := beq_eq_false_iff_ne.mpr c71
                          have c71b1 : (t263 != 0) = true := bne_iff_ne.mpr c71
                          replace H := Option.bind_eq_some_iff.mp H
                          obtain ⟨t270, A840, H⟩ := H
                          replace H : (if t263 = t270 then (if (rd l0 x20_1) = 3 then (packhorselaw14_SagaGivenUp.l0 kj14 a1 false l0 (l0.length : Int) (wrap64 (x20_1 + 1)) t260 t261 t262) else (if t270 = t263 then (packhorselaw14_SagaGivenUp.l0 kj14 a1 false l0 (l0.length : Int) (wrap64 (x20_1 + 1)) t260 t261 t262) else (some false))) else (some false)) = some r := H
                          have A84 := Aside0.mk A840
                          clear A840
                          by_cases c85 : t263 = t270
                          · rw [if_pos c85] at H
                            have c85b0 : (t263 == t270) = true := beq_iff_eq.mpr c85
                            have c85b1 : (t263 != t270) = false := bne_eq_false_iff_eq.mpr c85
                            clear c85
                            by_cases c86 : (rd l0 x20_1) = 3
                            · rw [if_pos c86] at H
                              have c86b0 : ((rd l0 x20_1) == 3) = true := beq_iff_eq.mpr c86
                              have c86b1 : ((rd l0 x20_1) != 3) = false := bne_eq_false_iff_eq.mpr c86
                              clear c86
                              have H' := Aside0.mk H
                              clear H
                              have hnb87 := NB265_258.out
                              have hnc87 := NB258_265.out
                              have hcz88_0 : wc.cell? ⟨gb265, 0, none⟩ = some (.int .i64 t260) := (blk_cell BK265.out 0).trans rfl
                              have hcz88_1 : wc.cell? ⟨gb265, 1, none⟩ = some (.bool t261) := (blk_cell BK265.out 1).trans rfl
                              have hcz88_2 : wc.cell? ⟨gb265, 2, none⟩ = some (.int .i64 t262) := (blk_cell BK265.out 2).trans rfl
                              have hfz88_0 := blk_frozen BK265.out 0
                              have hfz88_1 := blk_frozen BK265.out 1
                              have hfz88_2 := blk_frozen BK265.out 2
                              go_wp2_with (first | (go_at_call 12; (with_reducible refine (saga_Asks.calls t260 t270 _ A84.out).mono ?_); rintro e w' ⟨rfl, ⟨nd, rfl⟩⟩; (try (rw [drewN_self wc]; generalize hq_ : World.drewN wc _ = wc; have n0_ : Aside0 (wc.heap[gb258]? = some (.cells #[.int .i64 x259000_1, .bool x259001_1, .int .i64 x259002_1] 23 (0, 0))) := ⟨by rw [← hq_]; exact (by (with_reducible repeat (first | refine blk_drewN ?_ _ | refine blk_drew ?_ | refine blk_alloc ?_ _)); exact BK258.out)⟩; have n1_ : Aside0 (wc.heap[gb265]? = some (.cells #[.int .i64 t260, .bool t261, .int .i64 t262] 23 (0, 0))) := ⟨by rw [← hq_]; exact (by (with_reducible repeat (first | refine blk_drewN ?_ _ | refine blk_drew ?_ | refine blk_alloc ?_ _)); exact BK265.out)⟩; have n2_ : Aside0 (Below w.heap.size w wc) := ⟨by rw [← hq_]; exact (by repeat (first | (with_reducible first | exact HB.out | apply below_alloc | apply pw_below_drewN | apply below_drew1 | refine below_set ?_ GE258.out | refine below_set ?_ GE265.out) | exact HB.out))⟩; clear BK258 BK265 HB hq_; have BK258 := n0_; have BK265 := n1_; have HB := n2_; clear n0_ n1_ n2_)); have hcz89_0 : wc.cell? ⟨gb265, 0, none⟩ = some (.int .i64 t260) := (blk_cell BK265.out 0).trans rfl; have hcz89_1 : wc.cell? ⟨gb265, 1, none⟩ = some (.bool t261) := (blk_cell BK265.out 1).trans rfl; have hcz89_2 : wc.cell? ⟨gb265, 2, none⟩ = some (.int .i64 t262) := (blk_cell BK265.out 2).trans rfl; have hfz89_0 := blk_frozen BK265.out 0; have hfz89_1 := blk_frozen BK265.out 1; have hfz89_2 := blk_frozen BK265.out 2; have hcz90_0 : wc.cell? ⟨gb258, 0, none⟩ = some (.int .i64 x259000_1) := (blk_cell BK258.out 0).trans rfl; have hcz90_1 : wc.cell? ⟨gb258, 1, none⟩ = some (.bool x259001_1) := (blk_cell BK258.out 1).trans rfl; have hcz90_2 : wc.cell? ⟨gb258, 2, none⟩ = some (.int .i64 x259002_1) := (blk_cell BK258.out 2).trans rfl; have hfz90_0 := blk_frozen BK258.out 0; have hfz90_1 := blk_frozen BK258.out 1; have hfz90_2 := blk_frozen BK258.out 2))
                              go_roundg kj14
                              case measure => have := HK1.out; have := HJ14.out; omega
                              case rel => exact ⟨(false), (wrap64 (x20_1 + 1)), (t260), (t261), (t262), (by first | rfl | (simp; done) | (simp [*]; done)), (by first | rfl | (simp; done) | (simp [*]; done)), H', ⟨by have := HK1.out; have := HJ14.out; omega⟩, ⟨by (with_reducible repeat (first | refine blk_drewN ?_ _ | refine blk_drew ?_ | refine blk_alloc ?_ _)); refine blk_put (cs := #[.int .i64 t260, .bool t261, .int .i64 x259002_1]) ?_ 2 _ rfl; (with_reducible repeat (first | refine blk_drewN ?_ _ | refine blk_drew ?_ | refine blk_alloc ?_ _)); refine blk_put (cs := #[.int .i64 t260, .bool x259001_1, .int .i64 x259002_1]) ?_ 1 _ rfl; (with_reducible repeat (first | refine blk_drewN ?_ _ | refine blk_drew ?_ | refine blk_alloc ?_ _)); refine blk_put (cs := #[.int .i64 x259000_1, .bool x259001_1, .int .i64 x259002_1]) ?_ 0 _ rfl; (with_reducible repeat (first | refine blk_drewN ?_ _ | refine blk_drew ?_ | refine blk_alloc ?_ _)); exact BK258.out⟩, ⟨by repeat (first | (with_reducible first | exact HB.out | apply below_alloc | apply pw_below_drewN | apply below_drew1 | refine below_set ?_ GE258.out | refine below_set ?_ GE265.out) | exact HB.out)⟩⟩
                            · rw [if_neg c86] at H
                              have c86b0 : ((rd l0 x20_1) == 3) = false := beq_eq_false_iff_ne.mpr c86
                              have c86b1 : ((rd l0 x20_1) != 3) = true := bne_iff_ne.mpr c86
                              by_cases c91 : t270 = t263
                              · rw [if_pos c91] at H
                                have c91b0 : (t270 == t263) = true := beq_iff_eq.mpr c91
                                have c91b1 : (t270 != t263) = false := bne_eq_false_iff_eq.mpr c91
                                clear c91
                                have H' := Aside0.mk H
                                clear H
                                have hnb92 := NB265_258.out
                                have hnc92 := NB258_265.out
                                have hcz93_0 : wc.cell? ⟨gb265, 0, none⟩ = some (.int .i64 t260) := (blk_cell BK265.out 0).trans rfl
                                have hcz93_1 : wc.cell? ⟨gb265, 1, none⟩ = some (.bool t261) := (blk_cell BK265.out 1).trans rfl
                                have hcz93_2 : wc.cell? ⟨gb265, 2, none⟩ = some (.int .i64 t262) := (blk_cell BK265.out 2).trans rfl
                                have hfz93_0 := blk_frozen BK265.out 0
                                have hfz93_1 := blk_frozen BK265.out 1
                                have hfz93_2 := blk_frozen BK265.out 2
                                go_wp2_with (first | (go_at_call 12; (with_reducible refine (saga_Asks.calls t260 t270 _ A84.out).mono ?_); rintro e w' ⟨rfl, ⟨nd, rfl⟩⟩; (try (rw [drewN_self wc]; generalize hq_ : World.drewN wc _ = wc; have n0_ : Aside0 (wc.heap[gb258]? = some (.cells #[.int .i64 x259000_1, .bool x259001_1, .int .i64 x259002_1] 23 (0, 0))) := ⟨by rw [← hq_]; exact (by (with_reducible repeat (first | refine blk_drewN ?_ _ | refine blk_drew ?_ | refine blk_alloc ?_ _)); exact BK258.out)⟩; have n1_ : Aside0 (wc.heap[gb265]? = some (.cells #[.int .i64 t260, .bool t261, .int .i64 t262] 23 (0, 0))) := ⟨by rw [← hq_]; exact (by (with_reducible repeat (first | refine blk_drewN ?_ _ | refine blk_drew ?_ | refine blk_alloc ?_ _)); exact BK265.out)⟩; have n2_ : Aside0 (Below w.heap.size w wc) := ⟨by rw [← hq_]; exact (by repeat (first | (with_reducible first | exact HB.out | apply below_alloc | apply pw_below_drewN | apply below_drew1 | refine below_set ?_ GE258.out | refine below_set ?_ GE265.out) | exact HB.out))⟩; clear BK258 BK265 HB hq_; have BK258 := n0_; have BK265 := n1_; have HB := n2_; clear n0_ n1_ n2_)); have hcz94_0 : wc.cell? ⟨gb265, 0, none⟩ = some (.int .i64 t260) := (blk_cell BK265.out 0).trans rfl; have hcz94_1 : wc.cell? ⟨gb265, 1, none⟩ = some (.bool t261) := (blk_cell BK265.out 1).trans rfl; have hcz94_2 : wc.cell? ⟨gb265, 2, none⟩ = some (.int .i64 t262) := (blk_cell BK265.out 2).trans rfl; have hfz94_0 := blk_frozen BK265.out 0; have hfz94_1 := blk_frozen BK265.out 1; have hfz94_2 := blk_frozen BK265.out 2; have hcz95_0 : wc.cell? ⟨gb258, 0, none⟩ = some (.int .i64 x259000_1) := (blk_cell BK258.out 0).trans rfl; have hcz95_1 : wc.cell? ⟨gb258, 1, none⟩ = some (.bool x259001_1) := (blk_cell BK258.out 1).trans rfl; have hcz95_2 : wc.cell? ⟨gb258, 2, none⟩ = some (.int .i64 x259002_1) := (blk_cell BK258.out 2).trans rfl; have hfz95_0 := blk_frozen BK258.out 0; have hfz95_1 := blk_frozen BK258.out 1; have hfz95_2 := blk_frozen BK258.out 2))
                                go_roundg kj14
                                case measure => have := HK1.out; have := HJ14.out; omega
                                case rel => exact ⟨(false), (wrap64 (x20_1 + 1)), (t260), (t261), (t262), (by first | rfl | (simp; done) | (simp [*]; done)), (by first | rfl | (simp; done) | (simp [*]; done)), H', ⟨by have := HK1.out; have := HJ14.out; omega⟩, ⟨by (with_reducible repeat (first | refine blk_drewN ?_ _ | refine blk_drew ?_ | refine blk_alloc ?_ _)); refine blk_put (cs := #[.int .i64 t260, .bool t261, .int .i64 x259002_1]) ?_ 2 _ rfl; (with_reducible repeat (first | refine blk_drewN ?_ _ | refine blk_drew ?_ | refine blk_alloc ?_ _)); refine blk_put (cs := #[.int .i64 t260, .bool x259001_1, .int .i64 x259002_1]) ?_ 1 _ rfl; (with_reducible repeat (first | refine blk_drewN ?_ _ | refine blk_drew ?_ | refine blk_alloc ?_ _)); refine blk_put (cs := #[.int .i64 x259000_1, .bool x259001_1, .int .i64 x259002_1]) ?_ 0 _ rfl; (with_reducible repeat (first | refine blk_drewN ?_ _ | refine blk_drew ?_ | refine blk_alloc ?_ _)); exact BK258.out⟩, ⟨by repeat (first | (with_reducible first | exact HB.out | apply below_alloc | apply pw_below_drewN | apply below_drew1 | refine below_set ?_ GE258.out | refine below_set ?_ GE265.out) | exact HB.out)⟩⟩
                              · rw [if_neg c91] at H
                                have c91b0 : (t270 == t263) = false := beq_eq_false_iff_ne.mpr c91
                                have c91b1 : (t270 != t263) = true := bne_iff_ne.mpr c91
                                obtain rfl := Option.some.inj H
                                have hnb96 := NB265_258.out
                                have hnc96 := NB258_265.out
                                have hcz97_0 : wc.cell? ⟨gb265, 0, none⟩ = some (.int .i64 t260) := (blk_cell BK265.out 0).trans rfl
                                have hcz97_1 : wc.cell? ⟨gb265, 1, none⟩ = some (.bool t261) := (blk_cell BK265.out 1).trans rfl
                                have hcz97_2 : wc.cell? ⟨gb265, 2, none⟩ = some (.int .i64 t262) := (blk_cell BK265.out 2).trans rfl
                                have hfz97_0 := blk_frozen BK265.out 0
                                have hfz97_1 := blk_frozen BK265.out 1
                                have hfz97_2 := blk_frozen BK265.out 2
                                go_wp2_with (first | (go_at_call 12; (with_reducible refine (saga_Asks.calls t260 t270 _ A84.out).mono ?_); rintro e w' ⟨rfl, ⟨nd, rfl⟩⟩))
                                go_ret
                                exact ⟨by first | rfl | (simp [errW_none, errW_some] <;> rfl) | (simp [*, errW_none, errW_some] <;> rfl), by repeat (first | (with_reducible first | exact HB.out | apply below_alloc | apply pw_below_drewN | apply below_drew1 | refine below_set ?_ GE258.out | refine below_set ?_ GE265.out) | exact HB.out)⟩
                          · rw [if_neg c85] at H
                            have c85b0 : (t263 == t270) = false := beq_eq_false_iff_ne.mpr c85
                            have c85b1 : (t263 != t270) = true := bne_iff_ne.mpr c85
                            obtain rfl := Option.some.inj H
                            have hnb98 := NB265_258.out
                            have hnc98 := NB258_265.out
                            have hcz99_0 : wc.cell? ⟨gb265, 0, none⟩ = some (.int .i64 t260) := (blk_cell BK265.out 0).trans rfl
                            have hcz99_1 : wc.cell? ⟨gb265, 1, none⟩ = some (.bool t261) := (blk_cell BK265.out 1).trans rfl
                            have hcz99_2 : wc.cell? ⟨gb265, 2, none⟩ = some (.int .i64 t262) := (blk_cell BK265.out 2).trans rfl
                            have hfz99_0 := blk_frozen BK265.out 0
                            have hfz99_1 := blk_frozen BK265.out 1
                            have hfz99_2 := blk_frozen BK265.out 2
                            go_wp2_with (first | (go_at_call 12; (with_reducible refine (saga_Asks.calls t260 t270 _ A84.out).mono ?_); rintro e w' ⟨rfl, ⟨nd, rfl⟩⟩))
                            go_ret
                            exact ⟨by first | rfl | (simp [errW_none, errW_some] <;> rfl) | (simp [*, errW_none, errW_some] <;> rfl), by repeat (first | (with_reducible first | exact HB.out | apply below_alloc | apply pw_below_drewN | apply below_drew1 | refine below_set ?_ GE258.out | refine below_set ?_ GE265.out) | exact HB.out)⟩
                · rw [if_neg c14] at H
                  have c14b0 : (t264 == 0) = false := beq_eq_false_iff_ne.mpr c14
                  have c14b1 : (t264 != 0) = true := bne_iff_ne.mpr c14
                  by_cases c100 : (!(t260 == x259000_1) || (!(t261 == x259001_1) || (!(t262 == x259002_1)))) = true
                  · rw [if_pos c100] at H
                    have c100b0 : (!(t260 == x259000_1) || (!(t261 == x259001_1) || (!(t262 == x259002_1)))) = true := c100
                    clear c100
                    obtain rfl := Option.some.inj H
                    have p259 : 0 ≤ (x20_1 : Int) := of_decide_eq_true (by first | (with_reducible assumption) | assumption)
                    have q259 : x20_1 < (l0.length : Int) := of_decide_eq_true (by first | (with_reducible assumption) | assumption)
                    obtain ⟨ad259, e259, hx259_0⟩ := Kd.at_int HR0.out x20_1 p259 q259
                    cases e259
                    replace hx259_0 := (HB.out.cell (World.block_lt_of_cell? w _ hx259_0)).trans hx259_0
                    replace p259 := eq_true p259
                    replace q259 := eq_true q259
                    have hcz101_0 : wr.cell? ⟨gb258, 0, none⟩ = some (.int .i64 x259000_1) := (blk_cell BK258.out 0).trans rfl
                    have hcz101_1 : wr.cell? ⟨gb258, 1, none⟩ = some (.bool x259001_1) := (blk_cell BK258.out 1).trans rfl
                    have hcz101_2 : wr.cell? ⟨gb258, 2, none⟩ = some (.int .i64 x259002_1) := (blk_cell BK258.out 2).trans rfl
                    have hfz101_0 := blk_frozen BK258.out 0
                    have hfz101_1 := blk_frozen BK258.out 1
                    have hfz101_2 := blk_frozen BK258.out 2
                    go_wp2_with (first | ((with_reducible refine gate_callee (f := 10) rfl ?_); refine goesL_ (some 28) rfl rfl Try.func10 (by kernel_rfl) rfl #[.agg #[.int .i64 x259000_1, .bool x259001_1, .int .i64 x259002_1], .int .i64 (rd l0 x20_1), .int .i64 a1] rfl (by (try simp only [List.map_toArray, List.map_cons, List.map_nil]); first | done | rfl | (simp only [List.length_drop, List.length_take]; rfl)) ?_; (with_reducible refine (saga_Step.calls k1 x259000_1 x259001_1 x259002_1 (rd l0 x20_1) a1 t260 t261 t262 t263 t264 _ A13.out).mono ?_); rintro e w102 ⟨rfl, hb⟩; refine ⟨_, rfl, ?_⟩; have n0_ := Aside0.mk (blk_below (g := gb258) (o := .cells #[.int .i64 x259000_1, .bool x259001_1, .int .i64 x259002_1] 23 (0, 0)) (by (with_reducible repeat (first | refine blk_drewN ?_ _ | refine blk_drew ?_ | refine blk_alloc ?_ _)); exact BK258.out) hb); have n1_ := Aside0.mk (below_step (by repeat (first | (with_reducible first | exact HB.out | apply below_alloc | apply pw_below_drewN | apply below_drew1 | refine below_set ?_ GE258.out) | exact HB.out)) hb); clear BK258; clear HB; have BK258 := n0_; have HB := n1_; clear n0_ n1_; (try clear hb); (try clear hb2); (try clear hk); (try clear hi)) | ((with_reducible refine gate_dst (N := 9) rfl ?_); refine box_event ?hg (N := 9) ?hd (cs := #[.int .i64 0, .bool false, .int .i64 0]) (t := 23) ?hr ?_; (case hd => rfl); (case hg => rfl); (case hr => first | (go_simp; done) | (go_simp; rfl)); intro gb265 hg w103 hbox hb; have n0_ := Aside0.mk (blk_below (g := gb258) (o := .cells #[.int .i64 x259000_1, .bool x259001_1, .int .i64 x259002_1] 23 (0, 0)) (by (with_reducible repeat (first | refine blk_drewN ?_ _ | refine blk_drew ?_ | refine blk_alloc ?_ _)); exact BK258.out) hb); have n1_ := Aside0.mk (below_step (by repeat (first | (with_reducible first | exact HB.out | apply below_alloc | apply pw_below_drewN | apply below_drew1 | refine below_set ?_ GE258.out) | exact HB.out)) hb); have n2_ := Aside0.mk (hbox); have n3_ := Aside0.mk ((by rw [hg]; exact (below_size (by repeat (first | (with_reducible first | exact HB.out | apply below_alloc | apply pw_below_drewN | apply below_drew1 | refine below_set ?_ GE258.out) | exact HB.out))) : w.heap.size ≤ gb265)); have n4_ := Aside0.mk ((by rw [hg]; exact (below_size (by repeat (first | (with_reducible first | exact HB.out | apply below_alloc | apply pw_below_drewN | apply below_drew1 | refine below_set ?_ GE258.out) | exact HB.out))) : w.heap.size ≤ gb265)); have n5_ := Aside0.mk ((by rw [hg]; exact Nat.ne_of_lt (blk_lt (g := gb258) (o := .cells #[.int .i64 x259000_1, .bool x259001_1, .int .i64 x259002_1] 23 (0, 0)) (by (with_reducible repeat (first | refine blk_drewN ?_ _ | refine blk_drew ?_ | refine blk_alloc ?_ _)); exact BK258.out)) : gb258 ≠ gb265)); have n6_ := Aside0.mk ((by rw [hg]; exact Nat.ne_of_gt (blk_lt (g := gb258) (o := .cells #[.int .i64 x259000_1, .bool x259001_1, .int .i64 x259002_1] 23 (0, 0)) (by (with_reducible repeat (first | refine blk_drewN ?_ _ | refine blk_drew ?_ | refine blk_alloc ?_ _)); exact BK258.out)) : gb265 ≠ gb258)); clear BK258; clear HB; have BK258 := n0_; have HB := n1_; have BK265 := n2_; have GW265 := n3_; have GE265 := n4_; have NB258_265 := n5_; have NB265_258 := n6_; clear n0_ n1_ n2_ n3_ n4_ n5_ n6_; clear hb hbox hg; have hnb104 := NB265_258.out; have hnc104 := NB258_265.out; have hcz105_0 : w103.cell? ⟨gb265, 0, none⟩ = some (.int .i64 0) := (blk_cell BK265.out 0).trans rfl; have hcz105_1 : w103.cell? ⟨gb265, 1, none⟩ = some (.bool false) := (blk_cell BK265.out 1).trans rfl; have hcz105_2 : w103.cell? ⟨gb265, 2, none⟩ = some (.int .i64 0) := (blk_cell BK265.out 2).trans rfl; have hfz105_0 := blk_frozen BK265.out 0; have hfz105_1 := blk_frozen BK265.out 1; have hfz105_2 := blk_frozen BK265.out 2; have hcz106_0 : w103.cell? ⟨gb258, 0, none⟩ = some (.int .i64 x259000_1) := (blk_cell BK258.out 0).trans rfl; have hcz106_1 : w103.cell? ⟨gb258, 1, none⟩ = some (.bool x259001_1) := (blk_cell BK258.out 1).trans rfl; have hcz106_2 : w103.cell? ⟨gb258, 2, none⟩ = some (.int .i64 x259002_1) := (blk_cell BK258.out 2).trans rfl; have hfz106_0 := blk_frozen BK258.out 0; have hfz106_1 := blk_frozen BK258.out 1; have hfz106_2 := blk_frozen BK258.out 2))
                    go_ret
                    exact ⟨by first | rfl | (simp [errW_none, errW_some] <;> rfl) | (simp [*, errW_none, errW_some] <;> rfl), by repeat (first | (with_reducible first | exact HB.out | apply below_alloc | apply pw_below_drewN | apply below_drew1 | refine below_set ?_ GE258.out | refine below_set ?_ GE265.out) | exact HB.out)⟩
                  · rw [if_neg c100] at H
                    have c100b0 : (!(t260 == x259000_1) || (!(t261 == x259001_1) || (!(t262 == x259002_1)))) = false := by simpa using c100
                    clear c100
                    by_cases c107 : t263 = 0
                    · rw [if_pos c107] at H
                      have c107b0 : (t263 == 0) = true := beq_iff_eq.mpr c107
                      have c107b1 : (t263 != 0) = false := bne_eq_false_iff_eq.mpr c107
                      clear c107
                      have H' := Aside0.mk H
                      clear H
                      have p259 : 0 ≤ (x20_1 : Int) := of_decide_eq_true (by first | (with_reducible assumption) | assumption)
                      have q259 : x20_1 < (l0.length : Int) := of_decide_eq_true (by first | (with_reducible assumption) | assumption)
                      obtain ⟨ad259, e259, hx259_0⟩ := Kd.at_int HR0.out x20_1 p259 q259
                      cases e259
                      replace hx259_0 := (HB.out.cell (World.block_lt_of_cell? w _ hx259_0)).trans hx259_0
                      replace p259 := eq_true p259
                      replace q259 := eq_true q259
                      have hcz108_0 : wr.cell? ⟨gb258, 0, none⟩ = some (.int .i64 x259000_1) := (blk_cell BK258.out 0).trans rfl
                      have hcz108_1 : wr.cell? ⟨gb258, 1, none⟩ = some (.bool x259001_1) := (blk_cell BK258.out 1).trans rfl
                      have hcz108_2 : wr.cell? ⟨gb258, 2, none⟩ = some (.int .i64 x259002_1) := (blk_cell BK258.out 2).trans rfl
                      have hfz108_0 := blk_frozen BK258.out 0
                      have hfz108_1 := blk_frozen BK258.out 1
                      have hfz108_2 := blk_frozen BK258.out 2
                      go_wp2_with (first | ((with_reducible refine gate_callee (f := 10) rfl ?_); refine goesL_ (some 28) rfl rfl Try.func10 (by kernel_rfl) rfl #[.agg #[.int .i64 x259000_1, .bool x259001_1, .int .i64 x259002_1], .int .i64 (rd l0 x20_1), .int .i64 a1] rfl (by (try simp only [List.map_toArray, List.map_cons, List.map_nil]); first | done | rfl | (simp only [List.length_drop, List.length_take]; rfl)) ?_; (with_reducible refine (saga_Step.calls k1 x259000_1 x259001_1 x259002_1 (rd l0 x20_1) a1 t260 t261 t262 t263 t264 _ A13.out).mono ?_); rintro e w109 ⟨rfl, hb⟩; refine ⟨_, rfl, ?_⟩; have n0_ := Aside0.mk (blk_below (g := gb258) (o := .cells #[.int .i64 x259000_1, .bool x259001_1, .int .i64 x259002_1] 23 (0, 0)) (by (with_reducible repeat (first | refine blk_drewN ?_ _ | refine blk_drew ?_ | refine blk_alloc ?_ _)); exact BK258.out) hb); have n1_ := Aside0.mk (below_step (by repeat (first | (with_reducible first | exact HB.out | apply below_alloc | apply pw_below_drewN | apply below_drew1 | refine below_set ?_ GE258.out) | exact HB.out)) hb); clear BK258; clear HB; have BK258 := n0_; have HB := n1_; clear n0_ n1_; (try clear hb); (try clear hb2); (try clear hk); (try clear hi)) | ((with_reducible refine gate_dst (N := 9) rfl ?_); refine box_event ?hg (N := 9) ?hd (cs := #[.int .i64 0, .bool false, .int .i64 0]) (t := 23) ?hr ?_; (case hd => rfl); (case hg => rfl); (case hr => first | (go_simp; done) | (go_simp; rfl)); intro gb265 hg w110 hbox hb; have n0_ := Aside0.mk (blk_below (g := gb258) (o := .cells #[.int .i64 x259000_1, .bool x259001_1, .int .i64 x259002_1] 23 (0, 0)) (by (with_reducible repeat (first | refine blk_drewN ?_ _ | refine blk_drew ?_ | refine blk_alloc ?_ _)); exact BK258.out) hb); have n1_ := Aside0.mk (below_step (by repeat (first | (with_reducible first | exact HB.out | apply below_alloc | apply pw_below_drewN | apply below_drew1 | refine below_set ?_ GE258.out) | exact HB.out)) hb); have n2_ := Aside0.mk (hbox); have n3_ := Aside0.mk ((by rw [hg]; exact (below_size (by repeat (first | (with_reducible first | exact HB.out | apply below_alloc | apply pw_below_drewN | apply below_drew1 | refine below_set ?_ GE258.out) | exact HB.out))) : w.heap.size ≤ gb265)); have n4_ := Aside0.mk ((by rw [hg]; exact (below_size (by repeat (first | (with_reducible first | exact HB.out | apply below_alloc | apply pw_below_drewN | apply below_drew1 | refine below_set ?_ GE258.out) | exact HB.out))) : w.heap.size ≤ gb265)); have n5_ := Aside0.mk ((by rw [hg]; exact Nat.ne_of_lt (blk_lt (g := gb258) (o := .cells #[.int .i64 x259000_1, .bool x259001_1, .int .i64 x259002_1] 23 (0, 0)) (by (with_reducible repeat (first | refine blk_drewN ?_ _ | refine blk_drew ?_ | refine blk_alloc ?_ _)); exact BK258.out)) : gb258 ≠ gb265)); have n6_ := Aside0.mk ((by rw [hg]; exact Nat.ne_of_gt (blk_lt (g := gb258) (o := .cells #[.int .i64 x259000_1, .bool x259001_1, .int .i64 x259002_1] 23 (0, 0)) (by (with_reducible repeat (first | refine blk_drewN ?_ _ | refine blk_drew ?_ | refine blk_alloc ?_ _)); exact BK258.out)) : gb265 ≠ gb258)); clear BK258; clear HB; have BK258 := n0_; have HB := n1_; have BK265 := n2_; have GW265 := n3_; have GE265 := n4_; have NB258_265 := n5_; have NB265_258 := n6_; clear n0_ n1_ n2_ n3_ n4_ n5_ n6_; clear hb hbox hg; have hnb111 := NB265_258.out; have hnc111 := NB258_265.out; have hcz112_0 : w110.cell? ⟨gb265, 0, none⟩ = some (.int .i64 0) := (blk_cell BK265.out 0).trans rfl; have hcz112_1 : w110.cell? ⟨gb265, 1, none⟩ = some (.bool false) := (blk_cell BK265.out 1).trans rfl; have hcz112_2 : w110.cell? ⟨gb265, 2, none⟩ = some (.int .i64 0) := (blk_cell BK265.out 2).trans rfl; have hfz112_0 := blk_frozen BK265.out 0; have hfz112_1 := blk_frozen BK265.out 1; have hfz112_2 := blk_frozen BK265.out 2; have hcz113_0 : w110.cell? ⟨gb258, 0, none⟩ = some (.int .i64 x259000_1) := (blk_cell BK258.out 0).trans rfl; have hcz113_1 : w110.cell? ⟨gb258, 1, none⟩ = some (.bool x259001_1) := (blk_cell BK258.out 1).trans rfl; have hcz113_2 : w110.cell? ⟨gb258, 2, none⟩ = some (.int .i64 x259002_1) := (blk_cell BK258.out 2).trans rfl; have hfz113_0 := blk_frozen BK258.out 0; have hfz113_1 := blk_frozen BK258.out 1; have hfz113_2 := blk_frozen BK258.out 2))
                      go_roundg k1
                      case measure => have := HK1.out; omega
                      case rel => exact ⟨(x6_1), (wrap64 (x20_1 + 1)), (x259000_1), (x259001_1), (x259002_1), (by first | rfl | (simp; done) | (simp [*]; done)), (by first | rfl | (simp; done) | (simp [*]; done)), H', ⟨by have := HK1.out; omega⟩, ⟨by (with_reducible repeat (first | refine blk_drewN ?_ _ | refine blk_drew ?_ | refine blk_alloc ?_ _)); refine blk_far ?_ NB258_265.out _; (with_reducible repeat (first | refine blk_drewN ?_ _ | refine blk_drew ?_ | refine blk_alloc ?_ _)); refine blk_far ?_ NB258_265.out _; (with_reducible repeat (first | refine blk_drewN ?_ _ | refine blk_drew ?_ | refine blk_alloc ?_ _)); refine blk_far ?_ NB258_265.out _; (with_reducible repeat (first | refine blk_drewN ?_ _ | refine blk_drew ?_ | refine blk_alloc ?_ _)); exact BK258.out⟩, ⟨by repeat (first | (with_reducible first | exact HB.out | apply below_alloc | apply pw_below_drewN | apply below_drew1 | refine below_set ?_ GE258.out | refine below_set ?_ GE265.out) | exact HB.out)⟩⟩
                    · rw [if_neg c107] at H
                      have c107b0 : (t263 == 0) = false := beq_eq_false_iff_ne.mpr c107
                      have c107b1 : (t263 != 0) = true := bne_iff_ne.mpr c107
                      obtain rfl := Option.some.inj H
                      have p259 : 0 ≤ (x20_1 : Int) := of_decide_eq_true (by first | (with_reducible assumption) | assumption)
                      have q259 : x20_1 < (l0.length : Int) := of_decide_eq_true (by first | (with_reducible assumption) | assumption)
                      obtain ⟨ad259, e259, hx259_0⟩ := Kd.at_int HR0.out x20_1 p259 q259
                      cases e259
                      replace hx259_0 := (HB.out.cell (World.block_lt_of_cell? w _ hx259_0)).trans hx259_0
                      replace p259 := eq_true p259
                      replace q259 := eq_true q259
                      have hcz114_0 : wr.cell? ⟨gb258, 0, none⟩ = some (.int .i64 x259000_1) := (blk_cell BK258.out 0).trans rfl
                      have hcz114_1 : wr.cell? ⟨gb258, 1, none⟩ = some (.bool x259001_1) := (blk_cell BK258.out 1).trans rfl
                      have hcz114_2 : wr.cell? ⟨gb258, 2, none⟩ = some (.int .i64 x259002_1) := (blk_cell BK258.out 2).trans rfl
                      have hfz114_0 := blk_frozen BK258.out 0
                      have hfz114_1 := blk_frozen BK258.out 1
                      have hfz114_2 := blk_frozen BK258.out 2
                      go_wp2_with (first | ((with_reducible refine gate_callee (f := 10) rfl ?_); refine goesL_ (some 28) rfl rfl Try.func10 (by kernel_rfl) rfl #[.agg #[.int .i64 x259000_1, .bool x259001_1, .int .i64 x259002_1], .int .i64 (rd l0 x20_1), .int .i64 a1] rfl (by (try simp only [List.map_toArray, List.map_cons, List.map_nil]); first | done | rfl | (simp only [List.length_drop, List.length_take]; rfl)) ?_; (with_reducible refine (saga_Step.calls k1 x259000_1 x259001_1 x259002_1 (rd l0 x20_1) a1 t260 t261 t262 t263 t264 _ A13.out).mono ?_); rintro e w115 ⟨rfl, hb⟩; refine ⟨_, rfl, ?_⟩; have n0_ := Aside0.mk (blk_below (g := gb258) (o := .cells #[.int .i64 x259000_1, .bool x259001_1, .int .i64 x259002_1] 23 (0, 0)) (by (with_reducible repeat (first | refine blk_drewN ?_ _ | refine blk_drew ?_ | refine blk_alloc ?_ _)); exact BK258.out) hb); have n1_ := Aside0.mk (below_step (by repeat (first | (with_reducible first | exact HB.out | apply below_alloc | apply pw_below_drewN | apply below_drew1 | refine below_set ?_ GE258.out) | exact HB.out)) hb); clear BK258; clear HB; have BK258 := n0_; have HB := n1_; clear n0_ n1_; (try clear hb); (try clear hb2); (try clear hk); (try clear hi)) | ((with_reducible refine gate_dst (N := 9) rfl ?_); refine box_event ?hg (N := 9) ?hd (cs := #[.int .i64 0, .bool false, .int .i64 0]) (t := 23) ?hr ?_; (case hd => rfl); (case hg => rfl); (case hr => first | (go_simp; done) | (go_simp; rfl)); intro gb265 hg w116 hbox hb; have n0_ := Aside0.mk (blk_below (g := gb258) (o := .cells #[.int .i64 x259000_1, .bool x259001_1, .int .i64 x259002_1] 23 (0, 0)) (by (with_reducible repeat (first | refine blk_drewN ?_ _ | refine blk_drew ?_ | refine blk_alloc ?_ _)); exact BK258.out) hb); have n1_ := Aside0.mk (below_step (by repeat (first | (with_reducible first | exact HB.out | apply below_alloc | apply pw_below_drewN | apply below_drew1 | refine below_set ?_ GE258.out) | exact HB.out)) hb); have n2_ := Aside0.mk (hbox); have n3_ := Aside0.mk ((by rw [hg]; exact (below_size (by repeat (first | (with_reducible first | exact HB.out | apply below_alloc | apply pw_below_drewN | apply below_drew1 | refine below_set ?_ GE258.out) | exact HB.out))) : w.heap.size ≤ gb265)); have n4_ := Aside0.mk ((by rw [hg]; exact (below_size (by repeat (first | (with_reducible first | exact HB.out | apply below_alloc | apply pw_below_drewN | apply below_drew1 | refine below_set ?_ GE258.out) | exact HB.out))) : w.heap.size ≤ gb265)); have n5_ := Aside0.mk ((by rw [hg]; exact Nat.ne_of_lt (blk_lt (g := gb258) (o := .cells #[.int .i64 x259000_1, .bool x259001_1, .int .i64 x259002_1] 23 (0, 0)) (by (with_reducible repeat (first | refine blk_drewN ?_ _ | refine blk_drew ?_ | refine blk_alloc ?_ _)); exact BK258.out)) : gb258 ≠ gb265)); have n6_ := Aside0.mk ((by rw [hg]; exact Nat.ne_of_gt (blk_lt (g := gb258) (o := .cells #[.int .i64 x259000_1, .bool x259001_1, .int .i64 x259002_1] 23 (0, 0)) (by (with_reducible repeat (first | refine blk_drewN ?_ _ | refine blk_drew ?_ | refine blk_alloc ?_ _)); exact BK258.out)) : gb265 ≠ gb258)); clear BK258; clear HB; have BK258 := n0_; have HB := n1_; have BK265 := n2_; have GW265 := n3_; have GE265 := n4_; have NB258_265 := n5_; have NB265_258 := n6_; clear n0_ n1_ n2_ n3_ n4_ n5_ n6_; clear hb hbox hg; have hnb117 := NB265_258.out; have hnc117 := NB258_265.out; have hcz118_0 : w116.cell? ⟨gb265, 0, none⟩ = some (.int .i64 0) := (blk_cell BK265.out 0).trans rfl; have hcz118_1 : w116.cell? ⟨gb265, 1, none⟩ = some (.bool false) := (blk_cell BK265.out 1).trans rfl; have hcz118_2 : w116.cell? ⟨gb265, 2, none⟩ = some (.int .i64 0) := (blk_cell BK265.out 2).trans rfl; have hfz118_0 := blk_frozen BK265.out 0; have hfz118_1 := blk_frozen BK265.out 1; have hfz118_2 := blk_frozen BK265.out 2; have hcz119_0 : w116.cell? ⟨gb258, 0, none⟩ = some (.int .i64 x259000_1) := (blk_cell BK258.out 0).trans rfl; have hcz119_1 : w116.cell? ⟨gb258, 1, none⟩ = some (.bool x259001_1) := (blk_cell BK258.out 1).trans rfl; have hcz119_2 : w116.cell? ⟨gb258, 2, none⟩ = some (.int .i64 x259002_1) := (blk_cell BK258.out 2).trans rfl; have hfz119_0 := blk_frozen BK258.out 0; have hfz119_1 := blk_frozen BK258.out 1; have hfz119_2 := blk_frozen BK258.out 2))
                      go_ret
                      exact ⟨by first | rfl | (simp [errW_none, errW_some] <;> rfl) | (simp [*, errW_none, errW_some] <;> rfl), by repeat (first | (with_reducible first | exact HB.out | apply below_alloc | apply pw_below_drewN | apply below_drew1 | refine below_set ?_ GE258.out | refine below_set ?_ GE265.out) | exact HB.out)⟩
              · rw [if_neg c12] at H
                exact absurd H (by simp)
            · rw [if_neg c11] at H
              exact absurd H (by simp)
          · rw [if_neg c10] at H
            have c10b0 : decide (x20_1 < (l0.length : Int)) = false := decide_eq_false c10
            clear c10
            by_cases c120 : x259000_1 ≥ 1
            · rw [if_pos c120] at H
              have c120b0 : decide (1 ≤ x259000_1) = true := decide_eq_true c120
              clear c120
              obtain rfl := Option.some.inj H
              have hcz121_0 : wr.cell? ⟨gb258, 0, none⟩ = some (.int .i64 x259000_1) := (blk_cell BK258.out 0).trans rfl
              have hcz121_1 : wr.cell? ⟨gb258, 1, none⟩ = some (.bool x259001_1) := (blk_cell BK258.out 1).trans rfl
              have hcz121_2 : wr.cell? ⟨gb258, 2, none⟩ = some (.int .i64 x259002_1) := (blk_cell BK258.out 2).trans rfl
              have hfz121_0 := blk_frozen BK258.out 0
              have hfz121_1 := blk_frozen BK258.out 1
              have hfz121_2 := blk_frozen BK258.out 2
              go_wp2
              go_ret
              exact ⟨by first | rfl | (simp [errW_none, errW_some] <;> rfl) | (simp [*, errW_none, errW_some] <;> rfl), by repeat (first | (with_reducible first | exact HB.out | apply below_alloc | apply pw_below_drewN | apply below_drew1 | refine below_set ?_ GE258.out) | exact HB.out)⟩
            · rw [if_neg c120] at H
              have c120b0 : decide (1 ≤ x259000_1) = false := decide_eq_false c120
              clear c120
              obtain rfl := Option.some.inj H
              have hcz122_0 : wr.cell? ⟨gb258, 0, none⟩ = some (.int .i64 x259000_1) := (blk_cell BK258.out 0).trans rfl
              have hcz122_1 : wr.cell? ⟨gb258, 1, none⟩ = some (.bool x259001_1) := (blk_cell BK258.out 1).trans rfl
              have hcz122_2 : wr.cell? ⟨gb258, 2, none⟩ = some (.int .i64 x259002_1) := (blk_cell BK258.out 2).trans rfl
              have hfz122_0 := blk_frozen BK258.out 0
              have hfz122_1 := blk_frozen BK258.out 1
              have hfz122_2 := blk_frozen BK258.out 2
              go_wp2
              go_ret
              exact ⟨by first | rfl | (simp [errW_none, errW_some] <;> rfl) | (simp [*, errW_none, errW_some] <;> rfl), by repeat (first | (with_reducible first | exact HB.out | apply below_alloc | apply pw_below_drewN | apply below_drew1 | refine below_set ?_ GE258.out) | exact HB.out)⟩
  · replace c4 := Bool.eq_false_iff.mpr c4
    subst c4
    have H1 : (some false) = some r := by rw [if_neg (show ¬ (false = true) by decide)] at H; exact H
    clear H
    have H := H1
    clear H1
    obtain rfl := Option.some.inj H
    go_enter Try.func8, Try.ntmps8
    go_wp2_with (first | ((with_reducible refine gate_callee (f := 9) rfl ?_); refine goesL_ (some 12) rfl rfl Try.func9 (by kernel_rfl) rfl #[] rfl (by (try simp only [List.map_toArray, List.map_cons, List.map_nil]); first | done | rfl | (simp only [List.length_drop, List.length_take]; rfl)) ?_; (with_reducible refine (packhorselaw14_sagaAlive.calls k  false _ A3.out).mono ?_); rintro e w123 ⟨rfl, hb⟩; refine ⟨_, rfl, ?_⟩; have n0_ := Aside0.mk (below_step (by repeat (first | (with_reducible first | exact HB.out | apply below_alloc | apply pw_below_drewN | apply below_drew1) | exact HB.out)) hb); clear HB; have HB := n0_; clear n0_; (try clear hb); (try clear hb2); (try clear hk); (try clear hi)))
    go_ret
    exact ⟨by first | rfl | (simp [errW_none, errW_some] <;> rfl) | (simp [*, errW_none, errW_some] <;> rfl), by repeat (first | (with_reducible first | exact HB.out | apply below_alloc | apply pw_below_drewN | apply below_drew1) | exact HB.out)⟩

end Go.Proofs.Ytcghipdlihpbcaa.PAll
