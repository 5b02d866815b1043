-- Made by a program of this session (wip/gen)
import Derived.Test.YtcghipdlihpbcaaPAllx0
import Derived.Test.YtcghipdlihpbcaaPAllx2
import Derived.Test.YtcghipdlihpbcaaPAllx4
import Derived.Test.YtcghipdlihpbcaaPAllx5
namespace Go.Proofs.Ytcghipdlihpbcaa.PAll
open Go.RowKit Go.Proofs.YtcghipdlihpbcaaW.PrintWords Go.Proofs.YtcghipdlihpbcaaW.PrintLast Go.Proofs.YtcghipdlihpbcaaW.PrintMore
attribute [local go_sem] max2_int min2_int max_two min_two max_three min_three max_four min_four   -- for this text's walks alone
set_option linter.unusedVariables false
set_option linter.unusedSimpArgs false

/-! ### packhorselaw14_SagaRefuses: function 6 -/
mutual
def packhorselaw14_SagaRefuses.j0 : Nat → Int → Int → Bool → Int → Option (Bool)
  | 0, _, _, _, _ => none
  | k + 1, x1, x277000, x277001, x277002 => (saga_Asks.f x277000).bind fun t277 => (packhorselaw14_SagaRefuses.l0 k x1 t277 1 x277000 x277001 x277002)
def packhorselaw14_SagaRefuses.l0 : Nat → Int → Int → Int → Int → Bool → Int → Option (Bool)
  | 0, _, _, _, _, _, _ => none
  | k + 1, x1, x6, x7, x277000, x277001, x277002 => if x7 < (mx x1 1) then ((saga_Step.f k x277000 x277001 x277002 2 x1).bind fun bt278 => (if bt278.2.2.2.2 = 0 then (if bt278.2.2.2.1 = x6 then (if bt278.1 = x277000 then (if bt278.2.2.1 = x7 then (packhorselaw14_SagaRefuses.l0 k x1 x6 (wrap64 (x7 + 1)) bt278.1 bt278.2.1 bt278.2.2.1) else (some false)) else (some false)) else (some false)) else (some false))) else ((saga_Step.f k x277000 x277001 x277002 2 x1).bind fun bt284 => (if bt284.2.2.2.2 = 0 then (if bt284.2.2.2.1 = 0 then (if bt284.1 = 12 then (some (bt284.2.2.1 == (mx x1 1))) else (some false)) else (some false)) else (some false)))
end
def packhorselaw14_SagaRefuses.f (k : Nat) (a0 : Bool) (a1 : Int) : Option (Bool) := (packhorselaw14_sagaAlive.f k).bind fun t275 => (if t275 = true then (if a1 > 2000 then (some true) else (if a0 = true then (packhorselaw14_SagaRefuses.j0 k a1 10 false 0) else (packhorselaw14_SagaRefuses.j0 k a1 9 false 0))) else (some false))
theorem packhorselaw14_SagaRefuses.mono_l : ∀ k, (∀ y0 y1 y2 y3, LeO (packhorselaw14_SagaRefuses.j0 k y0 y1 y2 y3) (packhorselaw14_SagaRefuses.j0 (k + 1) y0 y1 y2 y3)) ∧ (∀ y0 y1 y2 y3 y4 y5, LeO (packhorselaw14_SagaRefuses.l0 k y0 y1 y2 y3 y4 y5) (packhorselaw14_SagaRefuses.l0 (k + 1) y0 y1 y2 y3 y4 y5))
  | 0 => ⟨fun _ _ _ _ r h => by simp [packhorselaw14_SagaRefuses.j0] at h, fun _ _ _ _ _ _ r h => by simp [packhorselaw14_SagaRefuses.l0] at h⟩
  | k + 1 => by
    obtain ⟨ih0, ih1⟩ := packhorselaw14_SagaRefuses.mono_l k
    refine ⟨?_, ?_⟩
    · intro y0 y1 y2 y3
      unfold packhorselaw14_SagaRefuses.j0
      repeat' first
      | (with_reducible exact ih0 _ _ _ _)
      | (with_reducible exact ih1 _ _ _ _ _ _)
      | (with_reducible exact packhorselaw14_sagaAlive.mono _)
      | (with_reducible exact saga_Step.mono _ _ _ _ _ _)
      | (with_reducible exact LeO.refl _)
      | (with_reducible exact LeO.none _)
      | (with_reducible refine LeO.ite ?_ ?_)
      | (with_reducible refine LeO.bind ?_ (fun _ => ?_))
      | exact ih0 _ _ _ _
      | exact ih1 _ _ _ _ _ _
      | exact packhorselaw14_sagaAlive.mono _
      | exact saga_Step.mono _ _ _ _ _ _
      | exact LeO.none _
      | refine LeO.ite ?_ ?_
      | refine LeO.bind ?_ (fun _ => ?_)
    · intro y0 y1 y2 y3 y4 y5
      unfold packhorselaw14_SagaRefuses.l0
      repeat' first
      | (with_reducible exact ih0 _ _ _ _)
      | (with_reducible exact ih1 _ _ _ _ _ _)
      | (with_reducible exact packhorselaw14_sagaAlive.mono _)
      | (with_reducible exact saga_Step.mono _ _ _ _ _ _)
      | (with_reducible exact LeO.refl _)
      | (with_reducible exact LeO.none _)
      | (with_reducible refine LeO.ite ?_ ?_)
      | (with_reducible refine LeO.bind ?_ (fun _ => ?_))
      | exact ih0 _ _ _ _
      | exact ih1 _ _ _ _ _ _
      | exact packhorselaw14_sagaAlive.mono _
      | exact saga_Step.mono _ _ _ _ _ _
      | exact LeO.none _
      | refine LeO.ite ?_ ?_
      | refine LeO.bind ?_ (fun _ => ?_)
theorem packhorselaw14_SagaRefuses.mono : ∀ a0 a1 k, LeO (packhorselaw14_SagaRefuses.f k a0 a1) (packhorselaw14_SagaRefuses.f (k + 1) a0 a1) := by
  intro a0 a1 k
  obtain ⟨ih0, ih1⟩ := packhorselaw14_SagaRefuses.mono_l k
  unfold packhorselaw14_SagaRefuses.f
  repeat' first
      | (with_reducible exact ih0 _ _ _ _)
      | (with_reducible exact ih1 _ _ _ _ _ _)
      | (with_reducible exact packhorselaw14_sagaAlive.mono _)
      | (with_reducible exact saga_Step.mono _ _ _ _ _ _)
      | (with_reducible exact LeO.refl _)
      | (with_reducible exact LeO.none _)
      | (with_reducible refine LeO.ite ?_ ?_)
      | (with_reducible refine LeO.bind ?_ (fun _ => ?_))
      | exact ih0 _ _ _ _
      | exact ih1 _ _ _ _ _ _
      | exact packhorselaw14_sagaAlive.mono _
      | exact saga_Step.mono _ _ _ _ _ _
      | exact LeO.none _
      | refine LeO.ite ?_ ?_
      | refine LeO.bind ?_ (fun _ => ?_)
set_option maxHeartbeats 8000000 in
set_option maxRecDepth 100000 in
theorem packhorselaw14_SagaRefuses.calls (k : Nat) (a0 : Bool) (a1 : Int) (r : Bool) (w : World) (h : packhorselaw14_SagaRefuses.f k a0 a1 = some r) :
    Calls Try.prog 6 #[.bool a0, .int .i64 a1] w fun e w' => e = .returned (.bool r) ∧ Below w.heap.size w w' := by
  have hu23 := Try.underlying23
  have HB := Aside0.mk (Below.refl w.heap.size w)
  have H : ((packhorselaw14_sagaAlive.f k).bind fun t275 => (if t275 = true then (if a1 > 2000 then (some true) else (if a0 = true then (packhorselaw14_SagaRefuses.j0 k a1 10 false 0) else (packhorselaw14_SagaRefuses.j0 k a1 9 false 0))) else (some false))) = some r := h
  clear h
  replace H := Option.bind_eq_some_iff.mp H
  obtain ⟨t275, A30, H⟩ := H
  replace H : (if t275 = true then (if a1 > 2000 then (some true) else (if a0 = true then (packhorselaw14_SagaRefuses.j0 k a1 10 false 0) else (packhorselaw14_SagaRefuses.j0 k a1 9 false 0))) else (some false)) = some r := H
  have A3 := Aside0.mk A30
  clear A30
  by_cases c4 : t275 = true
  · subst c4
    have H1 : (if a1 > 2000 then (some true) else (if a0 = true then (packhorselaw14_SagaRefuses.j0 k a1 10 false 0) else (packhorselaw14_SagaRefuses.j0 k a1 9 false 0))) = some r := by rw [if_pos rfl] at H; exact H
    clear H
    have H := H1
    clear H1
    by_cases c5 : a1 > 2000
    · rw [if_pos c5] at H
      have c5b0 : decide (2000 < a1) = true := decide_eq_true c5
      clear c5
      obtain rfl := Option.some.inj H
      go_enter Try.func6, Try.ntmps6
      go_wp2_with (first | ((with_reducible refine gate_callee (f := 9) rfl ?_); refine goesL_ (some 14) rfl rfl Try.func9 (by kernel_rfl) rfl #[] rfl (by (try simp only [List.map_toArray, List.map_cons, List.map_nil]); first | done | rfl | (simp only [List.length_drop, List.length_take]; rfl)) ?_; (with_reducible refine (packhorselaw14_sagaAlive.calls k  true _ A3.out).mono ?_); rintro e w6 ⟨rfl, hb⟩; refine ⟨_, rfl, ?_⟩; have n0_ := Aside0.mk (below_step (by repeat (first | (with_reducible first | exact HB.out | apply below_alloc | apply pw_below_drewN | apply below_drew1) | exact HB.out)) hb); clear HB; have HB := n0_; clear n0_; (try clear hb); (try clear hb2); (try clear hk); (try clear hi)))
      go_ret
      exact ⟨by first | rfl | (simp [errW_none, errW_some] <;> rfl) | (simp [*, errW_none, errW_some] <;> rfl), by repeat (first | (with_reducible first | exact HB.out | apply below_alloc | apply pw_below_drewN | apply below_drew1) | exact HB.out)⟩
    · rw [if_neg c5] at H
      have c5b0 : decide (2000 < a1) = false := decide_eq_false c5
      clear c5
      have HC7 := Aside0.mk H
      clear H
      go_enter Try.func6, Try.ntmps6
      go_upto_if 19 with (first | ((with_reducible refine gate_callee (f := 9) rfl ?_); refine goesL_ (some 14) rfl rfl Try.func9 (by kernel_rfl) rfl #[] rfl (by (try simp only [List.map_toArray, List.map_cons, List.map_nil]); first | done | rfl | (simp only [List.length_drop, List.length_take]; rfl)) ?_; (with_reducible refine (packhorselaw14_sagaAlive.calls k  true _ A3.out).mono ?_); rintro e w8 ⟨rfl, hb⟩; refine ⟨_, rfl, ?_⟩; have n0_ := Aside0.mk (below_step (by repeat (first | (with_reducible first | exact HB.out | apply below_alloc | apply pw_below_drewN | apply below_drew1) | exact HB.out)) hb); clear HB; have HB := n0_; clear n0_; (try clear hb); (try clear hb2); (try clear hk); (try clear hi)) | ((with_reducible refine gate_dst (N := 5) rfl ?_); (try (refine gate_guard (by rfl) ?_; dsimp only)); refine box_event ?hg (N := 5) ?hd (cs := #[.int .i64 0, .bool false, .int .i64 0]) (t := 23) ?hr ?_; (case hd => rfl); (case hg => rfl); (case hr => first | (go_simp; done) | (go_simp; rfl)); intro gb276 hg w9 hbox hb; have n0_ := Aside0.mk (below_step (by repeat (first | (with_reducible first | exact HB.out | apply below_alloc | apply pw_below_drewN | apply below_drew1) | exact HB.out)) hb); have n1_ := Aside0.mk (hbox); have n2_ := Aside0.mk ((by rw [hg]; exact (below_size (by repeat (first | (with_reducible first | exact HB.out | apply below_alloc | apply pw_below_drewN | apply below_drew1) | exact HB.out))) : w.heap.size ≤ gb276)); have n3_ := Aside0.mk ((by rw [hg]; exact (below_size (by repeat (first | (with_reducible first | exact HB.out | apply below_alloc | apply pw_below_drewN | apply below_drew1) | exact HB.out))) : w.heap.size ≤ gb276)); clear HB; have HB := n0_; have BK276 := n1_; have GW276 := n2_; have GE276 := n3_; clear n0_ n1_ n2_ n3_; clear hb hbox hg; have hcz10_0 : w9.cell? ⟨gb276, 0, none⟩ = some (.int .i64 0) := (blk_cell BK276.out 0).trans rfl; have hcz10_1 : w9.cell? ⟨gb276, 1, none⟩ = some (.bool false) := (blk_cell BK276.out 1).trans rfl; have hcz10_2 : w9.cell? ⟨gb276, 2, none⟩ = some (.int .i64 0) := (blk_cell BK276.out 2).trans rfl; have hfz10_0 := blk_frozen BK276.out 0; have hfz10_1 := blk_frozen BK276.out 1; have hfz10_2 := blk_frozen BK276.out 2))
      (try simp only [Act.put, List.setIfInBounds_toArray, List.set_cons_zero, List.set_cons_succ])
      go_cut [] (fun wc => ∃ (kq : Nat) (x277000_6 : Int), Aside0 (packhorselaw14_SagaRefuses.j0 kq a1 x277000_6 false 0 = some r) ∧ Aside0 (kq ≤ k) ∧ Aside0 (wc.heap[gb276]? = some (.cells #[.int .i64 x277000_6, .bool false, .int .i64 0] 23 (0, 0))) ∧ Aside0 (Below w.heap.size w wc))
      case first =>
        have H := HC7.out
        clear HC7
        by_cases c11 : a0 = true
        · subst c11
          have H1 : (packhorselaw14_SagaRefuses.j0 k a1 10 false 0) = some r := by rw [if_pos rfl] at H; exact H
          clear H
          have H := H1
          clear H1
          have H' := Aside0.mk H
          clear H
          have hcz12_0 : w9.cell? ⟨gb276, 0, none⟩ = some (.int .i64 0) := (blk_cell BK276.out 0).trans rfl
          have hcz12_1 : w9.cell? ⟨gb276, 1, none⟩ = some (.bool false) := (blk_cell BK276.out 1).trans rfl
          have hcz12_2 : w9.cell? ⟨gb276, 2, none⟩ = some (.int .i64 0) := (blk_cell BK276.out 2).trans rfl
          have hfz12_0 := blk_frozen BK276.out 0
          have hfz12_1 := blk_frozen BK276.out 1
          have hfz12_2 := blk_frozen BK276.out 2
          go_wp2
          go_meet
          case rel => exact ⟨_, (10), H', ⟨by first | omega | exact Nat.le_refl _⟩, ⟨by (with_reducible repeat (first | refine blk_drewN ?_ _ | refine blk_drew ?_ | refine blk_alloc ?_ _)); refine blk_put (cs := #[.int .i64 9, .bool false, .int .i64 0]) ?_ 0 _ rfl; (with_reducible repeat (first | refine blk_drewN ?_ _ | refine blk_drew ?_ | refine blk_alloc ?_ _)); refine blk_put (cs := #[.int .i64 9, .bool false, .int .i64 0]) ?_ 2 _ rfl; (with_reducible repeat (first | refine blk_drewN ?_ _ | refine blk_drew ?_ | refine blk_alloc ?_ _)); refine blk_put (cs := #[.int .i64 9, .bool false, .int .i64 0]) ?_ 1 _ rfl; (with_reducible repeat (first | refine blk_drewN ?_ _ | refine blk_drew ?_ | refine blk_alloc ?_ _)); refine blk_put (cs := #[.int .i64 0, .bool false, .int .i64 0]) ?_ 0 _ rfl; (with_reducible repeat (first | refine blk_drewN ?_ _ | refine blk_drew ?_ | refine blk_alloc ?_ _)); exact BK276.out⟩, ⟨by repeat (first | (with_reducible first | exact HB.out | apply below_alloc | apply pw_below_drewN | apply below_drew1 | refine below_set ?_ GE276.out) | exact HB.out)⟩⟩
        · replace c11 := Bool.eq_false_iff.mpr c11
          subst c11
          have H1 : (packhorselaw14_SagaRefuses.j0 k a1 9 false 0) = some r := by rw [if_neg (show ¬ (false = true) by decide)] at H; exact H
          clear H
          have H := H1
          clear H1
          have H' := Aside0.mk H
          clear H
          go_wp2
          go_meet
          case rel => exact ⟨_, (9), H', ⟨by first | omega | exact Nat.le_refl _⟩, ⟨by (with_reducible repeat (first | refine blk_drewN ?_ _ | refine blk_drew ?_ | refine blk_alloc ?_ _)); refine blk_put (cs := #[.int .i64 9, .bool false, .int .i64 0]) ?_ 2 _ rfl; (with_reducible repeat (first | refine blk_drewN ?_ _ | refine blk_drew ?_ | refine blk_alloc ?_ _)); refine blk_put (cs := #[.int .i64 9, .bool false, .int .i64 0]) ?_ 1 _ rfl; (with_reducible repeat (first | refine blk_drewN ?_ _ | refine blk_drew ?_ | refine blk_alloc ?_ _)); refine blk_put (cs := #[.int .i64 0, .bool false, .int .i64 0]) ?_ 0 _ rfl; (with_reducible repeat (first | refine blk_drewN ?_ _ | refine blk_drew ?_ | refine blk_alloc ?_ _)); exact BK276.out⟩, ⟨by repeat (first | (with_reducible first | exact HB.out | apply below_alloc | apply pw_below_drewN | apply below_drew1 | refine below_set ?_ GE276.out) | exact HB.out)⟩⟩
      case rest =>
        clear HC7
        try clear c1
        try clear p2
        try clear c4
        try clear c5
        try clear c5b0
        try clear c6
        try clear c9
        try clear c11
        try clear hcz10_0
        try clear hcz10_1
        try clear hcz10_2
        try clear hcz12_0
        try clear hcz12_1
        try clear hcz12_2
        try clear hfz10_0
        try clear hfz10_1
        try clear hfz10_2
        try clear hfz12_0
        try clear hfz12_1
        try clear hfz12_2
        obtain ⟨kq, x277000_6, HA, HJ6, BK276, HB⟩ := hcut
        cases kq with
        | zero => exact absurd HA.out (by simp [packhorselaw14_SagaRefuses.j0])
        | succ kj6 =>
          have H := HA.out
          clear HA
          simp only [packhorselaw14_SagaRefuses.j0] at H
          replace H := Option.bind_eq_some_iff.mp H
          obtain ⟨t277, A130, H⟩ := H
          replace H : (packhorselaw14_SagaRefuses.l0 kj6 a1 t277 1 x277000_6 false 0) = some r := H
          have A13 := Aside0.mk A130
          clear A130
          have H' := Aside0.mk H
          clear H
          have hcz14_0 : wc.cell? ⟨gb276, 0, none⟩ = some (.int .i64 x277000_6) := (blk_cell BK276.out 0).trans rfl
          have hcz14_1 : wc.cell? ⟨gb276, 1, none⟩ = some (.bool false) := (blk_cell BK276.out 1).trans rfl
          have hcz14_2 : wc.cell? ⟨gb276, 2, none⟩ = some (.int .i64 0) := (blk_cell BK276.out 2).trans rfl
          have hfz14_0 := blk_frozen BK276.out 0
          have hfz14_1 := blk_frozen BK276.out 1
          have hfz14_2 := blk_frozen BK276.out 2
          go_wp2_with (first | ((with_reducible refine gate_callee (f := 12) rfl ?_); refine goesL_ (some 23) rfl rfl Try.func12 (by kernel_rfl) rfl #[.int .i64 x277000_6] rfl (by (try simp only [List.map_toArray, List.map_cons, List.map_nil]); first | done | rfl | (simp only [List.length_drop, List.length_take]; rfl)) ?_; (with_reducible refine (saga_Asks.calls x277000_6 t277 _ A13.out).mono ?_); rintro e w' ⟨rfl, ⟨nd, rfl⟩⟩; refine ⟨_, rfl, ?_⟩))
          go_loopg [7] kj6 (fun kq v7 w' => ∃ (x7_2 : Int) (x277000_2 : Int) (x277001_2 : Bool) (x277002_2 : Int), v7 = .int .i64 x7_2 ∧ Aside0 (packhorselaw14_SagaRefuses.l0 kq a1 t277 x7_2 x277000_2 x277001_2 x277002_2 = some r) ∧ Aside0 (kq ≤ kj6) ∧ Aside0 (w'.heap[gb276]? = some (.cells #[.int .i64 x277000_2, .bool x277001_2, .int .i64 x277002_2] 23 (0, 0))) ∧ Aside0 (Below w.heap.size w w'))
          case atStart => exact ⟨(1), (x277000_6), (false), (0), (by first | rfl | (simp; done) | (simp [*]; done)), H', ⟨Nat.le_refl _⟩, ⟨by (with_reducible repeat (first | refine blk_drewN ?_ _ | refine blk_drew ?_ | refine blk_alloc ?_ _)); exact BK276.out⟩, ⟨by repeat (first | (with_reducible first | exact HB.out | apply below_alloc | apply pw_below_drewN | apply below_drew1 | refine below_set ?_ GE276.out) | exact HB.out)⟩⟩
          case round =>
            clear H'
            try clear c1
            try clear p2
            try clear c4
            try clear c5
            try clear c5b0
            try clear c6
            try clear c9
            try clear c11
            try clear c12
            try clear hcz10_0
            try clear hcz10_1
            try clear hcz10_2
            try clear hcz12_0
            try clear hcz12_1
            try clear hcz12_2
            try clear hcz14_0
            try clear hcz14_1
            try clear hcz14_2
            try clear hfz10_0
            try clear hfz10_1
            try clear hfz10_2
            try clear hfz12_0
            try clear hfz12_1
            try clear hfz12_2
            try clear hfz14_0
            try clear hfz14_1
            try clear hfz14_2
            try clear p2
            obtain ⟨x7_2, x277000_2, x277001_2, x277002_2, rfl, HA, HK2, BK276, HB⟩ := hrel
            cases gk with
            | zero => exact absurd HA.out (by simp [packhorselaw14_SagaRefuses.l0])
            | succ k2 =>
              have H := HA.out
              clear HA
              simp only [packhorselaw14_SagaRefuses.l0] at H
              obtain ⟨ji15, hji15⟩ : ∃ j_ : Int, (mx a1 1) = j_ := ⟨_, rfl⟩
              replace H : (if x7_2 < (ji15) then ((saga_Step.f k2 x277000_2 x277001_2 x277002_2 2 a1).bind fun bt278 => (if bt278.2.2.2.2 = 0 then (if bt278.2.2.2.1 = t277 then (if bt278.1 = x277000_2 then (if bt278.2.2.1 = x7_2 then (packhorselaw14_SagaRefuses.l0 k2 a1 t277 (wrap64 (x7_2 + 1)) bt278.1 bt278.2.1 bt278.2.2.1) else (some false)) else (some false)) else (some false)) else (some false))) else ((saga_Step.f k2 x277000_2 x277001_2 x277002_2 2 a1).bind fun bt284 => (if bt284.2.2.2.2 = 0 then (if bt284.2.2.2.1 = 0 then (if bt284.1 = 12 then (some (bt284.2.2.1 == (ji15))) else (some false)) else (some false)) else (some false)))) = some r := by first | (rw [hji15] at H; exact H) | (simp only [hji15] at H ⊢; exact H)
              have hji15_ : (if a1 < 1 then 1 else a1) = ji15 := hji15
              by_cases c16 : x7_2 < (ji15)
              · rw [if_pos c16] at H
                have c16b0 : decide (x7_2 < (ji15)) = true := decide_eq_true c16
                clear c16
                replace H := Option.bind_eq_some_iff.mp H
                obtain ⟨⟨t278, t279, t280, t281, t282⟩, A170, H⟩ := H
                replace H : (if t282 = 0 then (if t281 = t277 then (if t278 = x277000_2 then (if t280 = x7_2 then (packhorselaw14_SagaRefuses.l0 k2 a1 t277 (wrap64 (x7_2 + 1)) t278 t279 t280) else (some false)) else (some false)) else (some false)) else (some false)) = some r := H
                have A17 := Aside0.mk A170
                clear A170
                by_cases c18 : t282 = 0
                · rw [if_pos c18] at H
                  have c18b0 : (t282 == 0) = true := beq_iff_eq.mpr c18
                  have c18b1 : (t282 != 0) = false := bne_eq_false_iff_eq.mpr c18
                  clear c18
                  by_cases c19 : t281 = t277
                  · rw [if_pos c19] at H
                    have c19b0 : (t281 == t277) = true := beq_iff_eq.mpr c19
                    have c19b1 : (t281 != t277) = false := bne_eq_false_iff_eq.mpr c19
                    clear c19
                    by_cases c20 : t278 = x277000_2
                    · rw [if_pos c20] at H
                      have c20b0 : (t278 == x277000_2) = true := beq_iff_eq.mpr c20
                      have c20b1 : (t278 != x277000_2) = false := bne_eq_false_iff_eq.mpr c20
                      clear c20
                      by_cases c21 : t280 = x7_2
                      · rw [if_pos c21] at H
                        have c21b0 : (t280 == x7_2) = true := beq_iff_eq.mpr c21
                        have c21b1 : (t280 != x7_2) = false := bne_eq_false_iff_eq.mpr c21
                        clear c21
                        have H' := Aside0.mk H
                        clear H
                        have hcz22_0 : wr.cell? ⟨gb276, 0, none⟩ = some (.int .i64 x277000_2) := (blk_cell BK276.out 0).trans rfl
                        have hcz22_1 : wr.cell? ⟨gb276, 1, none⟩ = some (.bool x277001_2) := (blk_cell BK276.out 1).trans rfl
                        have hcz22_2 : wr.cell? ⟨gb276, 2, none⟩ = some (.int .i64 x277002_2) := (blk_cell BK276.out 2).trans rfl
                        have hfz22_0 := blk_frozen BK276.out 0
                        have hfz22_1 := blk_frozen BK276.out 1
                        have hfz22_2 := blk_frozen BK276.out 2
                        go_wp2_with (first | ((with_reducible refine gate_callee (f := 10) rfl ?_); refine goesL_ (some 33) rfl rfl Try.func10 (by kernel_rfl) rfl #[.agg #[.int .i64 x277000_2, .bool x277001_2, .int .i64 x277002_2], .int .i64 2, .int .i64 a1] rfl (by (try simp only [List.map_toArray, List.map_cons, List.map_nil]); first | done | rfl | (simp only [List.length_drop, List.length_take]; rfl)) ?_; (with_reducible refine (saga_Step.calls k2 x277000_2 x277001_2 x277002_2 2 a1 t278 t279 t280 t281 t282 _ A17.out).mono ?_); rintro e w23 ⟨rfl, hb⟩; refine ⟨_, rfl, ?_⟩; have n0_ := Aside0.mk (blk_below (g := gb276) (o := .cells #[.int .i64 x277000_2, .bool x277001_2, .int .i64 x277002_2] 23 (0, 0)) (by (with_reducible repeat (first | refine blk_drewN ?_ _ | refine blk_drew ?_ | refine blk_alloc ?_ _)); exact BK276.out) hb); have n1_ := Aside0.mk (below_step (by repeat (first | (with_reducible first | exact HB.out | apply below_alloc | apply pw_below_drewN | apply below_drew1 | refine below_set ?_ GE276.out) | exact HB.out)) hb); clear BK276; clear HB; have BK276 := n0_; have HB := n1_; clear n0_ n1_; (try clear hb); (try clear hb2); (try clear hk); (try clear hi)) | ((with_reducible refine gate_dst (N := 8) rfl ?_); (try (refine gate_guard (by rfl) ?_; dsimp only)); refine box_event ?hg (N := 8) ?hd (cs := #[.int .i64 0, .bool false, .int .i64 0]) (t := 23) ?hr ?_; (case hd => rfl); (case hg => rfl); (case hr => first | (go_simp; done) | (go_simp; rfl)); intro gb283 hg w24 hbox hb; have n0_ := Aside0.mk (blk_below (g := gb276) (o := .cells #[.int .i64 x277000_2, .bool x277001_2, .int .i64 x277002_2] 23 (0, 0)) (by (with_reducible repeat (first | refine blk_drewN ?_ _ | refine blk_drew ?_ | refine blk_alloc ?_ _)); exact BK276.out) hb); have n1_ := Aside0.mk (below_step (by repeat (first | (with_reducible first | exact HB.out | apply below_alloc | apply pw_below_drewN | apply below_drew1 | refine below_set ?_ GE276.out) | exact HB.out)) hb); have n2_ := Aside0.mk (hbox); have n3_ := Aside0.mk ((by rw [hg]; exact (below_size (by repeat (first | (with_reducible first | exact HB.out | apply below_alloc | apply pw_below_drewN | apply below_drew1 | refine below_set ?_ GE276.out) | exact HB.out))) : w.heap.size ≤ gb283)); have n4_ := Aside0.mk ((by rw [hg]; exact (below_size (by repeat (first | (with_reducible first | exact HB.out | apply below_alloc | apply pw_below_drewN | apply below_drew1 | refine below_set ?_ GE276.out) | exact HB.out))) : w.heap.size ≤ gb283)); have n5_ := Aside0.mk ((by rw [hg]; exact Nat.ne_of_lt (blk_lt (g := gb276) (o := .cells #[.int .i64 x277000_2, .bool x277001_2, .int .i64 x277002_2] 23 (0, 0)) (by (with_reducible repeat (first | refine blk_drewN ?_ _ | refine blk_drew ?_ | refine blk_alloc ?_ _)); exact BK276.out)) : gb276 ≠ gb283)); have n6_ := Aside0.mk ((by rw [hg]; exact Nat.ne_of_gt (blk_lt (g := gb276) (o := .cells #[.int .i64 x277000_2, .bool x277001_2, .int .i64 x277002_2] 23 (0, 0)) (by (with_reducible repeat (first | refine blk_drewN ?_ _ | refine blk_drew ?_ | refine blk_alloc ?_ _)); exact BK276.out)) : gb283 ≠ gb276)); clear BK276; clear HB; have BK276 := n0_; have HB := n1_; have BK283 := n2_; have GW283 := n3_; have GE283 := n4_; have NB276_283 := n5_; have NB283_276 := n6_; clear n0_ n1_ n2_ n3_ n4_ n5_ n6_; clear hb hbox hg; have hnb25 := NB283_276.out; have hnc25 := NB276_283.out; have hcz26_0 : w24.cell? ⟨gb283, 0, none⟩ = some (.int .i64 0) := (blk_cell BK283.out 0).trans rfl; have hcz26_1 : w24.cell? ⟨gb283, 1, none⟩ = some (.bool false) := (blk_cell BK283.out 1).trans rfl; have hcz26_2 : w24.cell? ⟨gb283, 2, none⟩ = some (.int .i64 0) := (blk_cell BK283.out 2).trans rfl; have hfz26_0 := blk_frozen BK283.out 0; have hfz26_1 := blk_frozen BK283.out 1; have hfz26_2 := blk_frozen BK283.out 2; have hcz27_0 : w24.cell? ⟨gb276, 0, none⟩ = some (.int .i64 x277000_2) := (blk_cell BK276.out 0).trans rfl; have hcz27_1 : w24.cell? ⟨gb276, 1, none⟩ = some (.bool x277001_2) := (blk_cell BK276.out 1).trans rfl; have hcz27_2 : w24.cell? ⟨gb276, 2, none⟩ = some (.int .i64 x277002_2) := (blk_cell BK276.out 2).trans rfl; have hfz27_0 := blk_frozen BK276.out 0; have hfz27_1 := blk_frozen BK276.out 1; have hfz27_2 := blk_frozen BK276.out 2))
                        go_roundg k2
                        case measure => have := HJ6.out; have := HK2.out; omega
                        case rel => exact ⟨(wrap64 (x7_2 + 1)), (t278), (t279), (t280), (by first | rfl | (simp; done) | (simp [*]; done)), H', ⟨by have := HJ6.out; have := HK2.out; omega⟩, ⟨by (with_reducible repeat (first | refine blk_drewN ?_ _ | refine blk_drew ?_ | refine blk_alloc ?_ _)); refine blk_put (cs := #[.int .i64 t278, .bool t279, .int .i64 x277002_2]) ?_ 2 _ rfl; (with_reducible repeat (first | refine blk_drewN ?_ _ | refine blk_drew ?_ | refine blk_alloc ?_ _)); refine blk_put (cs := #[.int .i64 t278, .bool x277001_2, .int .i64 x277002_2]) ?_ 1 _ rfl; (with_reducible repeat (first | refine blk_drewN ?_ _ | refine blk_drew ?_ | refine blk_alloc ?_ _)); refine blk_put (cs := #[.int .i64 x277000_2, .bool x277001_2, .int .i64 x277002_2]) ?_ 0 _ rfl; (with_reducible repeat (first | refine blk_drewN ?_ _ | refine blk_drew ?_ | refine blk_alloc ?_ _)); refine blk_far ?_ NB276_283.out _; (with_reducible repeat (first | refine blk_drewN ?_ _ | refine blk_drew ?_ | refine blk_alloc ?_ _)); refine blk_far ?_ NB276_283.out _; (with_reducible repeat (first | refine blk_drewN ?_ _ | refine blk_drew ?_ | refine blk_alloc ?_ _)); refine blk_far ?_ NB276_283.out _; (with_reducible repeat (first | refine blk_drewN ?_ _ | refine blk_drew ?_ | refine blk_alloc ?_ _)); exact BK276.out⟩, ⟨by repeat (first | (with_reducible first | exact HB.out | apply below_alloc | apply pw_below_drewN | apply below_drew1 | refine below_set ?_ GE276.out | refine below_set ?_ GE283.out) | exact HB.out)⟩⟩
                      · rw [if_neg c21] at H
                        have c21b0 : (t280 == x7_2) = false := beq_eq_false_iff_ne.mpr c21
                        have c21b1 : (t280 != x7_2) = true := bne_iff_ne.mpr c21
                        obtain rfl := Option.some.inj H
                        have hcz28_0 : wr.cell? ⟨gb276, 0, none⟩ = some (.int .i64 x277000_2) := (blk_cell BK276.out 0).trans rfl
                        have hcz28_1 : wr.cell? ⟨gb276, 1, none⟩ = some (.bool x277001_2) := (blk_cell BK276.out 1).trans rfl
                        have hcz28_2 : wr.cell? ⟨gb276, 2, none⟩ = some (.int .i64 x277002_2) := (blk_cell BK276.out 2).trans rfl
                        have hfz28_0 := blk_frozen BK276.out 0
                        have hfz28_1 := blk_frozen BK276.out 1
                        have hfz28_2 := blk_frozen BK276.out 2
                        go_wp2_with (first | ((with_reducible refine gate_callee (f := 10) rfl ?_); refine goesL_ (some 33) rfl rfl Try.func10 (by kernel_rfl) rfl #[.agg #[.int .i64 x277000_2, .bool x277001_2, .int .i64 x277002_2], .int .i64 2, .int .i64 a1] rfl (by (try simp only [List.map_toArray, List.map_cons, List.map_nil]); first | done | rfl | (simp only [List.length_drop, List.length_take]; rfl)) ?_; (with_reducible refine (saga_Step.calls k2 x277000_2 x277001_2 x277002_2 2 a1 t278 t279 t280 t281 t282 _ A17.out).mono ?_); rintro e w29 ⟨rfl, hb⟩; refine ⟨_, rfl, ?_⟩; have n0_ := Aside0.mk (blk_below (g := gb276) (o := .cells #[.int .i64 x277000_2, .bool x277001_2, .int .i64 x277002_2] 23 (0, 0)) (by (with_reducible repeat (first | refine blk_drewN ?_ _ | refine blk_drew ?_ | refine blk_alloc ?_ _)); exact BK276.out) hb); have n1_ := Aside0.mk (below_step (by repeat (first | (with_reducible first | exact HB.out | apply below_alloc | apply pw_below_drewN | apply below_drew1 | refine below_set ?_ GE276.out) | exact HB.out)) hb); clear BK276; clear HB; have BK276 := n0_; have HB := n1_; clear n0_ n1_; (try clear hb); (try clear hb2); (try clear hk); (try clear hi)) | ((with_reducible refine gate_dst (N := 8) rfl ?_); (try (refine gate_guard (by rfl) ?_; dsimp only)); refine box_event ?hg (N := 8) ?hd (cs := #[.int .i64 0, .bool false, .int .i64 0]) (t := 23) ?hr ?_; (case hd => rfl); (case hg => rfl); (case hr => first | (go_simp; done) | (go_simp; rfl)); intro gb283 hg w30 hbox hb; have n0_ := Aside0.mk (blk_below (g := gb276) (o := .cells #[.int .i64 x277000_2, .bool x277001_2, .int .i64 x277002_2] 23 (0, 0)) (by (with_reducible repeat (first | refine blk_drewN ?_ _ | refine blk_drew ?_ | refine blk_alloc ?_ _)); exact BK276.out) hb); have n1_ := Aside0.mk (below_step (by repeat (first | (with_reducible first | exact HB.out | apply below_alloc | apply pw_below_drewN | apply below_drew1 | refine below_set ?_ GE276.out) | exact HB.out)) hb); have n2_ := Aside0.mk (hbox); have n3_ := Aside0.mk ((by rw [hg]; exact (below_size (by repeat (first | (with_reducible first | exact HB.out | apply below_alloc | apply pw_below_drewN | apply below_drew1 | refine below_set ?_ GE276.out) | exact HB.out))) : w.heap.size ≤ gb283)); have n4_ := Aside0.mk ((by rw [hg]; exact (below_size (by repeat (first | (with_reducible first | exact HB.out | apply below_alloc | apply pw_below_drewN | apply below_drew1 | refine below_set ?_ GE276.out) | exact HB.out))) : w.heap.size ≤ gb283)); have n5_ := Aside0.mk ((by rw [hg]; exact Nat.ne_of_lt (blk_lt (g := gb276) (o := .cells #[.int .i64 x277000_2, .bool x277001_2, .int .i64 x277002_2] 23 (0, 0)) (by (with_reducible repeat (first | refine blk_drewN ?_ _ | refine blk_drew ?_ | refine blk_alloc ?_ _)); exact BK276.out)) : gb276 ≠ gb283)); have n6_ := Aside0.mk ((by rw [hg]; exact Nat.ne_of_gt (blk_lt (g := gb276) (o := .cells #[.int .i64 x277000_2, .bool x277001_2, .int .i64 x277002_2] 23 (0, 0)) (by (with_reducible repeat (first | refine blk_drewN ?_ _ | refine blk_drew ?_ | refine blk_alloc ?_ _)); exact BK276.out)) : gb283 ≠ gb276)); clear BK276; clear HB; have BK276 := n0_; have HB := n1_; have BK283 := n2_; have GW283 := n3_; have GE283 := n4_; have NB276_283 := n5_; have NB283_276 := n6_; clear n0_ n1_ n2_ n3_ n4_ n5_ n6_; clear hb hbox hg; have hnb31 := NB283_276.out; have hnc31 := NB276_283.out; have hcz32_0 : w30.cell? ⟨gb283, 0, none⟩ = some (.int .i64 0) := (blk_cell BK283.out 0).trans rfl; have hcz32_1 : w30.cell? ⟨gb283, 1, none⟩ = some (.bool false) := (blk_cell BK283.out 1).trans rfl; have hcz32_2 : w30.cell? ⟨gb283, 2, none⟩ = some (.int .i64 0) := (blk_cell BK283.out 2).trans rfl; have hfz32_0 := blk_frozen BK283.out 0; have hfz32_1 := blk_frozen BK283.out 1; have hfz32_2 := blk_frozen BK283.out 2; have hcz33_0 : w30.cell? ⟨gb276, 0, none⟩ = some (.int .i64 x277000_2) := (blk_cell BK276.out 0).trans rfl; have hcz33_1 : w30.cell? ⟨gb276, 1, none⟩ = some (.bool x277001_2) := (blk_cell BK276.out 1).trans rfl; have hcz33_2 : w30.cell? ⟨gb276, 2, none⟩ = some (.int .i64 x277002_2) := (blk_cell BK276.out 2).trans rfl; have hfz33_0 := blk_frozen BK276.out 0; have hfz33_1 := blk_frozen BK276.out 1; have hfz33_2 := blk_frozen BK276.out 2))
                        go_ret
                        exact ⟨by first | rfl | (simp [errW_none, errW_some] <;> rfl) | (simp only [← hji15]; first | rfl | (simp [errW_none, errW_some] <;> rfl)) | (simp [*, errW_none, errW_some] <;> rfl), by repeat (first | (with_reducible first | exact HB.out | apply below_alloc | apply pw_below_drewN | apply below_drew1 | refine below_set ?_ GE276.out | refine below_set ?_ GE283.out) | exact HB.out)⟩
                    · rw [if_neg c20] at H
                      have c20b0 : (t278 == x277000_2) = false := beq_eq_false_iff_ne.mpr c20
                      have c20b1 : (t278 != x277000_2) = true := bne_iff_ne.mpr c20
                      obtain rfl := Option.some.inj H
                      have hcz34_0 : wr.cell? ⟨gb276, 0, none⟩ = some (.int .i64 x277000_2) := (blk_cell BK276.out 0).trans rfl
                      have hcz34_1 : wr.cell? ⟨gb276, 1, none⟩ = some (.bool x277001_2) := (blk_cell BK276.out 1).trans rfl
                      have hcz34_2 : wr.cell? ⟨gb276, 2, none⟩ = some (.int .i64 x277002_2) := (blk_cell BK276.out 2).trans rfl
                      have hfz34_0 := blk_frozen BK276.out 0
                      have hfz34_1 := blk_frozen BK276.out 1
                      have hfz34_2 := blk_frozen BK276.out 2
                      go_wp2_with (first | ((with_reducible refine gate_callee (f := 10) rfl ?_); refine goesL_ (some 33) rfl rfl Try.func10 (by kernel_rfl) rfl #[.agg #[.int .i64 x277000_2, .bool x277001_2, .int .i64 x277002_2], .int .i64 2, .int .i64 a1] rfl (by (try simp only [List.map_toArray, List.map_cons, List.map_nil]); first | done | rfl | (simp only [List.length_drop, List.length_take]; rfl)) ?_; (with_reducible refine (saga_Step.calls k2 x277000_2 x277001_2 x277002_2 2 a1 t278 t279 t280 t281 t282 _ A17.out).mono ?_); rintro e w35 ⟨rfl, hb⟩; refine ⟨_, rfl, ?_⟩; have n0_ := Aside0.mk (blk_below (g := gb276) (o := .cells #[.int .i64 x277000_2, .bool x277001_2, .int .i64 x277002_2] 23 (0, 0)) (by (with_reducible repeat (first | refine blk_drewN ?_ _ | refine blk_drew ?_ | refine blk_alloc ?_ _)); exact BK276.out) hb); have n1_ := Aside0.mk (below_step (by repeat (first | (with_reducible first | exact HB.out | apply below_alloc | apply pw_below_drewN | apply below_drew1 | refine below_set ?_ GE276.out) | exact HB.out)) hb); clear BK276; clear HB; have BK276 := n0_; have HB := n1_; clear n0_ n1_; (try clear hb); (try clear hb2); (try clear hk); (try clear hi)) | ((with_reducible refine gate_dst (N := 8) rfl ?_); (try (refine gate_guard (by rfl) ?_; dsimp only)); refine box_event ?hg (N := 8) ?hd (cs := #[.int .i64 0, .bool false, .int .i64 0]) (t := 23) ?hr ?_; (case hd => rfl); (case hg => rfl); (case hr => first | (go_simp; done) | (go_simp; rfl)); intro gb283 hg w36 hbox hb; have n0_ := Aside0.mk (blk_below (g := gb276) (o := .cells #[.int .i64 x277000_2, .bool x277001_2, .int .i64 x277002_2] 23 (0, 0)) (by (with_reducible repeat (first | refine blk_drewN ?_ _ | refine blk_drew ?_ | refine blk_alloc ?_ _)); exact BK276.out) hb); have n1_ := Aside0.mk (below_step (by repeat (first | (with_reducible first | exact HB.out | apply below_alloc | apply pw_below_drewN | apply below_drew1 | refine below_set ?_ GE276.out) | exact HB.out)) hb); have n2_ := Aside0.mk (hbox); have n3_ := Aside0.mk ((by rw [hg]; exact (below_size (by repeat (first | (with_reducible first | exact HB.out | apply below_alloc | apply pw_below_drewN | apply below_drew1 | refine below_set ?_ GE276.out) | exact HB.out))) : w.heap.size ≤ gb283)); have n4_ := Aside0.mk ((by rw [hg]; exact (below_size (by repeat (first | (with_reducible first | exact HB.out | apply below_alloc | apply pw_below_drewN | apply below_drew1 | refine below_set ?_ GE276.out) | exact HB.out))) : w.heap.size ≤ gb283)); have n5_ := Aside0.mk ((by rw [hg]; exact Nat.ne_of_lt (blk_lt (g := gb276) (o := .cells #[.int .i64 x277000_2, .bool x277001_2, .int .i64 x277002_2] 23 (0, 0)) (by (with_reducible repeat (first | refine blk_drewN ?_ _ | refine blk_drew ?_ | refine blk_alloc ?_ _)); exact BK276.out)) : gb276 ≠ gb283)); have n6_ := Aside0.mk ((by rw [hg]; exact Nat.ne_of_gt (blk_lt (g := gb276) (o := .cells #[.int .i64 x277000_2, .bool x277001_2, .int .i64 x277002_2] 23 (0, 0)) (by (with_reducible repeat (first | refine blk_drewN ?_ _ | refine blk_drew ?_ | refine blk_alloc ?_ _)); exact BK276.out)) : gb283 ≠ gb276)); clear BK276; clear HB; have BK276 := n0_; have HB := n1_; have BK283 := n2_; have GW283 := n3_; have GE283 := n4_; have NB276_283 := n5_; have NB283_276 := n6_; clear n0_ n1_ n2_ n3_ n4_ n5_ n6_; clear hb hbox hg; have hnb37 := NB283_276.out; have hnc37 := NB276_283.out; have hcz38_0 : w36.cell? ⟨gb283, 0, none⟩ = some (.int .i64 0) := (blk_cell BK283.out 0).trans rfl; have hcz38_1 : w36.cell? ⟨gb283, 1, none⟩ = some (.bool false) := (blk_cell BK283.out 1).trans rfl; have hcz38_2 : w36.cell? ⟨gb283, 2, none⟩ = some (.int .i64 0) := (blk_cell BK283.out 2).trans rfl; have hfz38_0 := blk_frozen BK283.out 0; have hfz38_1 := blk_frozen BK283.out 1; have hfz38_2 := blk_frozen BK283.out 2; have hcz39_0 : w36.cell? ⟨gb276, 0, none⟩ = some (.int .i64 x277000_2) := (blk_cell BK276.out 0).trans rfl; have hcz39_1 : w36.cell? ⟨gb276, 1, none⟩ = some (.bool x277001_2) := (blk_cell BK276.out 1).trans rfl; have hcz39_2 : w36.cell? ⟨gb276, 2, none⟩ = some (.int .i64 x277002_2) := (blk_cell BK276.out 2).trans rfl; have hfz39_0 := blk_frozen BK276.out 0; have hfz39_1 := blk_frozen BK276.out 1; have hfz39_2 := blk_frozen BK276.out 2))
                      go_ret
                      exact ⟨by first | rfl | (simp [errW_none, errW_some] <;> rfl) | (simp only [← hji15]; first | rfl | (simp [errW_none, errW_some] <;> rfl)) | (simp [*, errW_none, errW_some] <;> rfl), by repeat (first | (with_reducible first | exact HB.out | apply below_alloc | apply pw_below_drewN | apply below_drew1 | refine below_set ?_ GE276.out | refine below_set ?_ GE283.out) | exact HB.out)⟩
                  · rw [if_neg c19] at H
                    have c19b0 : (t281 == t277) = false := beq_eq_false_iff_ne.mpr c19
                    have c19b1 : (t281 != t277) = true := bne_iff_ne.mpr c19
                    obtain rfl := Option.some.inj H
                    have hcz40_0 : wr.cell? ⟨gb276, 0, none⟩ = some (.int .i64 x277000_2) := (blk_cell BK276.out 0).trans rfl
                    have hcz40_1 : wr.cell? ⟨gb276, 1, none⟩ = some (.bool x277001_2) := (blk_cell BK276.out 1).trans rfl
                    have hcz40_2 : wr.cell? ⟨gb276, 2, none⟩ = some (.int .i64 x277002_2) := (blk_cell BK276.out 2).trans rfl
                    have hfz40_0 := blk_frozen BK276.out 0
                    have hfz40_1 := blk_frozen BK276.out 1
                    have hfz40_2 := blk_frozen BK276.out 2
                    go_wp2_with (first | ((with_reducible refine gate_callee (f := 10) rfl ?_); refine goesL_ (some 33) rfl rfl Try.func10 (by kernel_rfl) rfl #[.agg #[.int .i64 x277000_2, .bool x277001_2, .int .i64 x277002_2], .int .i64 2, .int .i64 a1] rfl (by (try simp only [List.map_toArray, List.map_cons, List.map_nil]); first | done | rfl | (simp only [List.length_drop, List.length_take]; rfl)) ?_; (with_reducible refine (saga_Step.calls k2 x277000_2 x277001_2 x277002_2 2 a1 t278 t279 t280 t281 t282 _ A17.out).mono ?_); rintro e w41 ⟨rfl, hb⟩; refine ⟨_, rfl, ?_⟩; have n0_ := Aside0.mk (blk_below (g := gb276) (o := .cells #[.int .i64 x277000_2, .bool x277001_2, .int .i64 x277002_2] 23 (0, 0)) (by (with_reducible repeat (first | refine blk_drewN ?_ _ | refine blk_drew ?_ | refine blk_alloc ?_ _)); exact BK276.out) hb); have n1_ := Aside0.mk (below_step (by repeat (first | (with_reducible first | exact HB.out | apply below_alloc | apply pw_below_drewN | apply below_drew1 | refine below_set ?_ GE276.out) | exact HB.out)) hb); clear BK276; clear HB; have BK276 := n0_; have HB := n1_; clear n0_ n1_; (try clear hb); (try clear hb2); (try clear hk); (try clear hi)) | ((with_reducible refine gate_dst (N := 8) rfl ?_); (try (refine gate_guard (by rfl) ?_; dsimp only)); refine box_event ?hg (N := 8) ?hd (cs := #[.int .i64 0, .bool false, .int .i64 0]) (t := 23) ?hr ?_; (case hd => rfl); (case hg => rfl); (case hr => first | (go_simp; done) | (go_simp; rfl)); intro gb283 hg w42 hbox hb; have n0_ := Aside0.mk (blk_below (g := gb276) (o := .cells #[.int .i64 x277000_2, .bool x277001_2, .int .i64 x277002_2] 23 (0, 0)) (by (with_reducible repeat (first | refine blk_drewN ?_ _ | refine blk_drew ?_ | refine blk_alloc ?_ _)); exact BK276.out) hb); have n1_ := Aside0.mk (below_step (by repeat (first | (with_reducible first | exact HB.out | apply below_alloc | apply pw_below_drewN | apply below_drew1 | refine below_set ?_ GE276.out) | exact HB.out)) hb); have n2_ := Aside0.mk (hbox); have n3_ := Aside0.mk ((by rw [hg]; exact (below_size (by repeat (first | (with_reducible first | exact HB.out | apply below_alloc | apply pw_below_drewN | apply below_drew1 | refine below_set ?_ GE276.out) | exact HB.out))) : w.heap.size ≤ gb283)); have n4_ := Aside0.mk ((by rw [hg]; exact (below_size (by repeat (first | (with_reducible first | exact HB.out | apply below_alloc | apply pw_below_drewN | apply below_drew1 | refine below_set ?_ GE276.out) | exact HB.out))) : w.heap.size ≤ gb283)); have n5_ := Aside0.mk ((by rw [hg]; exact Nat.ne_of_lt (blk_lt (g := gb276) (o := .cells #[.int .i64 x277000_2, .bool x277001_2, .int .i64 x277002_2] 23 (0, 0)) (by (with_reducible repeat (first | refine blk_drewN ?_ _ | refine blk_drew ?_ | refine blk_alloc ?_ _)); exact BK276.out)) : gb276 ≠ gb283)); have n6_ := Aside0.mk ((by rw [hg]; exact Nat.ne_of_gt (blk_lt (g := gb276) (o := .cells #[.int .i64 x277000_2, .bool x277001_2, .int .i64 x277002_2] 23 (0, 0)) (by (with_reducible repeat (first | refine blk_drewN ?_ _ | refine blk_drew ?_ | refine blk_alloc ?_ _)); exact BK276.out)) : gb283 ≠ gb276)); clear BK276; clear HB; have BK276 := n0_; have HB := n1_; have BK283 := n2_; have GW283 := n3_; have GE283 := n4_; have NB276_283 := n5_; have NB283_276 := n6_; clear n0_ n1_ n2_ n3_ n4_ n5_ n6_; clear hb hbox hg; have hnb43 := NB283_276.out; have hnc43 := NB276_283.out; have hcz44_0 : w42.cell? ⟨gb283, 0, none⟩ = some (.int .i64 0) := (blk_cell BK283.out 0).trans rfl; have hcz44_1 : w42.cell? ⟨gb283, 1, none⟩ = some (.bool false) := (blk_cell BK283.out 1).trans rfl; have hcz44_2 : w42.cell? ⟨gb283, 2, none⟩ = some (.int .i64 0) := (blk_cell BK283.out 2).trans rfl; have hfz44_0 := blk_frozen BK283.out 0; have hfz44_1 := blk_frozen BK283.out 1; have hfz44_2 := blk_frozen BK283.out 2))
                    go_ret
                    exact ⟨by first | rfl | (simp [errW_none, errW_some] <;> rfl) | (simp only [← hji15]; first | rfl | (simp [errW_none, errW_some] <;> rfl)) | (simp [*, errW_none, errW_some] <;> rfl), by repeat (first | (with_reducible first | exact HB.out | apply below_alloc | apply pw_below_drewN | apply below_drew1 | refine below_set ?_ GE276.out | refine below_set ?_ GE283.out) | exact HB.out)⟩
                · rw [if_neg c18] at H
                  have c18b0 : (t282 == 0) = false := beq_eq_false_iff_ne.mpr c18
                  have c18b1 : (t282 != 0) = true := bne_iff_ne.mpr c18
                  obtain rfl := Option.some.inj H
                  have hcz45_0 : wr.cell? ⟨gb276, 0, none⟩ = some (.int .i64 x277000_2) := (blk_cell BK276.out 0).trans rfl
                  have hcz45_1 : wr.cell? ⟨gb276, 1, none⟩ = some (.bool x277001_2) := (blk_cell BK276.out 1).trans rfl
                  have hcz45_2 : wr.cell? ⟨gb276, 2, none⟩ = some (.int .i64 x277002_2) := (blk_cell BK276.out 2).trans rfl
                  have hfz45_0 := blk_frozen BK276.out 0
                  have hfz45_1 := blk_frozen BK276.out 1
                  have hfz45_2 := blk_frozen BK276.out 2
                  go_wp2_with (first | ((with_reducible refine gate_callee (f := 10) rfl ?_); refine goesL_ (some 33) rfl rfl Try.func10 (by kernel_rfl) rfl #[.agg #[.int .i64 x277000_2, .bool x277001_2, .int .i64 x277002_2], .int .i64 2, .int .i64 a1] rfl (by (try simp only [List.map_toArray, List.map_cons, List.map_nil]); first | done | rfl | (simp only [List.length_drop, List.length_take]; rfl)) ?_; (with_reducible refine (saga_Step.calls k2 x277000_2 x277001_2 x277002_2 2 a1 t278 t279 t280 t281 t282 _ A17.out).mono ?_); rintro e w46 ⟨rfl, hb⟩; refine ⟨_, rfl, ?_⟩; have n0_ := Aside0.mk (blk_below (g := gb276) (o := .cells #[.int .i64 x277000_2, .bool x277001_2, .int .i64 x277002_2] 23 (0, 0)) (by (with_reducible repeat (first | refine blk_drewN ?_ _ | refine blk_drew ?_ | refine blk_alloc ?_ _)); exact BK276.out) hb); have n1_ := Aside0.mk (below_step (by repeat (first | (with_reducible first | exact HB.out | apply below_alloc | apply pw_below_drewN | apply below_drew1 | refine below_set ?_ GE276.out) | exact HB.out)) hb); clear BK276; clear HB; have BK276 := n0_; have HB := n1_; clear n0_ n1_; (try clear hb); (try clear hb2); (try clear hk); (try clear hi)) | ((with_reducible refine gate_dst (N := 8) rfl ?_); (try (refine gate_guard (by rfl) ?_; dsimp only)); refine box_event ?hg (N := 8) ?hd (cs := #[.int .i64 0, .bool false, .int .i64 0]) (t := 23) ?hr ?_; (case hd => rfl); (case hg => rfl); (case hr => first | (go_simp; done) | (go_simp; rfl)); intro gb283 hg w47 hbox hb; have n0_ := Aside0.mk (blk_below (g := gb276) (o := .cells #[.int .i64 x277000_2, .bool x277001_2, .int .i64 x277002_2] 23 (0, 0)) (by (with_reducible repeat (first | refine blk_drewN ?_ _ | refine blk_drew ?_ | refine blk_alloc ?_ _)); exact BK276.out) hb); have n1_ := Aside0.mk (below_step (by repeat (first | (with_reducible first | exact HB.out | apply below_alloc | apply pw_below_drewN | apply below_drew1 | refine below_set ?_ GE276.out) | exact HB.out)) hb); have n2_ := Aside0.mk (hbox); have n3_ := Aside0.mk ((by rw [hg]; exact (below_size (by repeat (first | (with_reducible first | exact HB.out | apply below_alloc | apply pw_below_drewN | apply below_drew1 | refine below_set ?_ GE276.out) | exact HB.out))) : w.heap.size ≤ gb283)); have n4_ := Aside0.mk ((by rw [hg]; exact (below_size (by repeat (first | (with_reducible first | exact HB.out | apply below_alloc | apply pw_below_drewN | apply below_drew1 | refine below_set ?_ GE276.out) | exact HB.out))) : w.heap.size ≤ gb283)); have n5_ := Aside0.mk ((by rw [hg]; exact Nat.ne_of_lt (blk_lt (g := gb276) (o := .cells #[.int .i64 x277000_2, .bool x277001_2, .int .i64 x277002_2] 23 (0, 0)) (by (with_reducible repeat (first | refine blk_drewN ?_ _ | refine blk_drew ?_ | refine blk_alloc ?_ _)); exact BK276.out)) : gb276 ≠ gb283)); have n6_ := Aside0.mk ((by rw [hg]; exact Nat.ne_of_gt (blk_lt (g := gb276) (o := .cells #[.int .i64 x277000_2, .bool x277001_2, .int .i64 x277002_2] 23 (0, 0)) (by (with_reducible repeat (first | refine blk_drewN ?_ _ | refine blk_drew ?_ | refine blk_alloc ?_ _)); exact BK276.out)) : gb283 ≠ gb276)); clear BK276; clear HB; have BK276 := n0_; have HB := n1_; have BK283 := n2_; have GW283 := n3_; have GE283 := n4_; have NB276_283 := n5_; have NB283_276 := n6_; clear n0_ n1_ n2_ n3_ n4_ n5_ n6_; clear hb hbox hg; have hnb48 := NB283_276.out; have hnc48 := NB276_283.out; have hcz49_0 : w47.cell? ⟨gb283, 0, none⟩ = some (.int .i64 0) := (blk_cell BK283.out 0).trans rfl; have hcz49_1 : w47.cell? ⟨gb283, 1, none⟩ = some (.bool false) := (blk_cell BK283.out 1).trans rfl; have hcz49_2 : w47.cell? ⟨gb283, 2, none⟩ = some (.int .i64 0) := (blk_cell BK283.out 2).trans rfl; have hfz49_0 := blk_frozen BK283.out 0; have hfz49_1 := blk_frozen BK283.out 1; have hfz49_2 := blk_frozen BK283.out 2))
                  go_ret
                  exact ⟨by first | rfl | (simp [errW_none, errW_some] <;> rfl) | (simp only [← hji15]; first | rfl | (simp [errW_none, errW_some] <;> rfl)) | (simp [*, errW_none, errW_some] <;> rfl), by repeat (first | (with_reducible first | exact HB.out | apply below_alloc | apply pw_below_drewN | apply below_drew1 | refine below_set ?_ GE276.out | refine below_set ?_ GE283.out) | exact HB.out)⟩
              · rw [if_neg c16] at H
                have c16b0 : decide (x7_2 < (ji15)) = false := decide_eq_false c16
                clear c16
                replace H := Option.bind_eq_some_iff.mp H
                obtain ⟨⟨t284, t285, t286, t287, t288⟩, A500, H⟩ := H
                replace H : (if t288 = 0 then (if t287 = 0 then (if t284 = 12 then (some (t286 == (ji15))) else (some false)) else (some false)) else (some false)) = some r := H
                have A50 := Aside0.mk A500
                clear A500
                by_cases c51 : t288 = 0
                · rw [if_pos c51] at H
                  have c51b0 : (t288 == 0) = true := beq_iff_eq.mpr c51
                  have c51b1 : (t288 != 0) = false := bne_eq_false_iff_eq.mpr c51
                  clear c51
                  by_cases c52 : t287 = 0
                  · rw [if_pos c52] at H
                    have c52b0 : (t287 == 0) = true := beq_iff_eq.mpr c52
                    have c52b1 : (t287 != 0) = false := bne_eq_false_iff_eq.mpr c52
                    clear c52
                    by_cases c53 : t284 = 12
                    · rw [if_pos c53] at H
                      have c53b0 : (t284 == 12) = true := beq_iff_eq.mpr c53
                      have c53b1 : (t284 != 12) = false := bne_eq_false_iff_eq.mpr c53
                      clear c53
                      obtain rfl := Option.some.inj H
                      have hcz54_0 : wr.cell? ⟨gb276, 0, none⟩ = some (.int .i64 x277000_2) := (blk_cell BK276.out 0).trans rfl
                      have hcz54_1 : wr.cell? ⟨gb276, 1, none⟩ = some (.bool x277001_2) := (blk_cell BK276.out 1).trans rfl
                      have hcz54_2 : wr.cell? ⟨gb276, 2, none⟩ = some (.int .i64 x277002_2) := (blk_cell BK276.out 2).trans rfl
                      have hfz54_0 := blk_frozen BK276.out 0
                      have hfz54_1 := blk_frozen BK276.out 1
                      have hfz54_2 := blk_frozen BK276.out 2
                      go_wp2_with (first | ((with_reducible refine gate_callee (f := 10) rfl ?_); refine goesL_ (some 61) rfl rfl Try.func10 (by kernel_rfl) rfl #[.agg #[.int .i64 x277000_2, .bool x277001_2, .int .i64 x277002_2], .int .i64 2, .int .i64 a1] rfl (by (try simp only [List.map_toArray, List.map_cons, List.map_nil]); first | done | rfl | (simp only [List.length_drop, List.length_take]; rfl)) ?_; (with_reducible refine (saga_Step.calls k2 x277000_2 x277001_2 x277002_2 2 a1 t284 t285 t286 t287 t288 _ A50.out).mono ?_); rintro e w55 ⟨rfl, hb⟩; refine ⟨_, rfl, ?_⟩; have n0_ := Aside0.mk (blk_below (g := gb276) (o := .cells #[.int .i64 x277000_2, .bool x277001_2, .int .i64 x277002_2] 23 (0, 0)) (by (with_reducible repeat (first | refine blk_drewN ?_ _ | refine blk_drew ?_ | refine blk_alloc ?_ _)); exact BK276.out) hb); have n1_ := Aside0.mk (below_step (by repeat (first | (with_reducible first | exact HB.out | apply below_alloc | apply pw_below_drewN | apply below_drew1 | refine below_set ?_ GE276.out) | exact HB.out)) hb); clear BK276; clear HB; have BK276 := n0_; have HB := n1_; clear n0_ n1_; (try clear hb); (try clear hb2); (try clear hk); (try clear hi)) | ((with_reducible refine gate_dst (N := 11) rfl ?_); (try (refine gate_guard (by rfl) ?_; dsimp only)); refine box_event ?hg (N := 11) ?hd (cs := #[.int .i64 0, .bool false, .int .i64 0]) (t := 23) ?hr ?_; (case hd => rfl); (case hg => rfl); (case hr => first | (go_simp; done) | (go_simp; rfl)); intro gb289 hg w56 hbox hb; have n0_ := Aside0.mk (blk_below (g := gb276) (o := .cells #[.int .i64 x277000_2, .bool x277001_2, .int .i64 x277002_2] 23 (0, 0)) (by (with_reducible repeat (first | refine blk_drewN ?_ _ | refine blk_drew ?_ | refine blk_alloc ?_ _)); exact BK276.out) hb); have n1_ := Aside0.mk (below_step (by repeat (first | (with_reducible first | exact HB.out | apply below_alloc | apply pw_below_drewN | apply below_drew1 | refine below_set ?_ GE276.out) | exact HB.out)) hb); have n2_ := Aside0.mk (hbox); have n3_ := Aside0.mk ((by rw [hg]; exact (below_size (by repeat (first | (with_reducible first | exact HB.out | apply below_alloc | apply pw_below_drewN | apply below_drew1 | refine below_set ?_ GE276.out) | exact HB.out))) : w.heap.size ≤ gb289)); have n4_ := Aside0.mk ((by rw [hg]; exact (below_size (by repeat (first | (with_reducible first | exact HB.out | apply below_alloc | apply pw_below_drewN | apply below_drew1 | refine below_set ?_ GE276.out) | exact HB.out))) : w.heap.size ≤ gb289)); have n5_ := Aside0.mk ((by rw [hg]; exact Nat.ne_of_lt (blk_lt (g := gb276) (o := .cells #[.int .i64 x277000_2, .bool x277001_2, .int .i64 x277002_2] 23 (0, 0)) (by (with_reducible repeat (first | refine blk_drewN ?_ _ | refine blk_drew ?_ | refine blk_alloc ?_ _)); exact BK276.out)) : gb276 ≠ gb289)); have n6_ := Aside0.mk ((by rw [hg]; exact Nat.ne_of_gt (blk_lt (g := gb276) (o := .cells #[.int .i64 x277000_2, .bool x277001_2, .int .i64 x277002_2] 23 (0, 0)) (by (with_reducible repeat (first | refine blk_drewN ?_ _ | refine blk_drew ?_ | refine blk_alloc ?_ _)); exact BK276.out)) : gb289 ≠ gb276)); clear BK276; clear HB; have BK276 := n0_; have HB := n1_; have BK289 := n2_; have GW289 := n3_; have GE289 := n4_; have NB276_289 := n5_; have NB289_276 := n6_; clear n0_ n1_ n2_ n3_ n4_ n5_ n6_; clear hb hbox hg; have hnb57 := NB289_276.out; have hnc57 := NB276_289.out; have hcz58_0 : w56.cell? ⟨gb289, 0, none⟩ = some (.int .i64 0) := (blk_cell BK289.out 0).trans rfl; have hcz58_1 : w56.cell? ⟨gb289, 1, none⟩ = some (.bool false) := (blk_cell BK289.out 1).trans rfl; have hcz58_2 : w56.cell? ⟨gb289, 2, none⟩ = some (.int .i64 0) := (blk_cell BK289.out 2).trans rfl; have hfz58_0 := blk_frozen BK289.out 0; have hfz58_1 := blk_frozen BK289.out 1; have hfz58_2 := blk_frozen BK289.out 2))
                      go_ret
                      exact ⟨by first | rfl | (simp [errW_none, errW_some] <;> rfl) | (simp only [← hji15]; first | rfl | (simp [errW_none, errW_some] <;> rfl)) | (simp [*, errW_none, errW_some] <;> rfl), by repeat (first | (with_reducible first | exact HB.out | apply below_alloc | apply pw_below_drewN | apply below_drew1 | refine below_set ?_ GE276.out | refine below_set ?_ GE289.out) | exact HB.out)⟩
                    · rw [if_neg c53] at H
                      have c53b0 : (t284 == 12) = false := beq_eq_false_iff_ne.mpr c53
                      have c53b1 : (t284 != 12) = true := bne_iff_ne.mpr c53
                      obtain rfl := Option.some.inj H
                      have hcz59_0 : wr.cell? ⟨gb276, 0, none⟩ = some (.int .i64 x277000_2) := (blk_cell BK276.out 0).trans rfl
                      have hcz59_1 : wr.cell? ⟨gb276, 1, none⟩ = some (.bool x277001_2) := (blk_cell BK276.out 1).trans rfl
                      have hcz59_2 : wr.cell? ⟨gb276, 2, none⟩ = some (.int .i64 x277002_2) := (blk_cell BK276.out 2).trans rfl
                      have hfz59_0 := blk_frozen BK276.out 0
                      have hfz59_1 := blk_frozen BK276.out 1
                      have hfz59_2 := blk_frozen BK276.out 2
                      go_wp2_with (first | ((with_reducible refine gate_callee (f := 10) rfl ?_); refine goesL_ (some 61) rfl rfl Try.func10 (by kernel_rfl) rfl #[.agg #[.int .i64 x277000_2, .bool x277001_2, .int .i64 x277002_2], .int .i64 2, .int .i64 a1] rfl (by (try simp only [List.map_toArray, List.map_cons, List.map_nil]); first | done | rfl | (simp only [List.length_drop, List.length_take]; rfl)) ?_; (with_reducible refine (saga_Step.calls k2 x277000_2 x277001_2 x277002_2 2 a1 t284 t285 t286 t287 t288 _ A50.out).mono ?_); rintro e w60 ⟨rfl, hb⟩; refine ⟨_, rfl, ?_⟩; have n0_ := Aside0.mk (blk_below (g := gb276) (o := .cells #[.int .i64 x277000_2, .bool x277001_2, .int .i64 x277002_2] 23 (0, 0)) (by (with_reducible repeat (first | refine blk_drewN ?_ _ | refine blk_drew ?_ | refine blk_alloc ?_ _)); exact BK276.out) hb); have n1_ := Aside0.mk (below_step (by repeat (first | (with_reducible first | exact HB.out | apply below_alloc | apply pw_below_drewN | apply below_drew1 | refine below_set ?_ GE276.out) | exact HB.out)) hb); clear BK276; clear HB; have BK276 := n0_; have HB := n1_; clear n0_ n1_; (try clear hb); (try clear hb2); (try clear hk); (try clear hi)) | ((with_reducible refine gate_dst (N := 11) rfl ?_); (try (refine gate_guard (by rfl) ?_; dsimp only)); refine box_event ?hg (N := 11) ?hd (cs := #[.int .i64 0, .bool false, .int .i64 0]) (t := 23) ?hr ?_; (case hd => rfl); (case hg => rfl); (case hr => first | (go_simp; done) | (go_simp; rfl)); intro gb289 hg w61 hbox hb; have n0_ := Aside0.mk (blk_below (g := gb276) (o := .cells #[.int .i64 x277000_2, .bool x277001_2, .int .i64 x277002_2] 23 (0, 0)) (by (with_reducible repeat (first | refine blk_drewN ?_ _ | refine blk_drew ?_ | refine blk_alloc ?_ _)); exact BK276.out) hb); have n1_ := Aside0.mk (below_step (by repeat (first | (with_reducible first | exact HB.out | apply below_alloc | apply pw_below_drewN | apply below_drew1 | refine below_set ?_ GE276.out) | exact HB.out)) hb); have n2_ := Aside0.mk (hbox); have n3_ := Aside0.mk ((by rw [hg]; exact (below_size (by repeat (first | (with_reducible first | exact HB.out | apply below_alloc | apply pw_below_drewN | apply below_drew1 | refine below_set ?_ GE276.out) | exact HB.out))) : w.heap.size ≤ gb289)); have n4_ := Aside0.mk ((by rw [hg]; exact (below_size (by repeat (first | (with_reducible first | exact HB.out | apply below_alloc | apply pw_below_drewN | apply below_drew1 | refine below_set ?_ GE276.out) | exact HB.out))) : w.heap.size ≤ gb289)); have n5_ := Aside0.mk ((by rw [hg]; exact Nat.ne_of_lt (blk_lt (g := gb276) (o := .cells #[.int .i64 x277000_2, .bool x277001_2, .int .i64 x277002_2] 23 (0, 0)) (by (with_reducible repeat (first | refine blk_drewN ?_ _ | refine blk_drew ?_ | refine blk_alloc ?_ _)); exact BK276.out)) : gb276 ≠ gb289)); have n6_ := Aside0.mk ((by rw [hg]; exact Nat.ne_of_gt (blk_lt (g := gb276) (o := .cells #[.int .i64 x277000_2, .bool x277001_2, .int .i64 x277002_2] 23 (0, 0)) (by (with_reducible repeat (first | refine blk_drewN ?_ _ | refine blk_drew ?_ | refine blk_alloc ?_ _)); exact BK276.out)) : gb289 ≠ gb276)); clear BK276; clear HB; have BK276 := n0_; have HB := n1_; have BK289 := n2_; have GW289 := n3_; have GE289 := n4_; have NB276_289 := n5_; have NB289_276 := n6_; clear n0_ n1_ n2_ n3_ n4_ n5_ n6_; clear hb hbox hg; have hnb62 := NB289_276.out; have hnc62 := NB276_289.out; have hcz63_0 : w61.cell? ⟨gb289, 0, none⟩ = some (.int .i64 0) := (blk_cell BK289.out 0).trans rfl; have hcz63_1 : w61.cell? ⟨gb289, 1, none⟩ = some (.bool false) := (blk_cell BK289.out 1).trans rfl; have hcz63_2 : w61.cell? ⟨gb289, 2, none⟩ = some (.int .i64 0) := (blk_cell BK289.out 2).trans rfl; have hfz63_0 := blk_frozen BK289.out 0; have hfz63_1 := blk_frozen BK289.out 1; have hfz63_2 := blk_frozen BK289.out 2))
                      go_ret
                      exact ⟨by first | rfl | (simp [errW_none, errW_some] <;> rfl) | (simp only [← hji15]; first | rfl | (simp [errW_none, errW_some] <;> rfl)) | (simp [*, errW_none, errW_some] <;> rfl), by repeat (first | (with_reducible first | exact HB.out | apply below_alloc | apply pw_below_drewN | apply below_drew1 | refine below_set ?_ GE276.out | refine below_set ?_ GE289.out) | exact HB.out)⟩
                  · rw [if_neg c52] at H
                    have c52b0 : (t287 == 0) = false := beq_eq_false_iff_ne.mpr c52
                    have c52b1 : (t287 != 0) = true := bne_iff_ne.mpr c52
                    obtain rfl := Option.some.inj H
                    have hcz64_0 : wr.cell? ⟨gb276, 0, none⟩ = some (.int .i64 x277000_2) := (blk_cell BK276.out 0).trans rfl
                    have hcz64_1 : wr.cell? ⟨gb276, 1, none⟩ = some (.bool x277001_2) := (blk_cell BK276.out 1).trans rfl
                    have hcz64_2 : wr.cell? ⟨gb276, 2, none⟩ = some (.int .i64 x277002_2) := (blk_cell BK276.out 2).trans rfl
                    have hfz64_0 := blk_frozen BK276.out 0
                    have hfz64_1 := blk_frozen BK276.out 1
                    have hfz64_2 := blk_frozen BK276.out 2
                    go_wp2_with (first | ((with_reducible refine gate_callee (f := 10) rfl ?_); refine goesL_ (some 61) rfl rfl Try.func10 (by kernel_rfl) rfl #[.agg #[.int .i64 x277000_2, .bool x277001_2, .int .i64 x277002_2], .int .i64 2, .int .i64 a1] rfl (by (try simp only [List.map_toArray, List.map_cons, List.map_nil]); first | done | rfl | (simp only [List.length_drop, List.length_take]; rfl)) ?_; (with_reducible refine (saga_Step.calls k2 x277000_2 x277001_2 x277002_2 2 a1 t284 t285 t286 t287 t288 _ A50.out).mono ?_); rintro e w65 ⟨rfl, hb⟩; refine ⟨_, rfl, ?_⟩; have n0_ := Aside0.mk (blk_below (g := gb276) (o := .cells #[.int .i64 x277000_2, .bool x277001_2, .int .i64 x277002_2] 23 (0, 0)) (by (with_reducible repeat (first | refine blk_drewN ?_ _ | refine blk_drew ?_ | refine blk_alloc ?_ _)); exact BK276.out) hb); have n1_ := Aside0.mk (below_step (by repeat (first | (with_reducible first | exact HB.out | apply below_alloc | apply pw_below_drewN | apply below_drew1 | refine below_set ?_ GE276.out) | exact HB.out)) hb); clear BK276; clear HB; have BK276 := n0_; have HB := n1_; clear n0_ n1_; (try clear hb); (try clear hb2); (try clear hk); (try clear hi)) | ((with_reducible refine gate_dst (N := 11) rfl ?_); (try (refine gate_guard (by rfl) ?_; dsimp only)); refine box_event ?hg (N := 11) ?hd (cs := #[.int .i64 0, .bool false, .int .i64 0]) (t := 23) ?hr ?_; (case hd => rfl); (case hg => rfl); (case hr => first | (go_simp; done) | (go_simp; rfl)); intro gb289 hg w66 hbox hb; have n0_ := Aside0.mk (blk_below (g := gb276) (o := .cells #[.int .i64 x277000_2, .bool x277001_2, .int .i64 x277002_2] 23 (0, 0)) (by (with_reducible repeat (first | refine blk_drewN ?_ _ | refine blk_drew ?_ | refine blk_alloc ?_ _)); exact BK276.out) hb); have n1_ := Aside0.mk (below_step (by repeat (first | (with_reducible first | exact HB.out | apply below_alloc | apply pw_below_drewN | apply below_drew1 | refine below_set ?_ GE276.out) | exact HB.out)) hb); have n2_ := Aside0.mk (hbox); have n3_ := Aside0.mk ((by rw [hg]; exact (below_size (by repeat (first | (with_reducible first | exact HB.out | apply below_alloc | apply pw_below_drewN | apply below_drew1 | refine below_set ?_ GE276.out) | exact HB.out))) : w.heap.size ≤ gb289)); have n4_ := Aside0.mk ((by rw [hg]; exact (below_size (by repeat (first | (with_reducible first | exact HB.out | apply below_alloc | apply pw_below_drewN | apply below_drew1 | refine below_set ?_ GE276.out) | exact HB.out))) : w.heap.size ≤ gb289)); have n5_ := Aside0.mk ((by rw [hg]; exact Nat.ne_of_lt (blk_lt (g := gb276) (o := .cells #[.int .i64 x277000_2, .bool x277001_2, .int .i64 x277002_2] 23 (0, 0)) (by (with_reducible repeat (first | refine blk_drewN ?_ _ | refine blk_drew ?_ | refine blk_alloc ?_ _)); exact BK276.out)) : gb276 ≠ gb289)); have n6_ := Aside0.mk ((by rw [hg]; exact Nat.ne_of_gt (blk_lt (g := gb276) (o := .cells #[.int .i64 x277000_2, .bool x277001_2, .int .i64 x277002_2] 23 (0, 0)) (by (with_reducible repeat (first | refine blk_drewN ?_ _ | refine blk_drew ?_ | refine blk_alloc ?_ _)); exact BK276.out)) : gb289 ≠ gb276)); clear BK276; clear HB; have BK276 := n0_; have HB := n1_; have BK289 := n2_; have GW289 := n3_; have GE289 := n4_; have NB276_289 := n5_; have NB289_276 := n6_; clear n0_ n1_ n2_ n3_ n4_ n5_ n6_; clear hb hbox hg; have hnb67 := NB289_276.out; have hnc67 := NB276_289.out; have hcz68_0 : w66.cell? ⟨gb289, 0, none⟩ = some (.int .i64 0) := (blk_cell BK289.out 0).trans rfl; have hcz68_1 : w66.cell? ⟨gb289, 1, none⟩ = some (.bool false) := (blk_cell BK289.out 1).trans rfl; have hcz68_2 : w66.cell? ⟨gb289, 2, none⟩ = some (.int .i64 0) := (blk_cell BK289.out 2).trans rfl; have hfz68_0 := blk_frozen BK289.out 0; have hfz68_1 := blk_frozen BK289.out 1; have hfz68_2 := blk_frozen BK289.out 2))
                    go_ret
                    exact ⟨by first | rfl | (simp [errW_none, errW_some] <;> rfl) | (simp only [← hji15]; first | rfl | (simp [errW_none, errW_some] <;> rfl)) | (simp [*, errW_none, errW_some] <;> rfl), by repeat (first | (with_reducible first | exact HB.out | apply below_alloc | apply pw_below_drewN | apply below_drew1 | refine below_set ?_ GE276.out | refine below_set ?_ GE289.out) | exact HB.out)⟩
                · rw [if_neg c51] at H
                  have c51b0 : (t288 == 0) = false := beq_eq_false_iff_ne.mpr c51
                  have c51b1 : (t288 != 0) = true := bne_iff_ne.mpr c51
                  obtain rfl := Option.some.inj H
                  have hcz69_0 : wr.cell? ⟨gb276, 0, none⟩ = some (.int .i64 x277000_2) := (blk_cell BK276.out 0).trans rfl
                  have hcz69_1 : wr.cell? ⟨gb276, 1, none⟩ = some (.bool x277001_2) := (blk_cell BK276.out 1).trans rfl
                  have hcz69_2 : wr.cell? ⟨gb276, 2, none⟩ = some (.int .i64 x277002_2) := (blk_cell BK276.out 2).trans rfl
                  have hfz69_0 := blk_frozen BK276.out 0
                  have hfz69_1 := blk_frozen BK276.out 1
                  have hfz69_2 := blk_frozen BK276.out 2
                  go_wp2_with (first | ((with_reducible refine gate_callee (f := 10) rfl ?_); refine goesL_ (some 61) rfl rfl Try.func10 (by kernel_rfl) rfl #[.agg #[.int .i64 x277000_2, .bool x277001_2, .int .i64 x277002_2], .int .i64 2, .int .i64 a1] rfl (by (try simp only [List.map_toArray, List.map_cons, List.map_nil]); first | done | rfl | (simp only [List.length_drop, List.length_take]; rfl)) ?_; (with_reducible refine (saga_Step.calls k2 x277000_2 x277001_2 x277002_2 2 a1 t284 t285 t286 t287 t288 _ A50.out).mono ?_); rintro e w70 ⟨rfl, hb⟩; refine ⟨_, rfl, ?_⟩; have n0_ := Aside0.mk (blk_below (g := gb276) (o := .cells #[.int .i64 x277000_2, .bool x277001_2, .int .i64 x277002_2] 23 (0, 0)) (by (with_reducible repeat (first | refine blk_drewN ?_ _ | refine blk_drew ?_ | refine blk_alloc ?_ _)); exact BK276.out) hb); have n1_ := Aside0.mk (below_step (by repeat (first | (with_reducible first | exact HB.out | apply below_alloc | apply pw_below_drewN | apply below_drew1 | refine below_set ?_ GE276.out) | exact HB.out)) hb); clear BK276; clear HB; have BK276 := n0_; have HB := n1_; clear n0_ n1_; (try clear hb); (try clear hb2); (try clear hk); (try clear hi)) | ((with_reducible refine gate_dst (N := 11) rfl ?_); (try (refine gate_guard (by rfl) ?_; dsimp only)); refine box_event ?hg (N := 11) ?hd (cs := #[.int .i64 0, .bool false, .int .i64 0]) (t := 23) ?hr ?_; (case hd => rfl); (case hg => rfl); (case hr => first | (go_simp; done) | (go_simp; rfl)); intro gb289 hg w71 hbox hb; have n0_ := Aside0.mk (blk_below (g := gb276) (o := .cells #[.int .i64 x277000_2, .bool x277001_2, .int .i64 x277002_2] 23 (0, 0)) (by (with_reducible repeat (first | refine blk_drewN ?_ _ | refine blk_drew ?_ | refine blk_alloc ?_ _)); exact BK276.out) hb); have n1_ := Aside0.mk (below_step (by repeat (first | (with_reducible first | exact HB.out | apply below_alloc | apply pw_below_drewN | apply below_drew1 | refine below_set ?_ GE276.out) | exact HB.out)) hb); have n2_ := Aside0.mk (hbox); have n3_ := Aside0.mk ((by rw [hg]; exact (below_size (by repeat (first | (with_reducible first | exact HB.out | apply below_alloc | apply pw_below_drewN | apply below_drew1 | refine below_set ?_ GE276.out) | exact HB.out))) : w.heap.size ≤ gb289)); have n4_ := Aside0.mk ((by rw [hg]; exact (below_size (by repeat (first | (with_reducible first | exact HB.out | apply below_alloc | apply pw_below_drewN | apply below_drew1 | refine below_set ?_ GE276.out) | exact HB.out))) : w.heap.size ≤ gb289)); have n5_ := Aside0.mk ((by rw [hg]; exact Nat.ne_of_lt (blk_lt (g := gb276) (o := .cells #[.int .i64 x277000_2, .bool x277001_2, .int .i64 x277002_2] 23 (0, 0)) (by (with_reducible repeat (first | refine blk_drewN ?_ _ | refine blk_drew ?_ | refine blk_alloc ?_ _)); exact BK276.out)) : gb276 ≠ gb289)); have n6_ := Aside0.mk ((by rw [hg]; exact Nat.ne_of_gt (blk_lt (g := gb276) (o := .cells #[.int .i64 x277000_2, .bool x277001_2, .int .i64 x277002_2] 23 (0, 0)) (by (with_reducible repeat (first | refine blk_drewN ?_ _ | refine blk_drew ?_ | refine blk_alloc ?_ _)); exact BK276.out)) : gb289 ≠ gb276)); clear BK276; clear HB; have BK276 := n0_; have HB := n1_; have BK289 := n2_; have GW289 := n3_; have GE289 := n4_; have NB276_289 := n5_; have NB289_276 := n6_; clear n0_ n1_ n2_ n3_ n4_ n5_ n6_; clear hb hbox hg; have hnb72 := NB289_276.out; have hnc72 := NB276_289.out; have hcz73_0 : w71.cell? ⟨gb289, 0, none⟩ = some (.int .i64 0) := (blk_cell BK289.out 0).trans rfl; have hcz73_1 : w71.cell? ⟨gb289, 1, none⟩ = some (.bool false) := (blk_cell BK289.out 1).trans rfl; have hcz73_2 : w71.cell? ⟨gb289, 2, none⟩ = some (.int .i64 0) := (blk_cell BK289.out 2).trans rfl; have hfz73_0 := blk_frozen BK289.out 0; have hfz73_1 := blk_frozen BK289.out 1; have hfz73_2 := blk_frozen BK289.out 2))
                  go_ret
                  exact ⟨by first | rfl | (simp [errW_none, errW_some] <;> rfl) | (simp only [← hji15]; first | rfl | (simp [errW_none, errW_some] <;> rfl)) | (simp [*, errW_none, errW_some] <;> rfl), by repeat (first | (with_reducible first | exact HB.out | apply below_alloc | apply pw_below_drewN | apply below_drew1 | refine below_set ?_ GE276.out | refine below_set ?_ GE289.out) | exact HB.out)⟩
  · replace c4 := Bool.eq_false_iff.mpr c4
    subst c4
    have H1 : (some false) = some r := by rw [if_neg (show ¬ (false = true) by decide)] at H; exact H
    clear H
    have H := H1
    clear H1
    obtain rfl := Option.some.inj H
    go_enter Try.func6, Try.ntmps6
    go_wp2_with (first | ((with_reducible refine gate_callee (f := 9) rfl ?_); refine goesL_ (some 14) rfl rfl Try.func9 (by kernel_rfl) rfl #[] rfl (by (try simp only [List.map_toArray, List.map_cons, List.map_nil]); first | done | rfl | (simp only [List.length_drop, List.length_take]; rfl)) ?_; (with_reducible refine (packhorselaw14_sagaAlive.calls k  false _ A3.out).mono ?_); rintro e w74 ⟨rfl, hb⟩; refine ⟨_, rfl, ?_⟩; have n0_ := Aside0.mk (below_step (by repeat (first | (with_reducible first | exact HB.out | apply below_alloc | apply pw_below_drewN | apply below_drew1) | exact HB.out)) hb); clear HB; have HB := n0_; clear n0_; (try clear hb); (try clear hb2); (try clear hk); (try clear hi)))
    go_ret
    exact ⟨by first | rfl | (simp [errW_none, errW_some] <;> rfl) | (simp [*, errW_none, errW_some] <;> rfl), by repeat (first | (with_reducible first | exact HB.out | apply below_alloc | apply pw_below_drewN | apply below_drew1) | exact HB.out)⟩

/-- THE ONE PURE STATEMENT of packhorselaw14_SagaRefuses: yours. -/
def packhorselaw14_SagaRefuses.Pure : Prop := ∀ (a0 : Bool) (a1 : Int), (Lit.int .i64 a1).wf = true → ∃ k, packhorselaw14_SagaRefuses.f k a0 a1 = some true
theorem packhorselaw14_SagaRefuses.walk (P : packhorselaw14_SagaRefuses.Pure) (a0 : Bool) (a1 : Int) (w : World) (w1 : (Lit.int .i64 a1).wf = true) :
    Calls Try.prog 6 #[.bool a0, .int .i64 a1] w fun e w' => e = .returned (.bool true) ∧ Below w.heap.size w w' := by
  obtain ⟨k, h⟩ := P a0 a1 w1
  refine (packhorselaw14_SagaRefuses.calls k a0 a1 true w h).mono ?_
  rintro e w' ⟨rfl, hd⟩
  exact ⟨rfl, hd⟩

end Go.Proofs.Ytcghipdlihpbcaa.PAll
