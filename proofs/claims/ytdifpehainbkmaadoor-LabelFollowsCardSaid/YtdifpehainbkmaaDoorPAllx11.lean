-- Made by a program of this session (wip/gen)
import Derived.Test.YtdifpehainbkmaaDoorPAllx0
import Derived.Test.YtdifpehainbkmaaDoorPAllx2
import Derived.Test.YtdifpehainbkmaaDoorPAllx5
import Derived.Test.YtdifpehainbkmaaDoorPAllx6
import Derived.Test.YtdifpehainbkmaaDoorPAllx8
import Derived.Test.YtdifpehainbkmaaDoorPAllx9
import Derived.Test.YtdifpehainbkmaaDoorPAllx10
namespace Go.Proofs.YtdifpehainbkmaaDoor.PAll
open Go.RowKit Go.Proofs.YtdifpehainbkmaaDoorW.PrintWords Go.Proofs.YtdifpehainbkmaaDoorW.PrintLast Go.Proofs.YtdifpehainbkmaaDoorW.PrintMore
attribute [local go_sem] max2_int min2_int max_two min_two max_three min_three max_four min_four   -- for this text's walks alone
set_option linter.unusedVariables false
set_option linter.unusedSimpArgs false

/-! ### packhorselaw01_LabelTells: function 4 -/
def packhorselaw01_LabelTells.j0 : Nat → ByteArray → Int → Int → Option (Bool)
  | 0, _, _, _ => none
  | k + 1, x0, x1, x5 => (label_Next.f x0).bind fun bt153 => ((packhorseref01_Next.f k x0).bind fun bt155 => ((label_Right.f x0).bind fun t157 => ((packhorseref01_Right.f k x0).bind fun t158 => (if (t157 == t158) = true then ((label_Signs.f x0).bind fun t159 => (if t159 = x5 then ((label_Cut.f x0 x1).bind fun t160 => ((packhorseref01_Cut.f k x0 x1).bind fun t161 => (if t160.toList = t161.toList then (if bt153.1.toList = bt155.1.toList then (some (bt153.2 == bt155.2)) else (some false)) else (some false)))) else (some false))) else (some false)))))
def packhorselaw01_LabelTells.f (k : Nat) (a0 : ByteArray) (a1 : Int) : Option (Bool) := (packhorselaw01_labelAlive.f).bind fun t149 => (if t149 = true then (if (a0.size : Int) > 200 then (some true) else ((packhorseref01_Signs.f k a0).bind fun t150 => (if (t150.length : Int) = 0 then (packhorselaw01_LabelTells.j0 k a0 a1 (-1)) else (packhorselaw01_LabelTells.j0 k a0 a1 (t150.length : Int))))) else (some false))
theorem packhorselaw01_LabelTells.mono_l : ∀ k, (∀ y0 y1 y2, LeO (packhorselaw01_LabelTells.j0 k y0 y1 y2) (packhorselaw01_LabelTells.j0 (k + 1) y0 y1 y2))
  | 0 => fun _ _ _ r h => by simp [packhorselaw01_LabelTells.j0] at h
  | k + 1 => by
    have ih0 := packhorselaw01_LabelTells.mono_l k
    · intro y0 y1 y2
      unfold packhorselaw01_LabelTells.j0
      repeat' first
      | (with_reducible exact ih0 _ _ _)
      | (with_reducible exact packhorseref01_Cut.mono _ _ _)
      | (with_reducible exact packhorseref01_Next.mono _ _)
      | (with_reducible exact packhorseref01_Right.mono _ _)
      | (with_reducible exact packhorseref01_Signs.mono _ _)
      | (with_reducible exact LeO.refl _)
      | (with_reducible exact LeO.none _)
      | (with_reducible refine LeO.ite ?_ ?_)
      | (with_reducible refine LeO.bind ?_ (fun _ => ?_))
      | exact ih0 _ _ _
      | exact packhorseref01_Cut.mono _ _ _
      | exact packhorseref01_Next.mono _ _
      | exact packhorseref01_Right.mono _ _
      | exact packhorseref01_Signs.mono _ _
      | exact LeO.none _
      | refine LeO.ite ?_ ?_
      | refine LeO.bind ?_ (fun _ => ?_)
theorem packhorselaw01_LabelTells.mono : ∀ a0 a1 k, LeO (packhorselaw01_LabelTells.f k a0 a1) (packhorselaw01_LabelTells.f (k + 1) a0 a1) := by
  intro a0 a1 k
  have ih0 := packhorselaw01_LabelTells.mono_l k
  unfold packhorselaw01_LabelTells.f
  repeat' first
      | (with_reducible exact ih0 _ _ _)
      | (with_reducible exact packhorseref01_Cut.mono _ _ _)
      | (with_reducible exact packhorseref01_Next.mono _ _)
      | (with_reducible exact packhorseref01_Right.mono _ _)
      | (with_reducible exact packhorseref01_Signs.mono _ _)
      | (with_reducible exact LeO.refl _)
      | (with_reducible exact LeO.none _)
      | (with_reducible refine LeO.ite ?_ ?_)
      | (with_reducible refine LeO.bind ?_ (fun _ => ?_))
      | exact ih0 _ _ _
      | exact packhorseref01_Cut.mono _ _ _
      | exact packhorseref01_Next.mono _ _
      | exact packhorseref01_Right.mono _ _
      | exact packhorseref01_Signs.mono _ _
      | exact LeO.none _
      | refine LeO.ite ?_ ?_
      | refine LeO.bind ?_ (fun _ => ?_)
set_option maxHeartbeats 8000000 in
set_option maxRecDepth 100000 in
theorem packhorselaw01_LabelTells.calls (k : Nat) (a0 : ByteArray) (a1 : Int) (r : Bool) (w : World) (hT : Tabs w) (h : packhorselaw01_LabelTells.f k a0 a1 = some r) (hr_ : r = true) :
    Calls Tryd.prog 4 #[.string a0, .int .i64 a1] w fun e w' => e = .returned (.bool r) ∧ Below w.heap.size w w' := by
  have HRT := Aside0.mk hr_
  clear hr_
  have HT := Aside0.mk hT
  clear hT
  have HB := Aside0.mk (Below.refl w.heap.size w)
  have H : ((packhorselaw01_labelAlive.f).bind fun t149 => (if t149 = true then (if (a0.size : Int) > 200 then (some true) else ((packhorseref01_Signs.f k a0).bind fun t150 => (if (t150.length : Int) = 0 then (packhorselaw01_LabelTells.j0 k a0 a1 (-1)) else (packhorselaw01_LabelTells.j0 k a0 a1 (t150.length : Int))))) else (some false))) = some r := h
  clear h
  replace H := Option.bind_eq_some_iff.mp H
  obtain ⟨t149, A30, H⟩ := H
  replace H : (if t149 = true then (if (a0.size : Int) > 200 then (some true) else ((packhorseref01_Signs.f k a0).bind fun t150 => (if (t150.length : Int) = 0 then (packhorselaw01_LabelTells.j0 k a0 a1 (-1)) else (packhorselaw01_LabelTells.j0 k a0 a1 (t150.length : Int))))) else (some false)) = some r := H
  have A3 := Aside0.mk A30
  clear A30
  by_cases c4 : t149 = true
  · subst c4
    have H1 : (if (a0.size : Int) > 200 then (some true) else ((packhorseref01_Signs.f k a0).bind fun t150 => (if (t150.length : Int) = 0 then (packhorselaw01_LabelTells.j0 k a0 a1 (-1)) else (packhorselaw01_LabelTells.j0 k a0 a1 (t150.length : Int))))) = some r := by rw [if_pos rfl] at H; exact H
    clear H
    have H := H1
    clear H1
    by_cases c5 : (a0.size : Int) > 200
    · rw [if_pos c5] at H
      have c5b0 : decide (200 < (a0.size : Int)) = true := decide_eq_true c5
      have c5b1 : decide (200 < a0.size) = true := decide_eq_true (by omega)
      clear c5
      obtain rfl := Option.some.inj H
      simp only [Option.some.injEq, Prod.mk.injEq] at H
      obtain ⟨rfl⟩ := H
      go_enter Tryd.func4, Tryd.ntmps4
      go_wp2_with (first | (go_at_call 9; (with_reducible refine (packhorselaw01_labelAlive.calls  true _ ?side1 A3.out rfl).mono ?_); (case side1 => exact Tabs.below HT.out (by repeat (first | (with_reducible first | exact HB.out | apply below_alloc | apply pw_below_drewN | apply below_drew1) | exact HB.out))); rintro e w6 ⟨rfl, hb⟩; have n0_ := Aside0.mk (below_step (by repeat (first | (with_reducible first | exact HB.out | apply below_alloc | apply pw_below_drewN | apply below_drew1) | exact HB.out)) hb); clear HB; have HB := n0_; clear n0_; (try clear hb); (try clear hb2); (try clear hk); (try clear hi)))
      go_ret
      exact ⟨by first | rfl | (simp [errW_none, errW_some] <;> rfl) | (simp [*, errW_none, errW_some] <;> rfl), by repeat (first | (with_reducible first | exact HB.out | apply below_alloc | apply pw_below_drewN | apply below_drew1) | exact HB.out)⟩
    · rw [if_neg c5] at H
      have c5b0 : decide (200 < (a0.size : Int)) = false := decide_eq_false c5
      have c5b1 : decide (200 < a0.size) = false := decide_eq_false (by omega)
      clear c5
      replace H := Option.bind_eq_some_iff.mp H
      obtain ⟨t150, A70, H⟩ := H
      replace H : (if (t150.length : Int) = 0 then (packhorselaw01_LabelTells.j0 k a0 a1 (-1)) else (packhorselaw01_LabelTells.j0 k a0 a1 (t150.length : Int))) = some r := H
      have A7 := Aside0.mk A70
      clear A70
      have HC8 := Aside0.mk H
      clear H
      go_enter Tryd.func4, Tryd.ntmps4
      go_upto_if 19 with (first | (go_at_call 9; (with_reducible refine (packhorselaw01_labelAlive.calls  true _ ?side1 A3.out rfl).mono ?_); (case side1 => exact Tabs.below HT.out (by repeat (first | (with_reducible first | exact HB.out | apply below_alloc | apply pw_below_drewN | apply below_drew1) | exact HB.out))); rintro e w9 ⟨rfl, hb⟩; have n0_ := Aside0.mk (below_step (by repeat (first | (with_reducible first | exact HB.out | apply below_alloc | apply pw_below_drewN | apply below_drew1) | exact HB.out)) hb); clear HB; have HB := n0_; clear n0_; (try clear hb); (try clear hb2); (try clear hk); (try clear hi)) | (go_at_call 12; (with_reducible refine (packhorseref01_Signs.calls k a0 t150 _ A7.out).mono ?_); rintro e w10 ⟨v151, rfl, ho0, hb⟩; have n0_ := Aside0.mk (Kd.R_lower ho0 (below_size (by repeat (first | (with_reducible first | exact HB.out | apply below_alloc | apply pw_below_drewN | apply below_drew1) | exact HB.out)))); have n1_ := Aside0.mk (below_step (by repeat (first | (with_reducible first | exact HB.out | apply below_alloc | apply pw_below_drewN | apply below_drew1) | exact HB.out)) hb); clear HB; have HO152 := n0_; have HB := n1_; clear n0_ n1_; (try clear hb); (try clear hb2); (try clear hk); (try clear hi); (try clear ho0); obtain ⟨Ao11, co11, eo11⟩ := Kd.R_slice HO152.out; subst eo11))
      (try simp only [Act.put, List.setIfInBounds_toArray, List.set_cons_zero, List.set_cons_succ])
      go_cut [5] (fun v5 wc => ∃ (kq : Nat) (x5_7 : Int), v5 = .int .i64 x5_7 ∧ Aside0 (packhorselaw01_LabelTells.j0 kq a0 a1 x5_7 = some r) ∧ Aside0 (kq ≤ k) ∧ Aside0 (Below w.heap.size w wc))
      case first =>
        have H := HC8.out
        clear HC8
        by_cases c12 : (t150.length : Int) = 0
        · rw [if_pos c12] at H
          have c12b0 : ((t150.length : Int) == 0) = true := beq_iff_eq.mpr c12
          have c12b1 : ((t150.length : Int) != 0) = false := bne_eq_false_iff_eq.mpr c12
          clear c12
          (first | rw [c12b0] | (simp only [i64_w, i32_w]; rw [c12b0]) | skip)
          have H' := Aside0.mk H
          clear H
          go_wp2
          go_meet
          case rel => exact ⟨_, ((-1)), (by first | rfl | (simp; done) | (simp [*]; done)), H', ⟨by first | omega | exact Nat.le_refl _⟩, ⟨by repeat (first | (with_reducible first | exact HB.out | apply below_alloc | apply pw_below_drewN | apply below_drew1) | exact HB.out)⟩⟩
        · rw [if_neg c12] at H
          have c12b0 : ((t150.length : Int) == 0) = false := beq_eq_false_iff_ne.mpr c12
          have c12b1 : ((t150.length : Int) != 0) = true := bne_iff_ne.mpr c12
          have c12b2 : ¬ (t150 = []) := fun h_ => c12 (by rw [h_]; rfl)
          (first | rw [c12b0] | (simp only [i64_w, i32_w]; rw [c12b0]) | skip)
          have H' := Aside0.mk H
          clear H
          go_wp2
          go_meet
          case rel => exact ⟨_, ((t150.length : Int)), (by first | rfl | (simp; done) | (simp [*]; done)), H', ⟨by first | omega | exact Nat.le_refl _⟩, ⟨by repeat (first | (with_reducible first | exact HB.out | apply below_alloc | apply pw_below_drewN | apply below_drew1) | exact HB.out)⟩⟩
      case rest =>
        clear HC8
        try clear c1
        try clear p2
        try clear c4
        try clear c5
        try clear c5b0
        try clear c5b1
        try clear c12
        try clear c12b0
        try clear c12b1
        try clear c12b2
        obtain ⟨kq, x5_7, rfl, HA, HJ7, HB⟩ := hcut
        cases kq with
        | zero => exact absurd HA.out (by simp [packhorselaw01_LabelTells.j0])
        | succ kj7 =>
          have H := HA.out
          clear HA
          simp only [packhorselaw01_LabelTells.j0] at H
          replace H := Option.bind_eq_some_iff.mp H
          obtain ⟨⟨t153, t154⟩, A130, H⟩ := H
          replace H : ((packhorseref01_Next.f kj7 a0).bind fun bt155 => ((label_Right.f a0).bind fun t157 => ((packhorseref01_Right.f kj7 a0).bind fun t158 => (if (t157 == t158) = true then ((label_Signs.f a0).bind fun t159 => (if t159 = x5_7 then ((label_Cut.f a0 a1).bind fun t160 => ((packhorseref01_Cut.f kj7 a0 a1).bind fun t161 => (if t160.toList = t161.toList then (if t153.toList = bt155.1.toList then (some (t154 == bt155.2)) else (some false)) else (some false)))) else (some false))) else (some false))))) = some r := H
          have A13 := Aside0.mk A130
          clear A130
          replace H := Option.bind_eq_some_iff.mp H
          obtain ⟨⟨t155, t156⟩, A140, H⟩ := H
          replace H : ((label_Right.f a0).bind fun t157 => ((packhorseref01_Right.f kj7 a0).bind fun t158 => (if (t157 == t158) = true then ((label_Signs.f a0).bind fun t159 => (if t159 = x5_7 then ((label_Cut.f a0 a1).bind fun t160 => ((packhorseref01_Cut.f kj7 a0 a1).bind fun t161 => (if t160.toList = t161.toList then (if t153.toList = t155.toList then (some (t154 == t156)) else (some false)) else (some false)))) else (some false))) else (some false)))) = some r := H
          have A14 := Aside0.mk A140
          clear A140
          replace H := Option.bind_eq_some_iff.mp H
          obtain ⟨t157, A150, H⟩ := H
          replace H : ((packhorseref01_Right.f kj7 a0).bind fun t158 => (if (t157 == t158) = true then ((label_Signs.f a0).bind fun t159 => (if t159 = x5_7 then ((label_Cut.f a0 a1).bind fun t160 => ((packhorseref01_Cut.f kj7 a0 a1).bind fun t161 => (if t160.toList = t161.toList then (if t153.toList = t155.toList then (some (t154 == t156)) else (some false)) else (some false)))) else (some false))) else (some false))) = some r := H
          have A15 := Aside0.mk A150
          clear A150
          replace H := Option.bind_eq_some_iff.mp H
          obtain ⟨t158, A160, H⟩ := H
          replace H : (if (t157 == t158) = true then ((label_Signs.f a0).bind fun t159 => (if t159 = x5_7 then ((label_Cut.f a0 a1).bind fun t160 => ((packhorseref01_Cut.f kj7 a0 a1).bind fun t161 => (if t160.toList = t161.toList then (if t153.toList = t155.toList then (some (t154 == t156)) else (some false)) else (some false)))) else (some false))) else (some false)) = some r := H
          have A16 := Aside0.mk A160
          clear A160
          by_cases c17 : (t157 == t158) = true
          · rw [if_pos c17] at H
            have c17b0 : (t157 == t158) = true := c17
            (try (have c17b1 : decide (t157 = t158) = true := by simpa using c17))
            (try (have c17b2 : (t157 == t158) = true := by simpa using c17))
            clear c17
            replace H := Option.bind_eq_some_iff.mp H
            obtain ⟨t159, A180, H⟩ := H
            replace H : (if t159 = x5_7 then ((label_Cut.f a0 a1).bind fun t160 => ((packhorseref01_Cut.f kj7 a0 a1).bind fun t161 => (if t160.toList = t161.toList then (if t153.toList = t155.toList then (some (t154 == t156)) else (some false)) else (some false)))) else (some false)) = some r := H
            have A18 := Aside0.mk A180
            clear A180
            by_cases c19 : t159 = x5_7
            · rw [if_pos c19] at H
              have c19b0 : (t159 == x5_7) = true := beq_iff_eq.mpr c19
              have c19b1 : (t159 != x5_7) = false := bne_eq_false_iff_eq.mpr c19
              clear c19
              replace H := Option.bind_eq_some_iff.mp H
              obtain ⟨t160, A200, H⟩ := H
              replace H : ((packhorseref01_Cut.f kj7 a0 a1).bind fun t161 => (if t160.toList = t161.toList then (if t153.toList = t155.toList then (some (t154 == t156)) else (some false)) else (some false))) = some r := H
              have A20 := Aside0.mk A200
              clear A200
              replace H := Option.bind_eq_some_iff.mp H
              obtain ⟨t161, A210, H⟩ := H
              replace H : (if t160.toList = t161.toList then (if t153.toList = t155.toList then (some (t154 == t156)) else (some false)) else (some false)) = some r := H
              have A21 := Aside0.mk A210
              clear A210
              by_cases c22 : t160.toList = t161.toList
              · rw [if_pos c22] at H
                have c22b0 : (t160.toList == t161.toList) = true := beq_iff_eq.mpr c22
                have c22b1 : (t160.toList != t161.toList) = false := bne_eq_false_iff_eq.mpr c22
                clear c22
                by_cases c23 : t153.toList = t155.toList
                · rw [if_pos c23] at H
                  have c23b0 : (t153.toList == t155.toList) = true := beq_iff_eq.mpr c23
                  have c23b1 : (t153.toList != t155.toList) = false := bne_eq_false_iff_eq.mpr c23
                  clear c23
                  obtain rfl := Option.some.inj H
                  simp only [Option.some.injEq, Prod.mk.injEq] at H
                  obtain ⟨rfl⟩ := H
                  go_wp2_with (first | (go_at_call 13; (with_reducible refine (label_Next.calls a0 t153 t154 _ ?side1 A13.out).mono ?_); (case side1 => exact Tabs.below HT.out (by repeat (first | (with_reducible first | exact HB.out | apply below_alloc | apply pw_below_drewN | apply below_drew1) | exact HB.out))); rintro e w24 ⟨rfl, hb⟩; have n0_ := Aside0.mk (below_step (by repeat (first | (with_reducible first | exact HB.out | apply below_alloc | apply pw_below_drewN | apply below_drew1) | exact HB.out)) hb); clear HB; have HB := n0_; clear n0_; (try clear hb); (try clear hb2); (try clear hk); (try clear hi)) | (go_at_call 14; (with_reducible refine (packhorseref01_Next.calls kj7 a0 t155 t156 _ A14.out).mono ?_); rintro e w25 ⟨rfl, hb⟩; have n0_ := Aside0.mk (below_step (by repeat (first | (with_reducible first | exact HB.out | apply below_alloc | apply pw_below_drewN | apply below_drew1) | exact HB.out)) hb); clear HB; have HB := n0_; clear n0_; (try clear hb); (try clear hb2); (try clear hk); (try clear hi)) | (go_at_call 15; (with_reducible refine (label_Right.calls a0 t157 _ ?side1 A15.out).mono ?_); (case side1 => exact Tabs.below HT.out (by repeat (first | (with_reducible first | exact HB.out | apply below_alloc | apply pw_below_drewN | apply below_drew1) | exact HB.out))); rintro e w26 ⟨rfl, hb⟩; have n0_ := Aside0.mk (below_step (by repeat (first | (with_reducible first | exact HB.out | apply below_alloc | apply pw_below_drewN | apply below_drew1) | exact HB.out)) hb); clear HB; have HB := n0_; clear n0_; (try clear hb); (try clear hb2); (try clear hk); (try clear hi)) | (go_at_call 16; (with_reducible refine (packhorseref01_Right.calls kj7 a0 t158 _ A16.out).mono ?_); rintro e w27 ⟨rfl, hb⟩; have n0_ := Aside0.mk (below_step (by repeat (first | (with_reducible first | exact HB.out | apply below_alloc | apply pw_below_drewN | apply below_drew1) | exact HB.out)) hb); clear HB; have HB := n0_; clear n0_; (try clear hb); (try clear hb2); (try clear hk); (try clear hi)) | (go_at_call 17; (with_reducible refine (label_Signs.calls a0 t159 _ ?side1 A18.out).mono ?_); (case side1 => exact Tabs.below HT.out (by repeat (first | (with_reducible first | exact HB.out | apply below_alloc | apply pw_below_drewN | apply below_drew1) | exact HB.out))); rintro e w28 ⟨rfl, hb⟩; have n0_ := Aside0.mk (below_step (by repeat (first | (with_reducible first | exact HB.out | apply below_alloc | apply pw_below_drewN | apply below_drew1) | exact HB.out)) hb); clear HB; have HB := n0_; clear n0_; (try clear hb); (try clear hb2); (try clear hk); (try clear hi)) | (go_at_call 18; (with_reducible refine (label_Cut.calls a0 a1 t160 _ ?side1 A20.out).mono ?_); (case side1 => exact Tabs.below HT.out (by repeat (first | (with_reducible first | exact HB.out | apply below_alloc | apply pw_below_drewN | apply below_drew1) | exact HB.out))); rintro e w29 ⟨rfl, hb⟩; have n0_ := Aside0.mk (below_step (by repeat (first | (with_reducible first | exact HB.out | apply below_alloc | apply pw_below_drewN | apply below_drew1) | exact HB.out)) hb); clear HB; have HB := n0_; clear n0_; (try clear hb); (try clear hb2); (try clear hk); (try clear hi)) | (go_at_call 19; (with_reducible refine (packhorseref01_Cut.calls kj7 a0 a1 t161 _ A21.out).mono ?_); rintro e w30 ⟨rfl, hb⟩; have n0_ := Aside0.mk (below_step (by repeat (first | (with_reducible first | exact HB.out | apply below_alloc | apply pw_below_drewN | apply below_drew1) | exact HB.out)) hb); clear HB; have HB := n0_; clear n0_; (try clear hb); (try clear hb2); (try clear hk); (try clear hi)))
                  go_ret
                  exact ⟨by first | rfl | (simp [errW_none, errW_some] <;> rfl) | (simp [*, errW_none, errW_some] <;> rfl), by repeat (first | (with_reducible first | exact HB.out | apply below_alloc | apply pw_below_drewN | apply below_drew1) | exact HB.out)⟩
                · rw [if_neg c23] at H
                  have c23b0 : (t153.toList == t155.toList) = false := beq_eq_false_iff_ne.mpr c23
                  have c23b1 : (t153.toList != t155.toList) = true := bne_iff_ne.mpr c23
                  obtain rfl := Option.some.inj H
                  exact absurd HRT.out (by decide)
              · rw [if_neg c22] at H
                have c22b0 : (t160.toList == t161.toList) = false := beq_eq_false_iff_ne.mpr c22
                have c22b1 : (t160.toList != t161.toList) = true := bne_iff_ne.mpr c22
                obtain rfl := Option.some.inj H
                exact absurd HRT.out (by decide)
            · rw [if_neg c19] at H
              have c19b0 : (t159 == x5_7) = false := beq_eq_false_iff_ne.mpr c19
              have c19b1 : (t159 != x5_7) = true := bne_iff_ne.mpr c19
              obtain rfl := Option.some.inj H
              exact absurd HRT.out (by decide)
          · rw [if_neg c17] at H
            have c17b0 : (t157 == t158) = false := by simpa using c17
            (try (have c17b1 : decide (t157 = t158) = false := by simpa using c17))
            (try (have c17b2 : (t157 == t158) = false := by simpa using c17))
            (try (have c17b3 : ¬ (t157 = t158) := by simpa using c17))
            clear c17
            obtain rfl := Option.some.inj H
            exact absurd HRT.out (by decide)
  · replace c4 := Bool.eq_false_iff.mpr c4
    subst c4
    have H1 : (some false) = some r := by rw [if_neg (show ¬ (false = true) by decide)] at H; exact H
    clear H
    have H := H1
    clear H1
    obtain rfl := Option.some.inj H
    exact absurd HRT.out (by decide)

end Go.Proofs.YtdifpehainbkmaaDoor.PAll
