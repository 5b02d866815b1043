-- Made by a program of this session (wip/gen)
import Derived.Test.YtdifpehainbkmaaDoorPAllx0
import Derived.Test.YtdifpehainbkmaaDoorPAllx2
import Derived.Test.YtdifpehainbkmaaDoorPAllx5
import Derived.Test.YtdifpehainbkmaaDoorPAllx6
import Derived.Test.YtdifpehainbkmaaDoorPAllx10
namespace Go.Proofs.YtdifpehainbkmaaDoor.PAll
open Go.RowKit Go.Proofs.YtdifpehainbkmaaDoorW.PrintWords Go.Proofs.YtdifpehainbkmaaDoorW.PrintLast Go.Proofs.YtdifpehainbkmaaDoorW.PrintMore
attribute [local go_sem] max2_int min2_int max_two min_two max_three min_three max_four min_four   -- for this text's walks alone
set_option linter.unusedVariables false
set_option linter.unusedSimpArgs false

/-! ### packhorselaw01_LabelFollows: function 5 -/
def packhorselaw01_LabelFollows.j0 : Nat → ByteArray → Bool → Option (Bool)
  | 0, _, _ => none
  | k + 1, x0, x34 => if x34 = true then (some false) else ((label_Next.f x0).bind fun bt168 => (if bt168.2 = 0 then ((label_Next.f bt168.1).bind fun bt171 => ((label_Signs.f bt168.1).bind fun t173 => ((label_Signs.f x0).bind fun t174 => (if (wrap64 (t173 - t174)) = 0 then ((label_Right.f bt168.1).bind fun t175 => (if t175 = true then (if bt168.1.toList = x0.toList then (some false) else ((label_Cut.f bt168.1 1).bind fun t176 => ((label_Cut.f x0 1).bind fun t177 => (if t176.toList = t177.toList then (if bt171.2 = 0 then (if bt171.1.toList = x0.toList then (some false) else (some (bt171.1.toList != bt168.1.toList))) else (some true)) else (some false))))) else (some false))) else ((label_Right.f bt168.1).bind fun t178 => (if t178 = true then (if bt168.1.toList = x0.toList then (some false) else (if (wrap64 (t173 - t174)) = 1 then ((label_Cut.f bt168.1 1).bind fun t179 => ((label_Cut.f x0 1).bind fun t180 => (if t179.toList = t180.toList then (if bt171.2 = 0 then (if bt171.1.toList = x0.toList then (some false) else (some (bt171.1.toList != bt168.1.toList))) else (some true)) else (some false)))) else (some false))) else (some false))))))) else (if bt168.1.toList = ([] : List UInt8) then ((label_Signs.f x0).bind fun t170 => (some (t170 == 16))) else (some false))))
def packhorselaw01_LabelFollows.f (k : Nat) (a0 : ByteArray) (a1 : Int) : Option (Bool) := (packhorselaw01_labelAlive.f).bind fun t162 => (if t162 = true then ((label_Right.f a0).bind fun t163 => (if t163 = true then (if a1 ≥ 1 then ((label_Cut.f a0 a1).bind fun t164 => ((label_Right.f t164).bind fun t165 => (if t165 = true then ((label_Signs.f t164).bind fun t166 => ((label_Signs.f a0).bind fun t167 => (packhorselaw01_LabelFollows.j0 k a0 (t166 != (mn a1 t167))))) else (packhorselaw01_LabelFollows.j0 k a0 true)))) else (packhorselaw01_LabelFollows.j0 k a0 false)) else (some true))) else (some false))
theorem packhorselaw01_LabelFollows.mono_l : ∀ k, (∀ y0 y1, LeO (packhorselaw01_LabelFollows.j0 k y0 y1) (packhorselaw01_LabelFollows.j0 (k + 1) y0 y1))
  | 0 => fun _ _ r h => by simp [packhorselaw01_LabelFollows.j0] at h
  | k + 1 => by
    have ih0 := packhorselaw01_LabelFollows.mono_l k
    · intro y0 y1
      unfold packhorselaw01_LabelFollows.j0
      repeat' first
      | (with_reducible exact ih0 _ _)
      | (with_reducible exact LeO.refl _)
      | (with_reducible exact LeO.none _)
      | (with_reducible refine LeO.ite ?_ ?_)
      | (with_reducible refine LeO.bind ?_ (fun _ => ?_))
      | exact ih0 _ _
      | exact LeO.none _
      | refine LeO.ite ?_ ?_
      | refine LeO.bind ?_ (fun _ => ?_)
theorem packhorselaw01_LabelFollows.mono : ∀ a0 a1 k, LeO (packhorselaw01_LabelFollows.f k a0 a1) (packhorselaw01_LabelFollows.f (k + 1) a0 a1) := by
  intro a0 a1 k
  have ih0 := packhorselaw01_LabelFollows.mono_l k
  unfold packhorselaw01_LabelFollows.f
  repeat' first
      | (with_reducible exact ih0 _ _)
      | (with_reducible exact LeO.refl _)
      | (with_reducible exact LeO.none _)
      | (with_reducible refine LeO.ite ?_ ?_)
      | (with_reducible refine LeO.bind ?_ (fun _ => ?_))
      | exact ih0 _ _
      | exact LeO.none _
      | refine LeO.ite ?_ ?_
      | refine LeO.bind ?_ (fun _ => ?_)
set_option maxHeartbeats 8000000 in
set_option maxRecDepth 100000 in
theorem packhorselaw01_LabelFollows.calls (k : Nat) (a0 : ByteArray) (a1 : Int) (r : Bool) (w : World) (hT : Tabs w) (h : packhorselaw01_LabelFollows.f k a0 a1 = some r) (hr_ : r = true) :
    Calls Tryd.prog 5 #[.string a0, .int .i64 a1] w fun e w' => e = .returned (.bool r) ∧ Below w.heap.size w w' := by
  have HRT := Aside0.mk hr_
  clear hr_
  have HT := Aside0.mk hT
  clear hT
  have HB := Aside0.mk (Below.refl w.heap.size w)
  have H : ((packhorselaw01_labelAlive.f).bind fun t162 => (if t162 = true then ((label_Right.f a0).bind fun t163 => (if t163 = true then (if a1 ≥ 1 then ((label_Cut.f a0 a1).bind fun t164 => ((label_Right.f t164).bind fun t165 => (if t165 = true then ((label_Signs.f t164).bind fun t166 => ((label_Signs.f a0).bind fun t167 => (packhorselaw01_LabelFollows.j0 k a0 (t166 != (mn a1 t167))))) else (packhorselaw01_LabelFollows.j0 k a0 true)))) else (packhorselaw01_LabelFollows.j0 k a0 false)) else (some true))) else (some false))) = some r := h
  clear h
  replace H := Option.bind_eq_some_iff.mp H
  obtain ⟨t162, A30, H⟩ := H
  replace H : (if t162 = true then ((label_Right.f a0).bind fun t163 => (if t163 = true then (if a1 ≥ 1 then ((label_Cut.f a0 a1).bind fun t164 => ((label_Right.f t164).bind fun t165 => (if t165 = true then ((label_Signs.f t164).bind fun t166 => ((label_Signs.f a0).bind fun t167 => (packhorselaw01_LabelFollows.j0 k a0 (t166 != (mn a1 t167))))) else (packhorselaw01_LabelFollows.j0 k a0 true)))) else (packhorselaw01_LabelFollows.j0 k a0 false)) else (some true))) else (some false)) = some r := H
  have A3 := Aside0.mk A30
  clear A30
  by_cases c4 : t162 = true
  · subst c4
    have H1 : ((label_Right.f a0).bind fun t163 => (if t163 = true then (if a1 ≥ 1 then ((label_Cut.f a0 a1).bind fun t164 => ((label_Right.f t164).bind fun t165 => (if t165 = true then ((label_Signs.f t164).bind fun t166 => ((label_Signs.f a0).bind fun t167 => (packhorselaw01_LabelFollows.j0 k a0 (t166 != (mn a1 t167))))) else (packhorselaw01_LabelFollows.j0 k a0 true)))) else (packhorselaw01_LabelFollows.j0 k a0 false)) else (some true))) = some r := by rw [if_pos rfl] at H; exact H
    clear H
    have H := H1
    clear H1
    replace H := Option.bind_eq_some_iff.mp H
    obtain ⟨t163, A50, H⟩ := H
    replace H : (if t163 = true then (if a1 ≥ 1 then ((label_Cut.f a0 a1).bind fun t164 => ((label_Right.f t164).bind fun t165 => (if t165 = true then ((label_Signs.f t164).bind fun t166 => ((label_Signs.f a0).bind fun t167 => (packhorselaw01_LabelFollows.j0 k a0 (t166 != (mn a1 t167))))) else (packhorselaw01_LabelFollows.j0 k a0 true)))) else (packhorselaw01_LabelFollows.j0 k a0 false)) else (some true)) = some r := H
    have A5 := Aside0.mk A50
    clear A50
    by_cases c6 : t163 = true
    · subst c6
      have H1 : (if a1 ≥ 1 then ((label_Cut.f a0 a1).bind fun t164 => ((label_Right.f t164).bind fun t165 => (if t165 = true then ((label_Signs.f t164).bind fun t166 => ((label_Signs.f a0).bind fun t167 => (packhorselaw01_LabelFollows.j0 k a0 (t166 != (mn a1 t167))))) else (packhorselaw01_LabelFollows.j0 k a0 true)))) else (packhorselaw01_LabelFollows.j0 k a0 false)) = some r := by rw [if_pos rfl] at H; exact H
      clear H
      have H := H1
      clear H1
      have HC7 := Aside0.mk H
      clear H
      go_enter Tryd.func5, Tryd.ntmps5
      go_upto_region 5 with (first | (go_at_call 9; (with_reducible refine (packhorselaw01_labelAlive.calls  true _ ?side1 A3.out rfl).mono ?_); (case side1 => exact Tabs.below HT.out (by repeat (first | (with_reducible first | exact HB.out | apply below_alloc | apply pw_below_drewN | apply below_drew1) | exact HB.out))); rintro e w8 ⟨rfl, hb⟩; have n0_ := Aside0.mk (below_step (by repeat (first | (with_reducible first | exact HB.out | apply below_alloc | apply pw_below_drewN | apply below_drew1) | exact HB.out)) hb); clear HB; have HB := n0_; clear n0_; (try clear hb); (try clear hb2); (try clear hk); (try clear hi)) | (go_at_call 15; (with_reducible refine (label_Right.calls a0 true _ ?side1 A5.out).mono ?_); (case side1 => exact Tabs.below HT.out (by repeat (first | (with_reducible first | exact HB.out | apply below_alloc | apply pw_below_drewN | apply below_drew1) | exact HB.out))); rintro e w9 ⟨rfl, hb⟩; have n0_ := Aside0.mk (below_step (by repeat (first | (with_reducible first | exact HB.out | apply below_alloc | apply pw_below_drewN | apply below_drew1) | exact HB.out)) hb); clear HB; have HB := n0_; clear n0_; (try clear hb); (try clear hb2); (try clear hk); (try clear hi)))
      (try simp only [Act.put, List.setIfInBounds_toArray, List.set_cons_zero, List.set_cons_succ])
      go_cut [34] (fun v34 wc => ∃ (kq : Nat) (x34_6 : Bool), v34 = .bool x34_6 ∧ Aside0 (packhorselaw01_LabelFollows.j0 kq a0 x34_6 = some r) ∧ Aside0 (kq ≤ k) ∧ Aside0 (Below w.heap.size w wc))
      case first =>
        have H := HC7.out
        clear HC7
        by_cases c10 : a1 ≥ 1
        · rw [if_pos c10] at H
          have c10b0 : decide (1 ≤ a1) = true := decide_eq_true c10
          clear c10
          (first | rw [c10b0] | (simp only [i64_w, i32_w]; rw [c10b0]) | skip)
          replace H := Option.bind_eq_some_iff.mp H
          obtain ⟨t164, A110, H⟩ := H
          replace H : ((label_Right.f t164).bind fun t165 => (if t165 = true then ((label_Signs.f t164).bind fun t166 => ((label_Signs.f a0).bind fun t167 => (packhorselaw01_LabelFollows.j0 k a0 (t166 != (mn a1 t167))))) else (packhorselaw01_LabelFollows.j0 k a0 true))) = some r := H
          have A11 := Aside0.mk A110
          clear A110
          replace H := Option.bind_eq_some_iff.mp H
          obtain ⟨t165, A120, H⟩ := H
          replace H : (if t165 = true then ((label_Signs.f t164).bind fun t166 => ((label_Signs.f a0).bind fun t167 => (packhorselaw01_LabelFollows.j0 k a0 (t166 != (mn a1 t167))))) else (packhorselaw01_LabelFollows.j0 k a0 true)) = some r := H
          have A12 := Aside0.mk A120
          clear A120
          by_cases c13 : t165 = true
          · subst c13
            have H1 : ((label_Signs.f t164).bind fun t166 => ((label_Signs.f a0).bind fun t167 => (packhorselaw01_LabelFollows.j0 k a0 (t166 != (mn a1 t167))))) = some r := by rw [if_pos rfl] at H; exact H
            clear H
            have H := H1
            clear H1
            replace H := Option.bind_eq_some_iff.mp H
            obtain ⟨t166, A140, H⟩ := H
            replace H : ((label_Signs.f a0).bind fun t167 => (packhorselaw01_LabelFollows.j0 k a0 (t166 != (mn a1 t167)))) = some r := H
            have A14 := Aside0.mk A140
            clear A140
            replace H := Option.bind_eq_some_iff.mp H
            obtain ⟨t167, A150, H⟩ := H
            replace H : (packhorselaw01_LabelFollows.j0 k a0 (t166 != (mn a1 t167))) = some r := H
            have A15 := Aside0.mk A150
            clear A150
            obtain ⟨ji16, hji16⟩ : ∃ j_ : Int, (mn a1 t167) = j_ := ⟨_, rfl⟩
            replace H : (packhorselaw01_LabelFollows.j0 k a0 (t166 != (ji16))) = some r := by first | (rw [hji16] at H; exact H) | (simp only [hji16] at H ⊢; exact H)
            (try rw [hji16] at A11)
            (try rw [hji16] at A12)
            (try rw [hji16] at A14)
            (try rw [hji16] at A15)
            have hji16_ : (if t167 < a1 then t167 else a1) = ji16 := hji16
            have H' := Aside0.mk H
            clear H
            go_wp2_with (first | (go_at_call 18; (with_reducible refine (label_Cut.calls a0 a1 t164 _ ?side1 A11.out).mono ?_); (case side1 => exact Tabs.below HT.out (by repeat (first | (with_reducible first | exact HB.out | apply below_alloc | apply pw_below_drewN | apply below_drew1) | exact HB.out))); rintro e w17 ⟨rfl, hb⟩; have n0_ := Aside0.mk (below_step (by repeat (first | (with_reducible first | exact HB.out | apply below_alloc | apply pw_below_drewN | apply below_drew1) | exact HB.out)) hb); clear HB; have HB := n0_; clear n0_; (try clear hb); (try clear hb2); (try clear hk); (try clear hi)) | (go_at_call 15; (with_reducible refine (label_Right.calls t164 true _ ?side1 A12.out).mono ?_); (case side1 => exact Tabs.below HT.out (by repeat (first | (with_reducible first | exact HB.out | apply below_alloc | apply pw_below_drewN | apply below_drew1) | exact HB.out))); rintro e w18 ⟨rfl, hb⟩; have n0_ := Aside0.mk (below_step (by repeat (first | (with_reducible first | exact HB.out | apply below_alloc | apply pw_below_drewN | apply below_drew1) | exact HB.out)) hb); clear HB; have HB := n0_; clear n0_; (try clear hb); (try clear hb2); (try clear hk); (try clear hi)) | (go_at_call 17; (with_reducible refine (label_Signs.calls t164 t166 _ ?side1 A14.out).mono ?_); (case side1 => exact Tabs.below HT.out (by repeat (first | (with_reducible first | exact HB.out | apply below_alloc | apply pw_below_drewN | apply below_drew1) | exact HB.out))); rintro e w19 ⟨rfl, hb⟩; have n0_ := Aside0.mk (below_step (by repeat (first | (with_reducible first | exact HB.out | apply below_alloc | apply pw_below_drewN | apply below_drew1) | exact HB.out)) hb); clear HB; have HB := n0_; clear n0_; (try clear hb); (try clear hb2); (try clear hk); (try clear hi)) | (go_at_call 17; (with_reducible refine (label_Signs.calls a0 t167 _ ?side1 A15.out).mono ?_); (case side1 => exact Tabs.below HT.out (by repeat (first | (with_reducible first | exact HB.out | apply below_alloc | apply pw_below_drewN | apply below_drew1) | exact HB.out))); rintro e w20 ⟨rfl, hb⟩; have n0_ := Aside0.mk (below_step (by repeat (first | (with_reducible first | exact HB.out | apply below_alloc | apply pw_below_drewN | apply below_drew1) | exact HB.out)) hb); clear HB; have HB := n0_; clear n0_; (try clear hb); (try clear hb2); (try clear hk); (try clear hi)))
            go_meet
            case rel => exact ⟨_, ((t166 != (ji16))), (by first | rfl | (simp; done) | (simp only [← hji16] <;> (first | rfl | simp)) | (simp [*]; done)), H', ⟨by first | omega | exact Nat.le_refl _⟩, ⟨by repeat (first | (with_reducible first | exact HB.out | apply below_alloc | apply pw_below_drewN | apply below_drew1) | exact HB.out)⟩⟩
          · replace c13 := Bool.eq_false_iff.mpr c13
            subst c13
            have H1 : (packhorselaw01_LabelFollows.j0 k a0 true) = some r := by rw [if_neg (show ¬ (false = true) by decide)] at H; exact H
            clear H
            have H := H1
            clear H1
            have H' := Aside0.mk H
            clear H
            go_wp2_with (first | (go_at_call 18; (with_reducible refine (label_Cut.calls a0 a1 t164 _ ?side1 A11.out).mono ?_); (case side1 => exact Tabs.below HT.out (by repeat (first | (with_reducible first | exact HB.out | apply below_alloc | apply pw_below_drewN | apply below_drew1) | exact HB.out))); rintro e w21 ⟨rfl, hb⟩; have n0_ := Aside0.mk (below_step (by repeat (first | (with_reducible first | exact HB.out | apply below_alloc | apply pw_below_drewN | apply below_drew1) | exact HB.out)) hb); clear HB; have HB := n0_; clear n0_; (try clear hb); (try clear hb2); (try clear hk); (try clear hi)) | (go_at_call 15; (with_reducible refine (label_Right.calls t164 false _ ?side1 A12.out).mono ?_); (case side1 => exact Tabs.below HT.out (by repeat (first | (with_reducible first | exact HB.out | apply below_alloc | apply pw_below_drewN | apply below_drew1) | exact HB.out))); rintro e w22 ⟨rfl, hb⟩; have n0_ := Aside0.mk (below_step (by repeat (first | (with_reducible first | exact HB.out | apply below_alloc | apply pw_below_drewN | apply below_drew1) | exact HB.out)) hb); clear HB; have HB := n0_; clear n0_; (try clear hb); (try clear hb2); (try clear hk); (try clear hi)))
            go_meet
            case rel => exact ⟨_, (true), (by first | rfl | (simp; done) | (simp [*]; done)), H', ⟨by first | omega | exact Nat.le_refl _⟩, ⟨by repeat (first | (with_reducible first | exact HB.out | apply below_alloc | apply pw_below_drewN | apply below_drew1) | exact HB.out)⟩⟩
        · rw [if_neg c10] at H
          have c10b0 : decide (1 ≤ a1) = false := decide_eq_false c10
          clear c10
          (first | rw [c10b0] | (simp only [i64_w, i32_w]; rw [c10b0]) | skip)
          have H' := Aside0.mk H
          clear H
          go_wp2
          go_meet
          case rel => exact ⟨_, (false), (by first | rfl | (simp; done) | (simp [*]; done)), H', ⟨by first | omega | exact Nat.le_refl _⟩, ⟨by repeat (first | (with_reducible first | exact HB.out | apply below_alloc | apply pw_below_drewN | apply below_drew1) | exact HB.out)⟩⟩
      case rest =>
        clear HC7
        try clear c1
        try clear p2
        try clear c4
        try clear c5
        try clear c6
        try clear c10
        try clear c10b0
        try clear c13
        obtain ⟨kq, x34_6, rfl, HA, HJ6, HB⟩ := hcut
        cases kq with
        | zero => exact absurd HA.out (by simp [packhorselaw01_LabelFollows.j0])
        | succ kj6 =>
          have H := HA.out
          clear HA
          simp only [packhorselaw01_LabelFollows.j0] at H
          by_cases c23 : x34_6 = true
          · subst c23
            have H1 : (some false) = some r := by rw [if_pos rfl] at H; exact H
            clear H
            have H := H1
            clear H1
            obtain rfl := Option.some.inj H
            exact absurd HRT.out (by decide)
          · replace c23 := Bool.eq_false_iff.mpr c23
            subst c23
            have H1 : ((label_Next.f a0).bind fun bt168 => (if bt168.2 = 0 then ((label_Next.f bt168.1).bind fun bt171 => ((label_Signs.f bt168.1).bind fun t173 => ((label_Signs.f a0).bind fun t174 => (if (wrap64 (t173 - t174)) = 0 then ((label_Right.f bt168.1).bind fun t175 => (if t175 = true then (if bt168.1.toList = a0.toList then (some false) else ((label_Cut.f bt168.1 1).bind fun t176 => ((label_Cut.f a0 1).bind fun t177 => (if t176.toList = t177.toList then (if bt171.2 = 0 then (if bt171.1.toList = a0.toList then (some false) else (some (bt171.1.toList != bt168.1.toList))) else (some true)) else (some false))))) else (some false))) else ((label_Right.f bt168.1).bind fun t178 => (if t178 = true then (if bt168.1.toList = a0.toList then (some false) else (if (wrap64 (t173 - t174)) = 1 then ((label_Cut.f bt168.1 1).bind fun t179 => ((label_Cut.f a0 1).bind fun t180 => (if t179.toList = t180.toList then (if bt171.2 = 0 then (if bt171.1.toList = a0.toList then (some false) else (some (bt171.1.toList != bt168.1.toList))) else (some true)) else (some false)))) else (some false))) else (some false))))))) else (if bt168.1.toList = ([] : List UInt8) then ((label_Signs.f a0).bind fun t170 => (some (t170 == 16))) else (some false)))) = some r := by rw [if_neg (show ¬ (false = true) by decide)] at H; exact H
            clear H
            have H := H1
            clear H1
            replace H := Option.bind_eq_some_iff.mp H
            obtain ⟨⟨t168, t169⟩, A240, H⟩ := H
            replace H : (if t169 = 0 then ((label_Next.f t168).bind fun bt171 => ((label_Signs.f t168).bind fun t173 => ((label_Signs.f a0).bind fun t174 => (if (wrap64 (t173 - t174)) = 0 then ((label_Right.f t168).bind fun t175 => (if t175 = true then (if t168.toList = a0.toList then (some false) else ((label_Cut.f t168 1).bind fun t176 => ((label_Cut.f a0 1).bind fun t177 => (if t176.toList = t177.toList then (if bt171.2 = 0 then (if bt171.1.toList = a0.toList then (some false) else (some (bt171.1.toList != t168.toList))) else (some true)) else (some false))))) else (some false))) else ((label_Right.f t168).bind fun t178 => (if t178 = true then (if t168.toList = a0.toList then (some false) else (if (wrap64 (t173 - t174)) = 1 then ((label_Cut.f t168 1).bind fun t179 => ((label_Cut.f a0 1).bind fun t180 => (if t179.toList = t180.toList then (if bt171.2 = 0 then (if bt171.1.toList = a0.toList then (some false) else (some (bt171.1.toList != t168.toList))) else (some true)) else (some false)))) else (some false))) else (some false))))))) else (if t168.toList = ([] : List UInt8) then ((label_Signs.f a0).bind fun t170 => (some (t170 == 16))) else (some false))) = some r := H
            have A24 := Aside0.mk A240
            clear A240
            by_cases c25 : t169 = 0
            · rw [if_pos c25] at H
              have c25b0 : (t169 == 0) = true := beq_iff_eq.mpr c25
              have c25b1 : (t169 != 0) = false := bne_eq_false_iff_eq.mpr c25
              clear c25
              replace H := Option.bind_eq_some_iff.mp H
              obtain ⟨⟨t171, t172⟩, A260, H⟩ := H
              replace H : ((label_Signs.f t168).bind fun t173 => ((label_Signs.f a0).bind fun t174 => (if (wrap64 (t173 - t174)) = 0 then ((label_Right.f t168).bind fun t175 => (if t175 = true then (if t168.toList = a0.toList then (some false) else ((label_Cut.f t168 1).bind fun t176 => ((label_Cut.f a0 1).bind fun t177 => (if t176.toList = t177.toList then (if t172 = 0 then (if t171.toList = a0.toList then (some false) else (some (t171.toList != t168.toList))) else (some true)) else (some false))))) else (some false))) else ((label_Right.f t168).bind fun t178 => (if t178 = true then (if t168.toList = a0.toList then (some false) else (if (wrap64 (t173 - t174)) = 1 then ((label_Cut.f t168 1).bind fun t179 => ((label_Cut.f a0 1).bind fun t180 => (if t179.toList = t180.toList then (if t172 = 0 then (if t171.toList = a0.toList then (some false) else (some (t171.toList != t168.toList))) else (some true)) else (some false)))) else (some false))) else (some false)))))) = some r := H
              have A26 := Aside0.mk A260
              clear A260
              replace H := Option.bind_eq_some_iff.mp H
              obtain ⟨t173, A270, H⟩ := H
              replace H : ((label_Signs.f a0).bind fun t174 => (if (wrap64 (t173 - t174)) = 0 then ((label_Right.f t168).bind fun t175 => (if t175 = true then (if t168.toList = a0.toList then (some false) else ((label_Cut.f t168 1).bind fun t176 => ((label_Cut.f a0 1).bind fun t177 => (if t176.toList = t177.toList then (if t172 = 0 then (if t171.toList = a0.toList then (some false) else (some (t171.toList != t168.toList))) else (some true)) else (some false))))) else (some false))) else ((label_Right.f t168).bind fun t178 => (if t178 = true then (if t168.toList = a0.toList then (some false) else (if (wrap64 (t173 - t174)) = 1 then ((label_Cut.f t168 1).bind fun t179 => ((label_Cut.f a0 1).bind fun t180 => (if t179.toList = t180.toList then (if t172 = 0 then (if t171.toList = a0.toList then (some false) else (some (t171.toList != t168.toList))) else (some true)) else (some false)))) else (some false))) else (some false))))) = some r := H
              have A27 := Aside0.mk A270
              clear A270
              replace H := Option.bind_eq_some_iff.mp H
              obtain ⟨t174, A280, H⟩ := H
              replace H : (if (wrap64 (t173 - t174)) = 0 then ((label_Right.f t168).bind fun t175 => (if t175 = true then (if t168.toList = a0.toList then (some false) else ((label_Cut.f t168 1).bind fun t176 => ((label_Cut.f a0 1).bind fun t177 => (if t176.toList = t177.toList then (if t172 = 0 then (if t171.toList = a0.toList then (some false) else (some (t171.toList != t168.toList))) else (some true)) else (some false))))) else (some false))) else ((label_Right.f t168).bind fun t178 => (if t178 = true then (if t168.toList = a0.toList then (some false) else (if (wrap64 (t173 - t174)) = 1 then ((label_Cut.f t168 1).bind fun t179 => ((label_Cut.f a0 1).bind fun t180 => (if t179.toList = t180.toList then (if t172 = 0 then (if t171.toList = a0.toList then (some false) else (some (t171.toList != t168.toList))) else (some true)) else (some false)))) else (some false))) else (some false)))) = some r := H
              have A28 := Aside0.mk A280
              clear A280
              by_cases c29 : (wrap64 (t173 - t174)) = 0
              · rw [if_pos c29] at H
                have c29b0 : ((wrap64 (t173 - t174)) == 0) = true := beq_iff_eq.mpr c29
                have c29b1 : ((wrap64 (t173 - t174)) != 0) = false := bne_eq_false_iff_eq.mpr c29
                clear c29
                replace H := Option.bind_eq_some_iff.mp H
                obtain ⟨t175, A300, H⟩ := H
                replace H : (if t175 = true then (if t168.toList = a0.toList then (some false) else ((label_Cut.f t168 1).bind fun t176 => ((label_Cut.f a0 1).bind fun t177 => (if t176.toList = t177.toList then (if t172 = 0 then (if t171.toList = a0.toList then (some false) else (some (t171.toList != t168.toList))) else (some true)) else (some false))))) else (some false)) = some r := H
                have A30 := Aside0.mk A300
                clear A300
                by_cases c31 : t175 = true
                · subst c31
                  have H1 : (if t168.toList = a0.toList then (some false) else ((label_Cut.f t168 1).bind fun t176 => ((label_Cut.f a0 1).bind fun t177 => (if t176.toList = t177.toList then (if t172 = 0 then (if t171.toList = a0.toList then (some false) else (some (t171.toList != t168.toList))) else (some true)) else (some false))))) = some r := by rw [if_pos rfl] at H; exact H
                  clear H
                  have H := H1
                  clear H1
                  by_cases c32 : t168.toList = a0.toList
                  · rw [if_pos c32] at H
                    have c32b0 : (t168.toList == a0.toList) = true := beq_iff_eq.mpr c32
                    have c32b1 : (t168.toList != a0.toList) = false := bne_eq_false_iff_eq.mpr c32
                    clear c32
                    obtain rfl := Option.some.inj H
                    exact absurd HRT.out (by decide)
                  · rw [if_neg c32] at H
                    have c32b0 : (t168.toList == a0.toList) = false := beq_eq_false_iff_ne.mpr c32
                    have c32b1 : (t168.toList != a0.toList) = true := bne_iff_ne.mpr c32
                    replace H := Option.bind_eq_some_iff.mp H
                    obtain ⟨t176, A330, H⟩ := H
                    replace H : ((label_Cut.f a0 1).bind fun t177 => (if t176.toList = t177.toList then (if t172 = 0 then (if t171.toList = a0.toList then (some false) else (some (t171.toList != t168.toList))) else (some true)) else (some false))) = some r := H
                    have A33 := Aside0.mk A330
                    clear A330
                    replace H := Option.bind_eq_some_iff.mp H
                    obtain ⟨t177, A340, H⟩ := H
                    replace H : (if t176.toList = t177.toList then (if t172 = 0 then (if t171.toList = a0.toList then (some false) else (some (t171.toList != t168.toList))) else (some true)) else (some false)) = some r := H
                    have A34 := Aside0.mk A340
                    clear A340
                    by_cases c35 : t176.toList = t177.toList
                    · rw [if_pos c35] at H
                      have c35b0 : (t176.toList == t177.toList) = true := beq_iff_eq.mpr c35
                      have c35b1 : (t176.toList != t177.toList) = false := bne_eq_false_iff_eq.mpr c35
                      clear c35
                      by_cases c36 : t172 = 0
                      · rw [if_pos c36] at H
                        have c36b0 : (t172 == 0) = true := beq_iff_eq.mpr c36
                        have c36b1 : (t172 != 0) = false := bne_eq_false_iff_eq.mpr c36
                        clear c36
                        by_cases c37 : t171.toList = a0.toList
                        · rw [if_pos c37] at H
                          have c37b0 : (t171.toList == a0.toList) = true := beq_iff_eq.mpr c37
                          have c37b1 : (t171.toList != a0.toList) = false := bne_eq_false_iff_eq.mpr c37
                          clear c37
                          obtain rfl := Option.some.inj H
                          exact absurd HRT.out (by decide)
                        · rw [if_neg c37] at H
                          have c37b0 : (t171.toList == a0.toList) = false := beq_eq_false_iff_ne.mpr c37
                          have c37b1 : (t171.toList != a0.toList) = true := bne_iff_ne.mpr c37
                          obtain rfl := Option.some.inj H
                          simp only [Option.some.injEq, Prod.mk.injEq] at H
                          obtain ⟨rfl⟩ := H
                          go_wp2_with (first | (go_at_call 13; (with_reducible refine (label_Next.calls a0 t168 t169 _ ?side1 A24.out).mono ?_); (case side1 => exact Tabs.below HT.out (by repeat (first | (with_reducible first | exact HB.out | apply below_alloc | apply pw_below_drewN | apply below_drew1) | exact HB.out))); rintro e w38 ⟨rfl, hb⟩; have n0_ := Aside0.mk (below_step (by repeat (first | (with_reducible first | exact HB.out | apply below_alloc | apply pw_below_drewN | apply below_drew1) | exact HB.out)) hb); clear HB; have HB := n0_; clear n0_; (try clear hb); (try clear hb2); (try clear hk); (try clear hi)) | (go_at_call 13; (with_reducible refine (label_Next.calls t168 t171 t172 _ ?side1 A26.out).mono ?_); (case side1 => exact Tabs.below HT.out (by repeat (first | (with_reducible first | exact HB.out | apply below_alloc | apply pw_below_drewN | apply below_drew1) | exact HB.out))); rintro e w39 ⟨rfl, hb⟩; have n0_ := Aside0.mk (below_step (by repeat (first | (with_reducible first | exact HB.out | apply below_alloc | apply pw_below_drewN | apply below_drew1) | exact HB.out)) hb); clear HB; have HB := n0_; clear n0_; (try clear hb); (try clear hb2); (try clear hk); (try clear hi)) | (go_at_call 17; (with_reducible refine (label_Signs.calls t168 t173 _ ?side1 A27.out).mono ?_); (case side1 => exact Tabs.below HT.out (by repeat (first | (with_reducible first | exact HB.out | apply below_alloc | apply pw_below_drewN | apply below_drew1) | exact HB.out))); rintro e w40 ⟨rfl, hb⟩; have n0_ := Aside0.mk (below_step (by repeat (first | (with_reducible first | exact HB.out | apply below_alloc | apply pw_below_drewN | apply below_drew1) | exact HB.out)) hb); clear HB; have HB := n0_; clear n0_; (try clear hb); (try clear hb2); (try clear hk); (try clear hi)) | (go_at_call 17; (with_reducible refine (label_Signs.calls a0 t174 _ ?side1 A28.out).mono ?_); (case side1 => exact Tabs.below HT.out (by repeat (first | (with_reducible first | exact HB.out | apply below_alloc | apply pw_below_drewN | apply below_drew1) | exact HB.out))); rintro e w41 ⟨rfl, hb⟩; have n0_ := Aside0.mk (below_step (by repeat (first | (with_reducible first | exact HB.out | apply below_alloc | apply pw_below_drewN | apply below_drew1) | exact HB.out)) hb); clear HB; have HB := n0_; clear n0_; (try clear hb); (try clear hb2); (try clear hk); (try clear hi)) | (go_at_call 15; (with_reducible refine (label_Right.calls t168 true _ ?side1 A30.out).mono ?_); (case side1 => exact Tabs.below HT.out (by repeat (first | (with_reducible first | exact HB.out | apply below_alloc | apply pw_below_drewN | apply below_drew1) | exact HB.out))); rintro e w42 ⟨rfl, hb⟩; have n0_ := Aside0.mk (below_step (by repeat (first | (with_reducible first | exact HB.out | apply below_alloc | apply pw_below_drewN | apply below_drew1) | exact HB.out)) hb); clear HB; have HB := n0_; clear n0_; (try clear hb); (try clear hb2); (try clear hk); (try clear hi)) | (go_at_call 18; (with_reducible refine (label_Cut.calls t168 1 t176 _ ?side1 A33.out).mono ?_); (case side1 => exact Tabs.below HT.out (by repeat (first | (with_reducible first | exact HB.out | apply below_alloc | apply pw_below_drewN | apply below_drew1) | exact HB.out))); rintro e w43 ⟨rfl, hb⟩; have n0_ := Aside0.mk (below_step (by repeat (first | (with_reducible first | exact HB.out | apply below_alloc | apply pw_below_drewN | apply below_drew1) | exact HB.out)) hb); clear HB; have HB := n0_; clear n0_; (try clear hb); (try clear hb2); (try clear hk); (try clear hi)) | (go_at_call 18; (with_reducible refine (label_Cut.calls a0 1 t177 _ ?side1 A34.out).mono ?_); (case side1 => exact Tabs.below HT.out (by repeat (first | (with_reducible first | exact HB.out | apply below_alloc | apply pw_below_drewN | apply below_drew1) | exact HB.out))); rintro e w44 ⟨rfl, hb⟩; have n0_ := Aside0.mk (below_step (by repeat (first | (with_reducible first | exact HB.out | apply below_alloc | apply pw_below_drewN | apply below_drew1) | exact HB.out)) hb); clear HB; have HB := n0_; clear n0_; (try clear hb); (try clear hb2); (try clear hk); (try clear hi)))
                          go_ret
                          exact ⟨by first | rfl | (simp [errW_none, errW_some] <;> rfl) | (simp [*, errW_none, errW_some] <;> rfl), by repeat (first | (with_reducible first | exact HB.out | apply below_alloc | apply pw_below_drewN | apply below_drew1) | exact HB.out)⟩
                      · rw [if_neg c36] at H
                        have c36b0 : (t172 == 0) = false := beq_eq_false_iff_ne.mpr c36
                        have c36b1 : (t172 != 0) = true := bne_iff_ne.mpr c36
                        obtain rfl := Option.some.inj H
                        simp only [Option.some.injEq, Prod.mk.injEq] at H
                        obtain ⟨rfl⟩ := H
                        go_wp2_with (first | (go_at_call 13; (with_reducible refine (label_Next.calls a0 t168 t169 _ ?side1 A24.out).mono ?_); (case side1 => exact Tabs.below HT.out (by repeat (first | (with_reducible first | exact HB.out | apply below_alloc | apply pw_below_drewN | apply below_drew1) | exact HB.out))); rintro e w45 ⟨rfl, hb⟩; have n0_ := Aside0.mk (below_step (by repeat (first | (with_reducible first | exact HB.out | apply below_alloc | apply pw_below_drewN | apply below_drew1) | exact HB.out)) hb); clear HB; have HB := n0_; clear n0_; (try clear hb); (try clear hb2); (try clear hk); (try clear hi)) | (go_at_call 13; (with_reducible refine (label_Next.calls t168 t171 t172 _ ?side1 A26.out).mono ?_); (case side1 => exact Tabs.below HT.out (by repeat (first | (with_reducible first | exact HB.out | apply below_alloc | apply pw_below_drewN | apply below_drew1) | exact HB.out))); rintro e w46 ⟨rfl, hb⟩; have n0_ := Aside0.mk (below_step (by repeat (first | (with_reducible first | exact HB.out | apply below_alloc | apply pw_below_drewN | apply below_drew1) | exact HB.out)) hb); clear HB; have HB := n0_; clear n0_; (try clear hb); (try clear hb2); (try clear hk); (try clear hi)) | (go_at_call 17; (with_reducible refine (label_Signs.calls t168 t173 _ ?side1 A27.out).mono ?_); (case side1 => exact Tabs.below HT.out (by repeat (first | (with_reducible first | exact HB.out | apply below_alloc | apply pw_below_drewN | apply below_drew1) | exact HB.out))); rintro e w47 ⟨rfl, hb⟩; have n0_ := Aside0.mk (below_step (by repeat (first | (with_reducible first | exact HB.out | apply below_alloc | apply pw_below_drewN | apply below_drew1) | exact HB.out)) hb); clear HB; have HB := n0_; clear n0_; (try clear hb); (try clear hb2); (try clear hk); (try clear hi)) | (go_at_call 17; (with_reducible refine (label_Signs.calls a0 t174 _ ?side1 A28.out).mono ?_); (case side1 => exact Tabs.below HT.out (by repeat (first | (with_reducible first | exact HB.out | apply below_alloc | apply pw_below_drewN | apply below_drew1) | exact HB.out))); rintro e w48 ⟨rfl, hb⟩; have n0_ := Aside0.mk (below_step (by repeat (first | (with_reducible first | exact HB.out | apply below_alloc | apply pw_below_drewN | apply below_drew1) | exact HB.out)) hb); clear HB; have HB := n0_; clear n0_; (try clear hb); (try clear hb2); (try clear hk); (try clear hi)) | (go_at_call 15; (with_reducible refine (label_Right.calls t168 true _ ?side1 A30.out).mono ?_); (case side1 => exact Tabs.below HT.out (by repeat (first | (with_reducible first | exact HB.out | apply below_alloc | apply pw_below_drewN | apply below_drew1) | exact HB.out))); rintro e w49 ⟨rfl, hb⟩; have n0_ := Aside0.mk (below_step (by repeat (first | (with_reducible first | exact HB.out | apply below_alloc | apply pw_below_drewN | apply below_drew1) | exact HB.out)) hb); clear HB; have HB := n0_; clear n0_; (try clear hb); (try clear hb2); (try clear hk); (try clear hi)) | (go_at_call 18; (with_reducible refine (label_Cut.calls t168 1 t176 _ ?side1 A33.out).mono ?_); (case side1 => exact Tabs.below HT.out (by repeat (first | (with_reducible first | exact HB.out | apply below_alloc | apply pw_below_drewN | apply below_drew1) | exact HB.out))); rintro e w50 ⟨rfl, hb⟩; have n0_ := Aside0.mk (below_step (by repeat (first | (with_reducible first | exact HB.out | apply below_alloc | apply pw_below_drewN | apply below_drew1) | exact HB.out)) hb); clear HB; have HB := n0_; clear n0_; (try clear hb); (try clear hb2); (try clear hk); (try clear hi)) | (go_at_call 18; (with_reducible refine (label_Cut.calls a0 1 t177 _ ?side1 A34.out).mono ?_); (case side1 => exact Tabs.below HT.out (by repeat (first | (with_reducible first | exact HB.out | apply below_alloc | apply pw_below_drewN | apply below_drew1) | exact HB.out))); rintro e w51 ⟨rfl, hb⟩; have n0_ := Aside0.mk (below_step (by repeat (first | (with_reducible first | exact HB.out | apply below_alloc | apply pw_below_drewN | apply below_drew1) | exact HB.out)) hb); clear HB; have HB := n0_; clear n0_; (try clear hb); (try clear hb2); (try clear hk); (try clear hi)))
                        go_ret
                        exact ⟨by first | rfl | (simp [errW_none, errW_some] <;> rfl) | (simp [*, errW_none, errW_some] <;> rfl), by repeat (first | (with_reducible first | exact HB.out | apply below_alloc | apply pw_below_drewN | apply below_drew1) | exact HB.out)⟩
                    · rw [if_neg c35] at H
                      have c35b0 : (t176.toList == t177.toList) = false := beq_eq_false_iff_ne.mpr c35
                      have c35b1 : (t176.toList != t177.toList) = true := bne_iff_ne.mpr c35
                      obtain rfl := Option.some.inj H
                      exact absurd HRT.out (by decide)
                · replace c31 := Bool.eq_false_iff.mpr c31
                  subst c31
                  have H1 : (some false) = some r := by rw [if_neg (show ¬ (false = true) by decide)] at H; exact H
                  clear H
                  have H := H1
                  clear H1
                  obtain rfl := Option.some.inj H
                  exact absurd HRT.out (by decide)
              · rw [if_neg c29] at H
                have c29b0 : ((wrap64 (t173 - t174)) == 0) = false := beq_eq_false_iff_ne.mpr c29
                have c29b1 : ((wrap64 (t173 - t174)) != 0) = true := bne_iff_ne.mpr c29
                replace H := Option.bind_eq_some_iff.mp H
                obtain ⟨t178, A520, H⟩ := H
                replace H : (if t178 = true then (if t168.toList = a0.toList then (some false) else (if (wrap64 (t173 - t174)) = 1 then ((label_Cut.f t168 1).bind fun t179 => ((label_Cut.f a0 1).bind fun t180 => (if t179.toList = t180.toList then (if t172 = 0 then (if t171.toList = a0.toList then (some false) else (some (t171.toList != t168.toList))) else (some true)) else (some false)))) else (some false))) else (some false)) = some r := H
                have A52 := Aside0.mk A520
                clear A520
                by_cases c53 : t178 = true
                · subst c53
                  have H1 : (if t168.toList = a0.toList then (some false) else (if (wrap64 (t173 - t174)) = 1 then ((label_Cut.f t168 1).bind fun t179 => ((label_Cut.f a0 1).bind fun t180 => (if t179.toList = t180.toList then (if t172 = 0 then (if t171.toList = a0.toList then (some false) else (some (t171.toList != t168.toList))) else (some true)) else (some false)))) else (some false))) = some r := by rw [if_pos rfl] at H; exact H
                  clear H
                  have H := H1
                  clear H1
                  by_cases c54 : t168.toList = a0.toList
                  · rw [if_pos c54] at H
                    have c54b0 : (t168.toList == a0.toList) = true := beq_iff_eq.mpr c54
                    have c54b1 : (t168.toList != a0.toList) = false := bne_eq_false_iff_eq.mpr c54
                    clear c54
                    obtain rfl := Option.some.inj H
                    exact absurd HRT.out (by decide)
                  · rw [if_neg c54] at H
                    have c54b0 : (t168.toList == a0.toList) = false := beq_eq_false_iff_ne.mpr c54
                    have c54b1 : (t168.toList != a0.toList) = true := bne_iff_ne.mpr c54
                    by_cases c55 : (wrap64 (t173 - t174)) = 1
                    · rw [if_pos c55] at H
                      have c55b0 : ((wrap64 (t173 - t174)) == 1) = true := beq_iff_eq.mpr c55
                      have c55b1 : ((wrap64 (t173 - t174)) != 1) = false := bne_eq_false_iff_eq.mpr c55
                      clear c55
                      replace H := Option.bind_eq_some_iff.mp H
                      obtain ⟨t179, A560, H⟩ := H
                      replace H : ((label_Cut.f a0 1).bind fun t180 => (if t179.toList = t180.toList then (if t172 = 0 then (if t171.toList = a0.toList then (some false) else (some (t171.toList != t168.toList))) else (some true)) else (some false))) = some r := H
                      have A56 := Aside0.mk A560
                      clear A560
                      replace H := Option.bind_eq_some_iff.mp H
                      obtain ⟨t180, A570, H⟩ := H
                      replace H : (if t179.toList = t180.toList then (if t172 = 0 then (if t171.toList = a0.toList then (some false) else (some (t171.toList != t168.toList))) else (some true)) else (some false)) = some r := H
                      have A57 := Aside0.mk A570
                      clear A570
                      by_cases c58 : t179.toList = t180.toList
                      · rw [if_pos c58] at H
                        have c58b0 : (t179.toList == t180.toList) = true := beq_iff_eq.mpr c58
                        have c58b1 : (t179.toList != t180.toList) = false := bne_eq_false_iff_eq.mpr c58
                        clear c58
                        by_cases c59 : t172 = 0
                        · rw [if_pos c59] at H
                          have c59b0 : (t172 == 0) = true := beq_iff_eq.mpr c59
                          have c59b1 : (t172 != 0) = false := bne_eq_false_iff_eq.mpr c59
                          clear c59
                          by_cases c60 : t171.toList = a0.toList
                          · rw [if_pos c60] at H
                            have c60b0 : (t171.toList == a0.toList) = true := beq_iff_eq.mpr c60
                            have c60b1 : (t171.toList != a0.toList) = false := bne_eq_false_iff_eq.mpr c60
                            clear c60
                            obtain rfl := Option.some.inj H
                            exact absurd HRT.out (by decide)
                          · rw [if_neg c60] at H
                            have c60b0 : (t171.toList == a0.toList) = false := beq_eq_false_iff_ne.mpr c60
                            have c60b1 : (t171.toList != a0.toList) = true := bne_iff_ne.mpr c60
                            obtain rfl := Option.some.inj H
                            simp only [Option.some.injEq, Prod.mk.injEq] at H
                            obtain ⟨rfl⟩ := H
                            go_wp2_with (first | (go_at_call 13; (with_reducible refine (label_Next.calls a0 t168 t169 _ ?side1 A24.out).mono ?_); (case side1 => exact Tabs.below HT.out (by repeat (first | (with_reducible first | exact HB.out | apply below_alloc | apply pw_below_drewN | apply below_drew1) | exact HB.out))); rintro e w61 ⟨rfl, hb⟩; have n0_ := Aside0.mk (below_step (by repeat (first | (with_reducible first | exact HB.out | apply below_alloc | apply pw_below_drewN | apply below_drew1) | exact HB.out)) hb); clear HB; have HB := n0_; clear n0_; (try clear hb); (try clear hb2); (try clear hk); (try clear hi)) | (go_at_call 13; (with_reducible refine (label_Next.calls t168 t171 t172 _ ?side1 A26.out).mono ?_); (case side1 => exact Tabs.below HT.out (by repeat (first | (with_reducible first | exact HB.out | apply below_alloc | apply pw_below_drewN | apply below_drew1) | exact HB.out))); rintro e w62 ⟨rfl, hb⟩; have n0_ := Aside0.mk (below_step (by repeat (first | (with_reducible first | exact HB.out | apply below_alloc | apply pw_below_drewN | apply below_drew1) | exact HB.out)) hb); clear HB; have HB := n0_; clear n0_; (try clear hb); (try clear hb2); (try clear hk); (try clear hi)) | (go_at_call 17; (with_reducible refine (label_Signs.calls t168 t173 _ ?side1 A27.out).mono ?_); (case side1 => exact Tabs.below HT.out (by repeat (first | (with_reducible first | exact HB.out | apply below_alloc | apply pw_below_drewN | apply below_drew1) | exact HB.out))); rintro e w63 ⟨rfl, hb⟩; have n0_ := Aside0.mk (below_step (by repeat (first | (with_reducible first | exact HB.out | apply below_alloc | apply pw_below_drewN | apply below_drew1) | exact HB.out)) hb); clear HB; have HB := n0_; clear n0_; (try clear hb); (try clear hb2); (try clear hk); (try clear hi)) | (go_at_call 17; (with_reducible refine (label_Signs.calls a0 t174 _ ?side1 A28.out).mono ?_); (case side1 => exact Tabs.below HT.out (by repeat (first | (with_reducible first | exact HB.out | apply below_alloc | apply pw_below_drewN | apply below_drew1) | exact HB.out))); rintro e w64 ⟨rfl, hb⟩; have n0_ := Aside0.mk (below_step (by repeat (first | (with_reducible first | exact HB.out | apply below_alloc | apply pw_below_drewN | apply below_drew1) | exact HB.out)) hb); clear HB; have HB := n0_; clear n0_; (try clear hb); (try clear hb2); (try clear hk); (try clear hi)) | (go_at_call 15; (with_reducible refine (label_Right.calls t168 true _ ?side1 A52.out).mono ?_); (case side1 => exact Tabs.below HT.out (by repeat (first | (with_reducible first | exact HB.out | apply below_alloc | apply pw_below_drewN | apply below_drew1) | exact HB.out))); rintro e w65 ⟨rfl, hb⟩; have n0_ := Aside0.mk (below_step (by repeat (first | (with_reducible first | exact HB.out | apply below_alloc | apply pw_below_drewN | apply below_drew1) | exact HB.out)) hb); clear HB; have HB := n0_; clear n0_; (try clear hb); (try clear hb2); (try clear hk); (try clear hi)) | (go_at_call 18; (with_reducible refine (label_Cut.calls t168 1 t179 _ ?side1 A56.out).mono ?_); (case side1 => exact Tabs.below HT.out (by repeat (first | (with_reducible first | exact HB.out | apply below_alloc | apply pw_below_drewN | apply below_drew1) | exact HB.out))); rintro e w66 ⟨rfl, hb⟩; have n0_ := Aside0.mk (below_step (by repeat (first | (with_reducible first | exact HB.out | apply below_alloc | apply pw_below_drewN | apply below_drew1) | exact HB.out)) hb); clear HB; have HB := n0_; clear n0_; (try clear hb); (try clear hb2); (try clear hk); (try clear hi)) | (go_at_call 18; (with_reducible refine (label_Cut.calls a0 1 t180 _ ?side1 A57.out).mono ?_); (case side1 => exact Tabs.below HT.out (by repeat (first | (with_reducible first | exact HB.out | apply below_alloc | apply pw_below_drewN | apply below_drew1) | exact HB.out))); rintro e w67 ⟨rfl, hb⟩; have n0_ := Aside0.mk (below_step (by repeat (first | (with_reducible first | exact HB.out | apply below_alloc | apply pw_below_drewN | apply below_drew1) | exact HB.out)) hb); clear HB; have HB := n0_; clear n0_; (try clear hb); (try clear hb2); (try clear hk); (try clear hi)))
                            go_ret
                            exact ⟨by first | rfl | (simp [errW_none, errW_some] <;> rfl) | (simp [*, errW_none, errW_some] <;> rfl), by repeat (first | (with_reducible first | exact HB.out | apply below_alloc | apply pw_below_drewN | apply below_drew1) | exact HB.out)⟩
                        · rw [if_neg c59] at H
                          have c59b0 : (t172 == 0) = false := beq_eq_false_iff_ne.mpr c59
                          have c59b1 : (t172 != 0) = true := bne_iff_ne.mpr c59
                          obtain rfl := Option.some.inj H
                          simp only [Option.some.injEq, Prod.mk.injEq] at H
                          obtain ⟨rfl⟩ := H
                          go_wp2_with (first | (go_at_call 13; (with_reducible refine (label_Next.calls a0 t168 t169 _ ?side1 A24.out).mono ?_); (case side1 => exact Tabs.below HT.out (by repeat (first | (with_reducible first | exact HB.out | apply below_alloc | apply pw_below_drewN | apply below_drew1) | exact HB.out))); rintro e w68 ⟨rfl, hb⟩; have n0_ := Aside0.mk (below_step (by repeat (first | (with_reducible first | exact HB.out | apply below_alloc | apply pw_below_drewN | apply below_drew1) | exact HB.out)) hb); clear HB; have HB := n0_; clear n0_; (try clear hb); (try clear hb2); (try clear hk); (try clear hi)) | (go_at_call 13; (with_reducible refine (label_Next.calls t168 t171 t172 _ ?side1 A26.out).mono ?_); (case side1 => exact Tabs.below HT.out (by repeat (first | (with_reducible first | exact HB.out | apply below_alloc | apply pw_below_drewN | apply below_drew1) | exact HB.out))); rintro e w69 ⟨rfl, hb⟩; have n0_ := Aside0.mk (below_step (by repeat (first | (with_reducible first | exact HB.out | apply below_alloc | apply pw_below_drewN | apply below_drew1) | exact HB.out)) hb); clear HB; have HB := n0_; clear n0_; (try clear hb); (try clear hb2); (try clear hk); (try clear hi)) | (go_at_call 17; (with_reducible refine (label_Signs.calls t168 t173 _ ?side1 A27.out).mono ?_); (case side1 => exact Tabs.below HT.out (by repeat (first | (with_reducible first | exact HB.out | apply below_alloc | apply pw_below_drewN | apply below_drew1) | exact HB.out))); rintro e w70 ⟨rfl, hb⟩; have n0_ := Aside0.mk (below_step (by repeat (first | (with_reducible first | exact HB.out | apply below_alloc | apply pw_below_drewN | apply below_drew1) | exact HB.out)) hb); clear HB; have HB := n0_; clear n0_; (try clear hb); (try clear hb2); (try clear hk); (try clear hi)) | (go_at_call 17; (with_reducible refine (label_Signs.calls a0 t174 _ ?side1 A28.out).mono ?_); (case side1 => exact Tabs.below HT.out (by repeat (first | (with_reducible first | exact HB.out | apply below_alloc | apply pw_below_drewN | apply below_drew1) | exact HB.out))); rintro e w71 ⟨rfl, hb⟩; have n0_ := Aside0.mk (below_step (by repeat (first | (with_reducible first | exact HB.out | apply below_alloc | apply pw_below_drewN | apply below_drew1) | exact HB.out)) hb); clear HB; have HB := n0_; clear n0_; (try clear hb); (try clear hb2); (try clear hk); (try clear hi)) | (go_at_call 15; (with_reducible refine (label_Right.calls t168 true _ ?side1 A52.out).mono ?_); (case side1 => exact Tabs.below HT.out (by repeat (first | (with_reducible first | exact HB.out | apply below_alloc | apply pw_below_drewN | apply below_drew1) | exact HB.out))); rintro e w72 ⟨rfl, hb⟩; have n0_ := Aside0.mk (below_step (by repeat (first | (with_reducible first | exact HB.out | apply below_alloc | apply pw_below_drewN | apply below_drew1) | exact HB.out)) hb); clear HB; have HB := n0_; clear n0_; (try clear hb); (try clear hb2); (try clear hk); (try clear hi)) | (go_at_call 18; (with_reducible refine (label_Cut.calls t168 1 t179 _ ?side1 A56.out).mono ?_); (case side1 => exact Tabs.below HT.out (by repeat (first | (with_reducible first | exact HB.out | apply below_alloc | apply pw_below_drewN | apply below_drew1) | exact HB.out))); rintro e w73 ⟨rfl, hb⟩; have n0_ := Aside0.mk (below_step (by repeat (first | (with_reducible first | exact HB.out | apply below_alloc | apply pw_below_drewN | apply below_drew1) | exact HB.out)) hb); clear HB; have HB := n0_; clear n0_; (try clear hb); (try clear hb2); (try clear hk); (try clear hi)) | (go_at_call 18; (with_reducible refine (label_Cut.calls a0 1 t180 _ ?side1 A57.out).mono ?_); (case side1 => exact Tabs.below HT.out (by repeat (first | (with_reducible first | exact HB.out | apply below_alloc | apply pw_below_drewN | apply below_drew1) | exact HB.out))); rintro e w74 ⟨rfl, hb⟩; have n0_ := Aside0.mk (below_step (by repeat (first | (with_reducible first | exact HB.out | apply below_alloc | apply pw_below_drewN | apply below_drew1) | exact HB.out)) hb); clear HB; have HB := n0_; clear n0_; (try clear hb); (try clear hb2); (try clear hk); (try clear hi)))
                          go_ret
                          exact ⟨by first | rfl | (simp [errW_none, errW_some] <;> rfl) | (simp [*, errW_none, errW_some] <;> rfl), by repeat (first | (with_reducible first | exact HB.out | apply below_alloc | apply pw_below_drewN | apply below_drew1) | exact HB.out)⟩
                      · rw [if_neg c58] at H
                        have c58b0 : (t179.toList == t180.toList) = false := beq_eq_false_iff_ne.mpr c58
                        have c58b1 : (t179.toList != t180.toList) = true := bne_iff_ne.mpr c58
                        obtain rfl := Option.some.inj H
                        exact absurd HRT.out (by decide)
                    · rw [if_neg c55] at H
                      have c55b0 : ((wrap64 (t173 - t174)) == 1) = false := beq_eq_false_iff_ne.mpr c55
                      have c55b1 : ((wrap64 (t173 - t174)) != 1) = true := bne_iff_ne.mpr c55
                      obtain rfl := Option.some.inj H
                      exact absurd HRT.out (by decide)
                · replace c53 := Bool.eq_false_iff.mpr c53
                  subst c53
                  have H1 : (some false) = some r := by rw [if_neg (show ¬ (false = true) by decide)] at H; exact H
                  clear H
                  have H := H1
                  clear H1
                  obtain rfl := Option.some.inj H
                  exact absurd HRT.out (by decide)
            · rw [if_neg c25] at H
              have c25b0 : (t169 == 0) = false := beq_eq_false_iff_ne.mpr c25
              have c25b1 : (t169 != 0) = true := bne_iff_ne.mpr c25
              by_cases c75 : t168.toList = ([] : List UInt8)
              · rw [if_pos c75] at H
                have c75b0 : (t168.toList == ([] : List UInt8)) = true := beq_iff_eq.mpr c75
                have c75b1 : (t168.toList != ([] : List UInt8)) = false := bne_eq_false_iff_eq.mpr c75
                clear c75
                replace H := Option.bind_eq_some_iff.mp H
                obtain ⟨t170, A760, H⟩ := H
                replace H : (some (t170 == 16)) = some r := H
                have A76 := Aside0.mk A760
                clear A760
                obtain rfl := Option.some.inj H
                simp only [Option.some.injEq, Prod.mk.injEq] at H
                obtain ⟨rfl⟩ := H
                go_wp2_with (first | (go_at_call 13; (with_reducible refine (label_Next.calls a0 t168 t169 _ ?side1 A24.out).mono ?_); (case side1 => exact Tabs.below HT.out (by repeat (first | (with_reducible first | exact HB.out | apply below_alloc | apply pw_below_drewN | apply below_drew1) | exact HB.out))); rintro e w77 ⟨rfl, hb⟩; have n0_ := Aside0.mk (below_step (by repeat (first | (with_reducible first | exact HB.out | apply below_alloc | apply pw_below_drewN | apply below_drew1) | exact HB.out)) hb); clear HB; have HB := n0_; clear n0_; (try clear hb); (try clear hb2); (try clear hk); (try clear hi)) | (go_at_call 17; (with_reducible refine (label_Signs.calls a0 t170 _ ?side1 A76.out).mono ?_); (case side1 => exact Tabs.below HT.out (by repeat (first | (with_reducible first | exact HB.out | apply below_alloc | apply pw_below_drewN | apply below_drew1) | exact HB.out))); rintro e w78 ⟨rfl, hb⟩; have n0_ := Aside0.mk (below_step (by repeat (first | (with_reducible first | exact HB.out | apply below_alloc | apply pw_below_drewN | apply below_drew1) | exact HB.out)) hb); clear HB; have HB := n0_; clear n0_; (try clear hb); (try clear hb2); (try clear hk); (try clear hi)))
                go_ret
                exact ⟨by first | rfl | (simp [errW_none, errW_some] <;> rfl) | (simp [*, errW_none, errW_some] <;> rfl), by repeat (first | (with_reducible first | exact HB.out | apply below_alloc | apply pw_below_drewN | apply below_drew1) | exact HB.out)⟩
              · rw [if_neg c75] at H
                have c75b0 : (t168.toList == ([] : List UInt8)) = false := beq_eq_false_iff_ne.mpr c75
                have c75b1 : (t168.toList != ([] : List UInt8)) = true := bne_iff_ne.mpr c75
                obtain rfl := Option.some.inj H
                exact absurd HRT.out (by decide)
    · replace c6 := Bool.eq_false_iff.mpr c6
      subst c6
      have H1 : (some true) = some r := by rw [if_neg (show ¬ (false = true) by decide)] at H; exact H
      clear H
      have H := H1
      clear H1
      obtain rfl := Option.some.inj H
      simp only [Option.some.injEq, Prod.mk.injEq] at H
      obtain ⟨rfl⟩ := H
      go_enter Tryd.func5, Tryd.ntmps5
      go_wp2_with (first | (go_at_call 9; (with_reducible refine (packhorselaw01_labelAlive.calls  true _ ?side1 A3.out rfl).mono ?_); (case side1 => exact Tabs.below HT.out (by repeat (first | (with_reducible first | exact HB.out | apply below_alloc | apply pw_below_drewN | apply below_drew1) | exact HB.out))); rintro e w79 ⟨rfl, hb⟩; have n0_ := Aside0.mk (below_step (by repeat (first | (with_reducible first | exact HB.out | apply below_alloc | apply pw_below_drewN | apply below_drew1) | exact HB.out)) hb); clear HB; have HB := n0_; clear n0_; (try clear hb); (try clear hb2); (try clear hk); (try clear hi)) | (go_at_call 15; (with_reducible refine (label_Right.calls a0 false _ ?side1 A5.out).mono ?_); (case side1 => exact Tabs.below HT.out (by repeat (first | (with_reducible first | exact HB.out | apply below_alloc | apply pw_below_drewN | apply below_drew1) | exact HB.out))); rintro e w80 ⟨rfl, hb⟩; have n0_ := Aside0.mk (below_step (by repeat (first | (with_reducible first | exact HB.out | apply below_alloc | apply pw_below_drewN | apply below_drew1) | exact HB.out)) hb); clear HB; have HB := n0_; clear n0_; (try clear hb); (try clear hb2); (try clear hk); (try clear hi)))
      go_ret
      exact ⟨by first | rfl | (simp [errW_none, errW_some] <;> rfl) | (simp [*, errW_none, errW_some] <;> rfl), by repeat (first | (with_reducible first | exact HB.out | apply below_alloc | apply pw_below_drewN | apply below_drew1) | exact HB.out)⟩
  · replace c4 := Bool.eq_false_iff.mpr c4
    subst c4
    have H1 : (some false) = some r := by rw [if_neg (show ¬ (false = true) by decide)] at H; exact H
    clear H
    have H := H1
    clear H1
    obtain rfl := Option.some.inj H
    exact absurd HRT.out (by decide)

end Go.Proofs.YtdifpehainbkmaaDoor.PAll
