-- Made by a program of this session (wip/gen)
import Derived.Test.YtdifpehainbkmaaDoorPAllx0
import Derived.Test.YtdifpehainbkmaaDoorPAllx6
import Derived.Test.YtdifpehainbkmaaDoorPAllx13
import Derived.Test.YtdifpehainbkmaaDoorPAllx14
namespace Go.Proofs.YtdifpehainbkmaaDoor.PAll
open Go.RowKit Go.Proofs.YtdifpehainbkmaaDoorW.PrintWords Go.Proofs.YtdifpehainbkmaaDoorW.PrintLast Go.Proofs.YtdifpehainbkmaaDoorW.PrintMore
attribute [local go_sem] max2_int min2_int max_two min_two max_three min_three max_four min_four   -- for this text's walks alone
set_option linter.unusedVariables false
set_option linter.unusedSimpArgs false

/-! ### packhorselaw01_LabelOrders: function 3 -/
def packhorselaw01_LabelOrders.f (k : Nat) (a0 : ByteArray) (a1 : ByteArray) (a2 : ByteArray) : Option (Bool) := (packhorselaw01_labelAlive.f).bind fun t182 => (if t182 = true then ((label_Compare.f a0 a1).bind fun t183 => ((label_Compare.f a1 a2).bind fun t184 => ((label_Compare.f a0 a2).bind fun t185 => ((packhorseref01_Compare.f k a0 a1).bind fun t186 => (if t183 = t186 then ((label_Compare.f a1 a0).bind fun t187 => (if t187 = (wrap64 (-t183)) then (if t183 > 0 then (some ((t183 == 0) == (a0.toList == a1.toList))) else (if t184 > 0 then (some ((t183 == 0) == (a0.toList == a1.toList))) else (if t185 ≤ 0 then (some ((t183 == 0) == (a0.toList == a1.toList))) else (some false)))) else (some false))) else (some false)))))) else (some false))
theorem packhorselaw01_LabelOrders.mono : ∀ a0 a1 a2 k, LeO (packhorselaw01_LabelOrders.f k a0 a1 a2) (packhorselaw01_LabelOrders.f (k + 1) a0 a1 a2) := by
  intro a0 a1 a2 k
  unfold packhorselaw01_LabelOrders.f
  repeat' first
      | (with_reducible exact packhorseref01_Compare.mono _ _ _)
      | (with_reducible exact LeO.refl _)
      | (with_reducible exact LeO.none _)
      | (with_reducible refine LeO.ite ?_ ?_)
      | (with_reducible refine LeO.bind ?_ (fun _ => ?_))
      | exact packhorseref01_Compare.mono _ _ _
      | exact LeO.none _
      | refine LeO.ite ?_ ?_
      | refine LeO.bind ?_ (fun _ => ?_)
set_option maxHeartbeats 8000000 in
set_option maxRecDepth 100000 in
theorem packhorselaw01_LabelOrders.calls (k : Nat) (a0 : ByteArray) (a1 : ByteArray) (a2 : ByteArray) (r : Bool) (w : World) (hT : Tabs w) (h : packhorselaw01_LabelOrders.f k a0 a1 a2 = some r) (hr_ : r = true) :
    Calls Tryd.prog 3 #[.string a0, .string a1, .string a2] w fun e w' => e = .returned (.bool r) ∧ Below w.heap.size w w' := by
  have HRT := Aside0.mk hr_
  clear hr_
  have HT := Aside0.mk hT
  clear hT
  have HB := Aside0.mk (Below.refl w.heap.size w)
  have H : ((packhorselaw01_labelAlive.f).bind fun t182 => (if t182 = true then ((label_Compare.f a0 a1).bind fun t183 => ((label_Compare.f a1 a2).bind fun t184 => ((label_Compare.f a0 a2).bind fun t185 => ((packhorseref01_Compare.f k a0 a1).bind fun t186 => (if t183 = t186 then ((label_Compare.f a1 a0).bind fun t187 => (if t187 = (wrap64 (-t183)) then (if t183 > 0 then (some ((t183 == 0) == (a0.toList == a1.toList))) else (if t184 > 0 then (some ((t183 == 0) == (a0.toList == a1.toList))) else (if t185 ≤ 0 then (some ((t183 == 0) == (a0.toList == a1.toList))) else (some false)))) else (some false))) else (some false)))))) else (some false))) = some r := h
  clear h
  replace H := Option.bind_eq_some_iff.mp H
  obtain ⟨t182, A40, H⟩ := H
  replace H : (if t182 = true then ((label_Compare.f a0 a1).bind fun t183 => ((label_Compare.f a1 a2).bind fun t184 => ((label_Compare.f a0 a2).bind fun t185 => ((packhorseref01_Compare.f k a0 a1).bind fun t186 => (if t183 = t186 then ((label_Compare.f a1 a0).bind fun t187 => (if t187 = (wrap64 (-t183)) then (if t183 > 0 then (some ((t183 == 0) == (a0.toList == a1.toList))) else (if t184 > 0 then (some ((t183 == 0) == (a0.toList == a1.toList))) else (if t185 ≤ 0 then (some ((t183 == 0) == (a0.toList == a1.toList))) else (some false)))) else (some false))) else (some false)))))) else (some false)) = some r := H
  have A4 := Aside0.mk A40
  clear A40
  by_cases c5 : t182 = true
  · subst c5
    have H1 : ((label_Compare.f a0 a1).bind fun t183 => ((label_Compare.f a1 a2).bind fun t184 => ((label_Compare.f a0 a2).bind fun t185 => ((packhorseref01_Compare.f k a0 a1).bind fun t186 => (if t183 = t186 then ((label_Compare.f a1 a0).bind fun t187 => (if t187 = (wrap64 (-t183)) then (if t183 > 0 then (some ((t183 == 0) == (a0.toList == a1.toList))) else (if t184 > 0 then (some ((t183 == 0) == (a0.toList == a1.toList))) else (if t185 ≤ 0 then (some ((t183 == 0) == (a0.toList == a1.toList))) else (some false)))) else (some false))) else (some false)))))) = some r := by rw [if_pos rfl] at H; exact H
    clear H
    have H := H1
    clear H1
    replace H := Option.bind_eq_some_iff.mp H
    obtain ⟨t183, A60, H⟩ := H
    replace H : ((label_Compare.f a1 a2).bind fun t184 => ((label_Compare.f a0 a2).bind fun t185 => ((packhorseref01_Compare.f k a0 a1).bind fun t186 => (if t183 = t186 then ((label_Compare.f a1 a0).bind fun t187 => (if t187 = (wrap64 (-t183)) then (if t183 > 0 then (some ((t183 == 0) == (a0.toList == a1.toList))) else (if t184 > 0 then (some ((t183 == 0) == (a0.toList == a1.toList))) else (if t185 ≤ 0 then (some ((t183 == 0) == (a0.toList == a1.toList))) else (some false)))) else (some false))) else (some false))))) = some r := H
    have A6 := Aside0.mk A60
    clear A60
    replace H := Option.bind_eq_some_iff.mp H
    obtain ⟨t184, A70, H⟩ := H
    replace H : ((label_Compare.f a0 a2).bind fun t185 => ((packhorseref01_Compare.f k a0 a1).bind fun t186 => (if t183 = t186 then ((label_Compare.f a1 a0).bind fun t187 => (if t187 = (wrap64 (-t183)) then (if t183 > 0 then (some ((t183 == 0) == (a0.toList == a1.toList))) else (if t184 > 0 then (some ((t183 == 0) == (a0.toList == a1.toList))) else (if t185 ≤ 0 then (some ((t183 == 0) == (a0.toList == a1.toList))) else (some false)))) else (some false))) else (some false)))) = some r := H
    have A7 := Aside0.mk A70
    clear A70
    replace H := Option.bind_eq_some_iff.mp H
    obtain ⟨t185, A80, H⟩ := H
    replace H : ((packhorseref01_Compare.f k a0 a1).bind fun t186 => (if t183 = t186 then ((label_Compare.f a1 a0).bind fun t187 => (if t187 = (wrap64 (-t183)) then (if t183 > 0 then (some ((t183 == 0) == (a0.toList == a1.toList))) else (if t184 > 0 then (some ((t183 == 0) == (a0.toList == a1.toList))) else (if t185 ≤ 0 then (some ((t183 == 0) == (a0.toList == a1.toList))) else (some false)))) else (some false))) else (some false))) = some r := H
    have A8 := Aside0.mk A80
    clear A80
    replace H := Option.bind_eq_some_iff.mp H
    obtain ⟨t186, A90, H⟩ := H
    replace H : (if t183 = t186 then ((label_Compare.f a1 a0).bind fun t187 => (if t187 = (wrap64 (-t183)) then (if t183 > 0 then (some ((t183 == 0) == (a0.toList == a1.toList))) else (if t184 > 0 then (some ((t183 == 0) == (a0.toList == a1.toList))) else (if t185 ≤ 0 then (some ((t183 == 0) == (a0.toList == a1.toList))) else (some false)))) else (some false))) else (some false)) = some r := H
    have A9 := Aside0.mk A90
    clear A90
    by_cases c10 : t183 = t186
    · rw [if_pos c10] at H
      have c10b0 : (t183 == t186) = true := beq_iff_eq.mpr c10
      have c10b1 : (t183 != t186) = false := bne_eq_false_iff_eq.mpr c10
      clear c10
      replace H := Option.bind_eq_some_iff.mp H
      obtain ⟨t187, A110, H⟩ := H
      replace H : (if t187 = (wrap64 (-t183)) then (if t183 > 0 then (some ((t183 == 0) == (a0.toList == a1.toList))) else (if t184 > 0 then (some ((t183 == 0) == (a0.toList == a1.toList))) else (if t185 ≤ 0 then (some ((t183 == 0) == (a0.toList == a1.toList))) else (some false)))) else (some false)) = some r := H
      have A11 := Aside0.mk A110
      clear A110
      by_cases c12 : t187 = (wrap64 (-t183))
      · rw [if_pos c12] at H
        have c12b0 : (t187 == (wrap64 (-t183))) = true := beq_iff_eq.mpr c12
        have c12b1 : (t187 != (wrap64 (-t183))) = false := bne_eq_false_iff_eq.mpr c12
        clear c12
        by_cases c13 : t183 > 0
        · rw [if_pos c13] at H
          have c13b0 : decide (0 < t183) = true := decide_eq_true c13
          clear c13
          obtain rfl := Option.some.inj H
          simp only [Option.some.injEq, Prod.mk.injEq] at H
          obtain ⟨rfl⟩ := H
          go_enter Tryd.func3, Tryd.ntmps3
          go_wp2_with (first | (go_at_call 9; (with_reducible refine (packhorselaw01_labelAlive.calls  true _ ?side1 A4.out rfl).mono ?_); (case side1 => exact Tabs.below HT.out (by repeat (first | (with_reducible first | exact HB.out | apply below_alloc | apply pw_below_drewN | apply below_drew1) | exact HB.out))); rintro e w14 ⟨rfl, hb⟩; have n0_ := Aside0.mk (below_step (by repeat (first | (with_reducible first | exact HB.out | apply below_alloc | apply pw_below_drewN | apply below_drew1) | exact HB.out)) hb); clear HB; have HB := n0_; clear n0_; (try clear hb); (try clear hb2); (try clear hk); (try clear hi)) | (go_at_call 10; (with_reducible refine (label_Compare.calls a0 a1 t183 _ A6.out).mono ?_); rintro e w' ⟨rfl, ⟨nd, rfl⟩⟩) | (go_at_call 10; (with_reducible refine (label_Compare.calls a1 a2 t184 _ A7.out).mono ?_); rintro e w' ⟨rfl, ⟨nd, rfl⟩⟩) | (go_at_call 10; (with_reducible refine (label_Compare.calls a0 a2 t185 _ A8.out).mono ?_); rintro e w' ⟨rfl, ⟨nd, rfl⟩⟩) | (go_at_call 11; (with_reducible refine (packhorseref01_Compare.calls k a0 a1 t186 _ A9.out).mono ?_); rintro e w' ⟨rfl, ⟨nd, rfl⟩⟩) | (go_at_call 10; (with_reducible refine (label_Compare.calls a1 a0 t187 _ A11.out).mono ?_); rintro e w' ⟨rfl, ⟨nd, rfl⟩⟩))
          go_ret
          exact ⟨by first | rfl | (simp [errW_none, errW_some] <;> rfl) | (simp [*, errW_none, errW_some] <;> rfl), by repeat (first | (with_reducible first | exact HB.out | apply below_alloc | apply pw_below_drewN | apply below_drew1) | exact HB.out)⟩
        · rw [if_neg c13] at H
          have c13b0 : decide (0 < t183) = false := decide_eq_false c13
          clear c13
          by_cases c15 : t184 > 0
          · rw [if_pos c15] at H
            have c15b0 : decide (0 < t184) = true := decide_eq_true c15
            clear c15
            obtain rfl := Option.some.inj H
            simp only [Option.some.injEq, Prod.mk.injEq] at H
            obtain ⟨rfl⟩ := H
            go_enter Tryd.func3, Tryd.ntmps3
            go_wp2_with (first | (go_at_call 9; (with_reducible refine (packhorselaw01_labelAlive.calls  true _ ?side1 A4.out rfl).mono ?_); (case side1 => exact Tabs.below HT.out (by repeat (first | (with_reducible first | exact HB.out | apply below_alloc | apply pw_below_drewN | apply below_drew1) | exact HB.out))); rintro e w16 ⟨rfl, hb⟩; have n0_ := Aside0.mk (below_step (by repeat (first | (with_reducible first | exact HB.out | apply below_alloc | apply pw_below_drewN | apply below_drew1) | exact HB.out)) hb); clear HB; have HB := n0_; clear n0_; (try clear hb); (try clear hb2); (try clear hk); (try clear hi)) | (go_at_call 10; (with_reducible refine (label_Compare.calls a0 a1 t183 _ A6.out).mono ?_); rintro e w' ⟨rfl, ⟨nd, rfl⟩⟩) | (go_at_call 10; (with_reducible refine (label_Compare.calls a1 a2 t184 _ A7.out).mono ?_); rintro e w' ⟨rfl, ⟨nd, rfl⟩⟩) | (go_at_call 10; (with_reducible refine (label_Compare.calls a0 a2 t185 _ A8.out).mono ?_); rintro e w' ⟨rfl, ⟨nd, rfl⟩⟩) | (go_at_call 11; (with_reducible refine (packhorseref01_Compare.calls k a0 a1 t186 _ A9.out).mono ?_); rintro e w' ⟨rfl, ⟨nd, rfl⟩⟩) | (go_at_call 10; (with_reducible refine (label_Compare.calls a1 a0 t187 _ A11.out).mono ?_); rintro e w' ⟨rfl, ⟨nd, rfl⟩⟩))
            go_ret
            exact ⟨by first | rfl | (simp [errW_none, errW_some] <;> rfl) | (simp [*, errW_none, errW_some] <;> rfl), by repeat (first | (with_reducible first | exact HB.out | apply below_alloc | apply pw_below_drewN | apply below_drew1) | exact HB.out)⟩
          · rw [if_neg c15] at H
            have c15b0 : decide (0 < t184) = false := decide_eq_false c15
            clear c15
            by_cases c17 : t185 ≤ 0
            · rw [if_pos c17] at H
              have c17b0 : decide (t185 ≤ 0) = true := decide_eq_true c17
              clear c17
              obtain rfl := Option.some.inj H
              simp only [Option.some.injEq, Prod.mk.injEq] at H
              obtain ⟨rfl⟩ := H
              go_enter Tryd.func3, Tryd.ntmps3
              go_wp2_with (first | (go_at_call 9; (with_reducible refine (packhorselaw01_labelAlive.calls  true _ ?side1 A4.out rfl).mono ?_); (case side1 => exact Tabs.below HT.out (by repeat (first | (with_reducible first | exact HB.out | apply below_alloc | apply pw_below_drewN | apply below_drew1) | exact HB.out))); rintro e w18 ⟨rfl, hb⟩; have n0_ := Aside0.mk (below_step (by repeat (first | (with_reducible first | exact HB.out | apply below_alloc | apply pw_below_drewN | apply below_drew1) | exact HB.out)) hb); clear HB; have HB := n0_; clear n0_; (try clear hb); (try clear hb2); (try clear hk); (try clear hi)) | (go_at_call 10; (with_reducible refine (label_Compare.calls a0 a1 t183 _ A6.out).mono ?_); rintro e w' ⟨rfl, ⟨nd, rfl⟩⟩) | (go_at_call 10; (with_reducible refine (label_Compare.calls a1 a2 t184 _ A7.out).mono ?_); rintro e w' ⟨rfl, ⟨nd, rfl⟩⟩) | (go_at_call 10; (with_reducible refine (label_Compare.calls a0 a2 t185 _ A8.out).mono ?_); rintro e w' ⟨rfl, ⟨nd, rfl⟩⟩) | (go_at_call 11; (with_reducible refine (packhorseref01_Compare.calls k a0 a1 t186 _ A9.out).mono ?_); rintro e w' ⟨rfl, ⟨nd, rfl⟩⟩) | (go_at_call 10; (with_reducible refine (label_Compare.calls a1 a0 t187 _ A11.out).mono ?_); rintro e w' ⟨rfl, ⟨nd, rfl⟩⟩))
              go_ret
              exact ⟨by first | rfl | (simp [errW_none, errW_some] <;> rfl) | (simp [*, errW_none, errW_some] <;> rfl), by repeat (first | (with_reducible first | exact HB.out | apply below_alloc | apply pw_below_drewN | apply below_drew1) | exact HB.out)⟩
            · rw [if_neg c17] at H
              have c17b0 : decide (t185 ≤ 0) = false := decide_eq_false c17
              clear c17
              obtain rfl := Option.some.inj H
              exact absurd HRT.out (by decide)
      · rw [if_neg c12] at H
        have c12b0 : (t187 == (wrap64 (-t183))) = false := beq_eq_false_iff_ne.mpr c12
        have c12b1 : (t187 != (wrap64 (-t183))) = true := bne_iff_ne.mpr c12
        obtain rfl := Option.some.inj H
        exact absurd HRT.out (by decide)
    · rw [if_neg c10] at H
      have c10b0 : (t183 == t186) = false := beq_eq_false_iff_ne.mpr c10
      have c10b1 : (t183 != t186) = true := bne_iff_ne.mpr c10
      obtain rfl := Option.some.inj H
      exact absurd HRT.out (by decide)
  · replace c5 := Bool.eq_false_iff.mpr c5
    subst c5
    have H1 : (some false) = some r := by rw [if_neg (show ¬ (false = true) by decide)] at H; exact H
    clear H
    have H := H1
    clear H1
    obtain rfl := Option.some.inj H
    exact absurd HRT.out (by decide)

end Go.Proofs.YtdifpehainbkmaaDoor.PAll
