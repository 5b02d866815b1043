-- Made by a program of this session (wip/gen)
import Derived.Test.YtdifpehainbkmaaDoorPAllx0
import Derived.Test.YtdifpehainbkmaaDoorPAllx2
import Derived.Test.YtdifpehainbkmaaDoorPAllx5
namespace Go.Proofs.YtdifpehainbkmaaDoor.PAll
open Go.RowKit Go.Proofs.YtdifpehainbkmaaDoorW.PrintWords Go.Proofs.YtdifpehainbkmaaDoorW.PrintLast Go.Proofs.YtdifpehainbkmaaDoorW.PrintMore
attribute [local go_sem] max2_int min2_int max_two min_two max_three min_three max_four min_four   -- for this text's walks alone
set_option linter.unusedVariables false
set_option linter.unusedSimpArgs false

/-! ### packhorselaw01_labelAlive: function 9 -/
def packhorselaw01_labelAlive.f  : Option (Bool) := (label_Next.f (⟨#[98, 111, 120, 57]⟩ : ByteArray)).bind fun bt121 => ((label_Next.f (⟨#[98, 111, 120]⟩ : ByteArray)).bind fun bt123 => (if bt121.1.toList = ([98, 111, 120, 49, 48] : List UInt8) then (if bt121.2 = 0 then (if bt123.1.toList = ([98, 111, 120, 48] : List UInt8) then (if bt123.2 = 0 then ((label_Right.f (⟨#[206, 177, 206, 178, 45, 55]⟩ : ByteArray)).bind fun t125 => (if t125 = true then ((label_Right.f (⟨#[55]⟩ : ByteArray)).bind fun t126 => (some (!t126))) else (some false))) else (some false)) else (some false)) else (some false)) else (some false)))
set_option maxHeartbeats 8000000 in
set_option maxRecDepth 100000 in
theorem packhorselaw01_labelAlive.calls  (r : Bool) (w : World) (hT : Tabs w) (h : packhorselaw01_labelAlive.f  = some r) (hr_ : r = true) :
    Calls Tryd.prog 9 #[] w fun e w' => e = .returned (.bool r) ∧ Below w.heap.size w w' := by
  have HRT := Aside0.mk hr_
  clear hr_
  have HT := Aside0.mk hT
  clear hT
  have HB := Aside0.mk (Below.refl w.heap.size w)
  have H : ((label_Next.f (⟨#[98, 111, 120, 57]⟩ : ByteArray)).bind fun bt121 => ((label_Next.f (⟨#[98, 111, 120]⟩ : ByteArray)).bind fun bt123 => (if bt121.1.toList = ([98, 111, 120, 49, 48] : List UInt8) then (if bt121.2 = 0 then (if bt123.1.toList = ([98, 111, 120, 48] : List UInt8) then (if bt123.2 = 0 then ((label_Right.f (⟨#[206, 177, 206, 178, 45, 55]⟩ : ByteArray)).bind fun t125 => (if t125 = true then ((label_Right.f (⟨#[55]⟩ : ByteArray)).bind fun t126 => (some (!t126))) else (some false))) else (some false)) else (some false)) else (some false)) else (some false)))) = some r := h
  clear h
  replace H := Option.bind_eq_some_iff.mp H
  obtain ⟨⟨t121, t122⟩, A10, H⟩ := H
  replace H : ((label_Next.f (⟨#[98, 111, 120]⟩ : ByteArray)).bind fun bt123 => (if t121.toList = ([98, 111, 120, 49, 48] : List UInt8) then (if t122 = 0 then (if bt123.1.toList = ([98, 111, 120, 48] : List UInt8) then (if bt123.2 = 0 then ((label_Right.f (⟨#[206, 177, 206, 178, 45, 55]⟩ : ByteArray)).bind fun t125 => (if t125 = true then ((label_Right.f (⟨#[55]⟩ : ByteArray)).bind fun t126 => (some (!t126))) else (some false))) else (some false)) else (some false)) else (some false)) else (some false))) = some r := H
  have A1 := Aside0.mk A10
  clear A10
  replace H := Option.bind_eq_some_iff.mp H
  obtain ⟨⟨t123, t124⟩, A20, H⟩ := H
  replace H : (if t121.toList = ([98, 111, 120, 49, 48] : List UInt8) then (if t122 = 0 then (if t123.toList = ([98, 111, 120, 48] : List UInt8) then (if t124 = 0 then ((label_Right.f (⟨#[206, 177, 206, 178, 45, 55]⟩ : ByteArray)).bind fun t125 => (if t125 = true then ((label_Right.f (⟨#[55]⟩ : ByteArray)).bind fun t126 => (some (!t126))) else (some false))) else (some false)) else (some false)) else (some false)) else (some false)) = some r := H
  have A2 := Aside0.mk A20
  clear A20
  by_cases c3 : t121.toList = ([98, 111, 120, 49, 48] : List UInt8)
  · rw [if_pos c3] at H
    have c3b0 : (t121.toList == ([98, 111, 120, 49, 48] : List UInt8)) = true := beq_iff_eq.mpr c3
    have c3b1 : (t121.toList != ([98, 111, 120, 49, 48] : List UInt8)) = false := bne_eq_false_iff_eq.mpr c3
    clear c3
    by_cases c4 : t122 = 0
    · rw [if_pos c4] at H
      have c4b0 : (t122 == 0) = true := beq_iff_eq.mpr c4
      have c4b1 : (t122 != 0) = false := bne_eq_false_iff_eq.mpr c4
      clear c4
      by_cases c5 : t123.toList = ([98, 111, 120, 48] : List UInt8)
      · rw [if_pos c5] at H
        have c5b0 : (t123.toList == ([98, 111, 120, 48] : List UInt8)) = true := beq_iff_eq.mpr c5
        have c5b1 : (t123.toList != ([98, 111, 120, 48] : List UInt8)) = false := bne_eq_false_iff_eq.mpr c5
        clear c5
        by_cases c6 : t124 = 0
        · rw [if_pos c6] at H
          have c6b0 : (t124 == 0) = true := beq_iff_eq.mpr c6
          have c6b1 : (t124 != 0) = false := bne_eq_false_iff_eq.mpr c6
          clear c6
          replace H := Option.bind_eq_some_iff.mp H
          obtain ⟨t125, A70, H⟩ := H
          replace H : (if t125 = true then ((label_Right.f (⟨#[55]⟩ : ByteArray)).bind fun t126 => (some (!t126))) else (some false)) = some r := H
          have A7 := Aside0.mk A70
          clear A70
          by_cases c8 : t125 = true
          · subst c8
            have H1 : ((label_Right.f (⟨#[55]⟩ : ByteArray)).bind fun t126 => (some (!t126))) = some r := by rw [if_pos rfl] at H; exact H
            clear H
            have H := H1
            clear H1
            replace H := Option.bind_eq_some_iff.mp H
            obtain ⟨t126, A90, H⟩ := H
            replace H : (some (!t126)) = some r := H
            have A9 := Aside0.mk A90
            clear A90
            obtain rfl := Option.some.inj H
            simp only [Option.some.injEq, Prod.mk.injEq] at H
            obtain ⟨rfl⟩ := H
            go_enter Tryd.func9, Tryd.ntmps9
            go_wp2_with (first | (go_at_call 13; (with_reducible refine (label_Next.calls (⟨#[98, 111, 120, 57]⟩ : ByteArray) t121 t122 _ ?side1 A1.out).mono ?_); (case side1 => exact Tabs.below HT.out (by repeat (first | (with_reducible first | exact HB.out | apply below_alloc | apply pw_below_drewN | apply below_drew1) | exact HB.out))); rintro e w10 ⟨rfl, hb⟩; have n0_ := Aside0.mk (below_step (by repeat (first | (with_reducible first | exact HB.out | apply below_alloc | apply pw_below_drewN | apply below_drew1) | exact HB.out)) hb); clear HB; have HB := n0_; clear n0_; (try clear hb); (try clear hb2); (try clear hk); (try clear hi)) | (go_at_call 13; (with_reducible refine (label_Next.calls (⟨#[98, 111, 120]⟩ : ByteArray) t123 t124 _ ?side1 A2.out).mono ?_); (case side1 => exact Tabs.below HT.out (by repeat (first | (with_reducible first | exact HB.out | apply below_alloc | apply pw_below_drewN | apply below_drew1) | exact HB.out))); rintro e w11 ⟨rfl, hb⟩; have n0_ := Aside0.mk (below_step (by repeat (first | (with_reducible first | exact HB.out | apply below_alloc | apply pw_below_drewN | apply below_drew1) | exact HB.out)) hb); clear HB; have HB := n0_; clear n0_; (try clear hb); (try clear hb2); (try clear hk); (try clear hi)) | (go_at_call 15; (with_reducible refine (label_Right.calls (⟨#[206, 177, 206, 178, 45, 55]⟩ : ByteArray) true _ ?side1 A7.out).mono ?_); (case side1 => exact Tabs.below HT.out (by repeat (first | (with_reducible first | exact HB.out | apply below_alloc | apply pw_below_drewN | apply below_drew1) | exact HB.out))); rintro e w12 ⟨rfl, hb⟩; have n0_ := Aside0.mk (below_step (by repeat (first | (with_reducible first | exact HB.out | apply below_alloc | apply pw_below_drewN | apply below_drew1) | exact HB.out)) hb); clear HB; have HB := n0_; clear n0_; (try clear hb); (try clear hb2); (try clear hk); (try clear hi)) | (go_at_call 15; (with_reducible refine (label_Right.calls (⟨#[55]⟩ : ByteArray) t126 _ ?side1 A9.out).mono ?_); (case side1 => exact Tabs.below HT.out (by repeat (first | (with_reducible first | exact HB.out | apply below_alloc | apply pw_below_drewN | apply below_drew1) | exact HB.out))); rintro e w13 ⟨rfl, hb⟩; have n0_ := Aside0.mk (below_step (by repeat (first | (with_reducible first | exact HB.out | apply below_alloc | apply pw_below_drewN | apply below_drew1) | exact HB.out)) hb); clear HB; have HB := n0_; clear n0_; (try clear hb); (try clear hb2); (try clear hk); (try clear hi)))
            go_ret
            exact ⟨by first | rfl | (simp [errW_none, errW_some] <;> rfl) | (simp [*, errW_none, errW_some] <;> rfl), by repeat (first | (with_reducible first | exact HB.out | apply below_alloc | apply pw_below_drewN | apply below_drew1) | exact HB.out)⟩
          · replace c8 := Bool.eq_false_iff.mpr c8
            subst c8
            have H1 : (some false) = some r := by rw [if_neg (show ¬ (false = true) by decide)] at H; exact H
            clear H
            have H := H1
            clear H1
            obtain rfl := Option.some.inj H
            exact absurd HRT.out (by decide)
        · rw [if_neg c6] at H
          have c6b0 : (t124 == 0) = false := beq_eq_false_iff_ne.mpr c6
          have c6b1 : (t124 != 0) = true := bne_iff_ne.mpr c6
          obtain rfl := Option.some.inj H
          exact absurd HRT.out (by decide)
      · rw [if_neg c5] at H
        have c5b0 : (t123.toList == ([98, 111, 120, 48] : List UInt8)) = false := beq_eq_false_iff_ne.mpr c5
        have c5b1 : (t123.toList != ([98, 111, 120, 48] : List UInt8)) = true := bne_iff_ne.mpr c5
        obtain rfl := Option.some.inj H
        exact absurd HRT.out (by decide)
    · rw [if_neg c4] at H
      have c4b0 : (t122 == 0) = false := beq_eq_false_iff_ne.mpr c4
      have c4b1 : (t122 != 0) = true := bne_iff_ne.mpr c4
      obtain rfl := Option.some.inj H
      exact absurd HRT.out (by decide)
  · rw [if_neg c3] at H
    have c3b0 : (t121.toList == ([98, 111, 120, 49, 48] : List UInt8)) = false := beq_eq_false_iff_ne.mpr c3
    have c3b1 : (t121.toList != ([98, 111, 120, 49, 48] : List UInt8)) = true := bne_iff_ne.mpr c3
    obtain rfl := Option.some.inj H
    exact absurd HRT.out (by decide)

end Go.Proofs.YtdifpehainbkmaaDoor.PAll
