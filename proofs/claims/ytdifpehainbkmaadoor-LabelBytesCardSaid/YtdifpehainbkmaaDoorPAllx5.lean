-- Made by a program of this session (wip/gen)
import Derived.Test.YtdifpehainbkmaaDoorPAllx0
import Derived.Test.YtdifpehainbkmaaDoorPAllx2
import Derived.Test.YtdifpehainbkmaaDoorPAllx3
import Derived.Test.YtdifpehainbkmaaDoorPAllx4
namespace Go.Proofs.YtdifpehainbkmaaDoor.PAll
open Go.RowKit Go.Proofs.YtdifpehainbkmaaDoorW.PrintWords Go.Proofs.YtdifpehainbkmaaDoorW.PrintLast Go.Proofs.YtdifpehainbkmaaDoorW.PrintMore
attribute [local go_sem] max2_int min2_int max_two min_two max_three min_three max_four min_four   -- for this text's walks alone
set_option linter.unusedVariables false
set_option linter.unusedSimpArgs false

/-! ### packhorselaw01_LabelNames: function 6 -/
def packhorselaw01_LabelNames.f (k : Nat)  : Option (Bool) := (label_Next.f (⟨#[97, 57, 57, 57, 57, 57, 57, 57, 57, 57, 57, 57, 57, 57, 57, 57]⟩ : ByteArray)).bind fun bt128 => ((label_Split.f k (⟨#[97, 32, 32, 98]⟩ : ByteArray)).bind fun bt130 => ((label_Split.f k (⟨#[]⟩ : ByteArray)).bind fun bt134 => ((packhorselaw01_labelAlive.f).bind fun t138 => (if t138 = true then (if bt128.2 = 11 then (if bt130.2 = 11 then (if bt134.2 = 0 then (if (bt134.1.length : Int) = 0 then ((label_Signs.f (⟨#[207, 137, 207, 137]⟩ : ByteArray)).bind fun t139 => (if t139 = 2 then ((label_Signs.f (⟨#[97, 45, 45, 45, 45, 45, 45, 45, 45, 45, 45, 45, 45, 45, 45, 98]⟩ : ByteArray)).bind fun t140 => (if t140 = 16 then ((label_Signs.f (⟨#[97, 45, 45, 45, 45, 45, 45, 45, 45, 45, 45, 45, 45, 45, 45, 45, 98]⟩ : ByteArray)).bind fun t141 => (if t141 = (-1) then ((label_Right.f (⟨#[]⟩ : ByteArray)).bind fun t142 => (if t142 = true then (some false) else ((label_Right.f (⟨#[97, 206]⟩ : ByteArray)).bind fun t143 => (if t143 = true then (some false) else ((label_Right.f (⟨#[65]⟩ : ByteArray)).bind fun t144 => (some (!t144))))))) else (some false))) else (some false))) else (some false))) else (some false)) else (some false)) else (some false)) else (some false)) else (some false)))))
theorem packhorselaw01_LabelNames.mono : ∀ k, LeO (packhorselaw01_LabelNames.f k ) (packhorselaw01_LabelNames.f (k + 1) ) := by
  intro  k
  unfold packhorselaw01_LabelNames.f
  repeat' first
      | (with_reducible exact label_Split.mono _ _)
      | (with_reducible exact LeO.refl _)
      | (with_reducible exact LeO.none _)
      | (with_reducible refine LeO.ite ?_ ?_)
      | (with_reducible refine LeO.bind ?_ (fun _ => ?_))
      | exact label_Split.mono _ _
      | exact LeO.none _
      | refine LeO.ite ?_ ?_
      | refine LeO.bind ?_ (fun _ => ?_)
set_option maxHeartbeats 8000000 in
set_option maxRecDepth 100000 in
theorem packhorselaw01_LabelNames.calls (k : Nat)  (r : Bool) (w : World) (hT : Tabs w) (h : packhorselaw01_LabelNames.f k  = some r) (hr_ : r = true) :
    Calls Tryd.prog 6 #[] w fun e w' => e = .returned (.bool r) ∧ Below w.heap.size w w' := by
  have HRT := Aside0.mk hr_
  clear hr_
  have HT := Aside0.mk hT
  clear hT
  have HB := Aside0.mk (Below.refl w.heap.size w)
  have H : ((label_Next.f (⟨#[97, 57, 57, 57, 57, 57, 57, 57, 57, 57, 57, 57, 57, 57, 57, 57]⟩ : ByteArray)).bind fun bt128 => ((label_Split.f k (⟨#[97, 32, 32, 98]⟩ : ByteArray)).bind fun bt130 => ((label_Split.f k (⟨#[]⟩ : ByteArray)).bind fun bt134 => ((packhorselaw01_labelAlive.f).bind fun t138 => (if t138 = true then (if bt128.2 = 11 then (if bt130.2 = 11 then (if bt134.2 = 0 then (if (bt134.1.length : Int) = 0 then ((label_Signs.f (⟨#[207, 137, 207, 137]⟩ : ByteArray)).bind fun t139 => (if t139 = 2 then ((label_Signs.f (⟨#[97, 45, 45, 45, 45, 45, 45, 45, 45, 45, 45, 45, 45, 45, 45, 98]⟩ : ByteArray)).bind fun t140 => (if t140 = 16 then ((label_Signs.f (⟨#[97, 45, 45, 45, 45, 45, 45, 45, 45, 45, 45, 45, 45, 45, 45, 45, 98]⟩ : ByteArray)).bind fun t141 => (if t141 = (-1) then ((label_Right.f (⟨#[]⟩ : ByteArray)).bind fun t142 => (if t142 = true then (some false) else ((label_Right.f (⟨#[97, 206]⟩ : ByteArray)).bind fun t143 => (if t143 = true then (some false) else ((label_Right.f (⟨#[65]⟩ : ByteArray)).bind fun t144 => (some (!t144))))))) else (some false))) else (some false))) else (some false))) else (some false)) else (some false)) else (some false)) else (some false)) else (some false)))))) = some r := h
  clear h
  replace H := Option.bind_eq_some_iff.mp H
  obtain ⟨⟨t128, t129⟩, A10, H⟩ := H
  replace H : ((label_Split.f k (⟨#[97, 32, 32, 98]⟩ : ByteArray)).bind fun bt130 => ((label_Split.f k (⟨#[]⟩ : ByteArray)).bind fun bt134 => ((packhorselaw01_labelAlive.f).bind fun t138 => (if t138 = true then (if t129 = 11 then (if bt130.2 = 11 then (if bt134.2 = 0 then (if (bt134.1.length : Int) = 0 then ((label_Signs.f (⟨#[207, 137, 207, 137]⟩ : ByteArray)).bind fun t139 => (if t139 = 2 then ((label_Signs.f (⟨#[97, 45, 45, 45, 45, 45, 45, 45, 45, 45, 45, 45, 45, 45, 45, 98]⟩ : ByteArray)).bind fun t140 => (if t140 = 16 then ((label_Signs.f (⟨#[97, 45, 45, 45, 45, 45, 45, 45, 45, 45, 45, 45, 45, 45, 45, 45, 98]⟩ : ByteArray)).bind fun t141 => (if t141 = (-1) then ((label_Right.f (⟨#[]⟩ : ByteArray)).bind fun t142 => (if t142 = true then (some false) else ((label_Right.f (⟨#[97, 206]⟩ : ByteArray)).bind fun t143 => (if t143 = true then (some false) else ((label_Right.f (⟨#[65]⟩ : ByteArray)).bind fun t144 => (some (!t144))))))) else (some false))) else (some false))) else (some false))) else (some false)) else (some false)) else (some false)) else (some false)) else (some false))))) = some r := H
  have A1 := Aside0.mk A10
  clear A10
  replace H := Option.bind_eq_some_iff.mp H
  obtain ⟨⟨t130, t131⟩, A20, H⟩ := H
  replace H : ((label_Split.f k (⟨#[]⟩ : ByteArray)).bind fun bt134 => ((packhorselaw01_labelAlive.f).bind fun t138 => (if t138 = true then (if t129 = 11 then (if t131 = 11 then (if bt134.2 = 0 then (if (bt134.1.length : Int) = 0 then ((label_Signs.f (⟨#[207, 137, 207, 137]⟩ : ByteArray)).bind fun t139 => (if t139 = 2 then ((label_Signs.f (⟨#[97, 45, 45, 45, 45, 45, 45, 45, 45, 45, 45, 45, 45, 45, 45, 98]⟩ : ByteArray)).bind fun t140 => (if t140 = 16 then ((label_Signs.f (⟨#[97, 45, 45, 45, 45, 45, 45, 45, 45, 45, 45, 45, 45, 45, 45, 45, 98]⟩ : ByteArray)).bind fun t141 => (if t141 = (-1) then ((label_Right.f (⟨#[]⟩ : ByteArray)).bind fun t142 => (if t142 = true then (some false) else ((label_Right.f (⟨#[97, 206]⟩ : ByteArray)).bind fun t143 => (if t143 = true then (some false) else ((label_Right.f (⟨#[65]⟩ : ByteArray)).bind fun t144 => (some (!t144))))))) else (some false))) else (some false))) else (some false))) else (some false)) else (some false)) else (some false)) else (some false)) else (some false)))) = some r := H
  have A2 := Aside0.mk A20
  clear A20
  replace H := Option.bind_eq_some_iff.mp H
  obtain ⟨⟨t134, t135⟩, A30, H⟩ := H
  replace H : ((packhorselaw01_labelAlive.f).bind fun t138 => (if t138 = true then (if t129 = 11 then (if t131 = 11 then (if t135 = 0 then (if (t134.length : Int) = 0 then ((label_Signs.f (⟨#[207, 137, 207, 137]⟩ : ByteArray)).bind fun t139 => (if t139 = 2 then ((label_Signs.f (⟨#[97, 45, 45, 45, 45, 45, 45, 45, 45, 45, 45, 45, 45, 45, 45, 98]⟩ : ByteArray)).bind fun t140 => (if t140 = 16 then ((label_Signs.f (⟨#[97, 45, 45, 45, 45, 45, 45, 45, 45, 45, 45, 45, 45, 45, 45, 45, 98]⟩ : ByteArray)).bind fun t141 => (if t141 = (-1) then ((label_Right.f (⟨#[]⟩ : ByteArray)).bind fun t142 => (if t142 = true then (some false) else ((label_Right.f (⟨#[97, 206]⟩ : ByteArray)).bind fun t143 => (if t143 = true then (some false) else ((label_Right.f (⟨#[65]⟩ : ByteArray)).bind fun t144 => (some (!t144))))))) else (some false))) else (some false))) else (some false))) else (some false)) else (some false)) else (some false)) else (some false)) else (some false))) = some r := H
  have A3 := Aside0.mk A30
  clear A30
  replace H := Option.bind_eq_some_iff.mp H
  obtain ⟨t138, A40, H⟩ := H
  replace H : (if t138 = true then (if t129 = 11 then (if t131 = 11 then (if t135 = 0 then (if (t134.length : Int) = 0 then ((label_Signs.f (⟨#[207, 137, 207, 137]⟩ : ByteArray)).bind fun t139 => (if t139 = 2 then ((label_Signs.f (⟨#[97, 45, 45, 45, 45, 45, 45, 45, 45, 45, 45, 45, 45, 45, 45, 98]⟩ : ByteArray)).bind fun t140 => (if t140 = 16 then ((label_Signs.f (⟨#[97, 45, 45, 45, 45, 45, 45, 45, 45, 45, 45, 45, 45, 45, 45, 45, 98]⟩ : ByteArray)).bind fun t141 => (if t141 = (-1) then ((label_Right.f (⟨#[]⟩ : ByteArray)).bind fun t142 => (if t142 = true then (some false) else ((label_Right.f (⟨#[97, 206]⟩ : ByteArray)).bind fun t143 => (if t143 = true then (some false) else ((label_Right.f (⟨#[65]⟩ : ByteArray)).bind fun t144 => (some (!t144))))))) else (some false))) else (some false))) else (some false))) else (some false)) else (some false)) else (some false)) else (some false)) else (some false)) = some r := H
  have A4 := Aside0.mk A40
  clear A40
  by_cases c5 : t138 = true
  · subst c5
    have H1 : (if t129 = 11 then (if t131 = 11 then (if t135 = 0 then (if (t134.length : Int) = 0 then ((label_Signs.f (⟨#[207, 137, 207, 137]⟩ : ByteArray)).bind fun t139 => (if t139 = 2 then ((label_Signs.f (⟨#[97, 45, 45, 45, 45, 45, 45, 45, 45, 45, 45, 45, 45, 45, 45, 98]⟩ : ByteArray)).bind fun t140 => (if t140 = 16 then ((label_Signs.f (⟨#[97, 45, 45, 45, 45, 45, 45, 45, 45, 45, 45, 45, 45, 45, 45, 45, 98]⟩ : ByteArray)).bind fun t141 => (if t141 = (-1) then ((label_Right.f (⟨#[]⟩ : ByteArray)).bind fun t142 => (if t142 = true then (some false) else ((label_Right.f (⟨#[97, 206]⟩ : ByteArray)).bind fun t143 => (if t143 = true then (some false) else ((label_Right.f (⟨#[65]⟩ : ByteArray)).bind fun t144 => (some (!t144))))))) else (some false))) else (some false))) else (some false))) else (some false)) else (some false)) else (some false)) else (some false)) = some r := by rw [if_pos rfl] at H; exact H
    clear H
    have H := H1
    clear H1
    by_cases c6 : t129 = 11
    · rw [if_pos c6] at H
      have c6b0 : (t129 == 11) = true := beq_iff_eq.mpr c6
      have c6b1 : (t129 != 11) = false := bne_eq_false_iff_eq.mpr c6
      clear c6
      by_cases c7 : t131 = 11
      · rw [if_pos c7] at H
        have c7b0 : (t131 == 11) = true := beq_iff_eq.mpr c7
        have c7b1 : (t131 != 11) = false := bne_eq_false_iff_eq.mpr c7
        clear c7
        by_cases c8 : t135 = 0
        · rw [if_pos c8] at H
          have c8b0 : (t135 == 0) = true := beq_iff_eq.mpr c8
          have c8b1 : (t135 != 0) = false := bne_eq_false_iff_eq.mpr c8
          clear c8
          by_cases c9 : (t134.length : Int) = 0
          · rw [if_pos c9] at H
            have c9b0 : ((t134.length : Int) == 0) = true := beq_iff_eq.mpr c9
            have c9b1 : ((t134.length : Int) != 0) = false := bne_eq_false_iff_eq.mpr c9
            clear c9
            replace H := Option.bind_eq_some_iff.mp H
            obtain ⟨t139, A100, H⟩ := H
            replace H : (if t139 = 2 then ((label_Signs.f (⟨#[97, 45, 45, 45, 45, 45, 45, 45, 45, 45, 45, 45, 45, 45, 45, 98]⟩ : ByteArray)).bind fun t140 => (if t140 = 16 then ((label_Signs.f (⟨#[97, 45, 45, 45, 45, 45, 45, 45, 45, 45, 45, 45, 45, 45, 45, 45, 98]⟩ : ByteArray)).bind fun t141 => (if t141 = (-1) then ((label_Right.f (⟨#[]⟩ : ByteArray)).bind fun t142 => (if t142 = true then (some false) else ((label_Right.f (⟨#[97, 206]⟩ : ByteArray)).bind fun t143 => (if t143 = true then (some false) else ((label_Right.f (⟨#[65]⟩ : ByteArray)).bind fun t144 => (some (!t144))))))) else (some false))) else (some false))) else (some false)) = some r := H
            have A10 := Aside0.mk A100
            clear A100
            by_cases c11 : t139 = 2
            · rw [if_pos c11] at H
              have c11b0 : (t139 == 2) = true := beq_iff_eq.mpr c11
              have c11b1 : (t139 != 2) = false := bne_eq_false_iff_eq.mpr c11
              clear c11
              replace H := Option.bind_eq_some_iff.mp H
              obtain ⟨t140, A120, H⟩ := H
              replace H : (if t140 = 16 then ((label_Signs.f (⟨#[97, 45, 45, 45, 45, 45, 45, 45, 45, 45, 45, 45, 45, 45, 45, 45, 98]⟩ : ByteArray)).bind fun t141 => (if t141 = (-1) then ((label_Right.f (⟨#[]⟩ : ByteArray)).bind fun t142 => (if t142 = true then (some false) else ((label_Right.f (⟨#[97, 206]⟩ : ByteArray)).bind fun t143 => (if t143 = true then (some false) else ((label_Right.f (⟨#[65]⟩ : ByteArray)).bind fun t144 => (some (!t144))))))) else (some false))) else (some false)) = some r := H
              have A12 := Aside0.mk A120
              clear A120
              by_cases c13 : t140 = 16
              · rw [if_pos c13] at H
                have c13b0 : (t140 == 16) = true := beq_iff_eq.mpr c13
                have c13b1 : (t140 != 16) = false := bne_eq_false_iff_eq.mpr c13
                clear c13
                replace H := Option.bind_eq_some_iff.mp H
                obtain ⟨t141, A140, H⟩ := H
                replace H : (if t141 = (-1) then ((label_Right.f (⟨#[]⟩ : ByteArray)).bind fun t142 => (if t142 = true then (some false) else ((label_Right.f (⟨#[97, 206]⟩ : ByteArray)).bind fun t143 => (if t143 = true then (some false) else ((label_Right.f (⟨#[65]⟩ : ByteArray)).bind fun t144 => (some (!t144))))))) else (some false)) = some r := H
                have A14 := Aside0.mk A140
                clear A140
                by_cases c15 : t141 = (-1)
                · rw [if_pos c15] at H
                  have c15b0 : (t141 == (-1)) = true := beq_iff_eq.mpr c15
                  have c15b1 : (t141 != (-1)) = false := bne_eq_false_iff_eq.mpr c15
                  clear c15
                  replace H := Option.bind_eq_some_iff.mp H
                  obtain ⟨t142, A160, H⟩ := H
                  replace H : (if t142 = true then (some false) else ((label_Right.f (⟨#[97, 206]⟩ : ByteArray)).bind fun t143 => (if t143 = true then (some false) else ((label_Right.f (⟨#[65]⟩ : ByteArray)).bind fun t144 => (some (!t144)))))) = some r := H
                  have A16 := Aside0.mk A160
                  clear A160
                  by_cases c17 : t142 = true
                  · subst c17
                    have H1 : (some false) = some r := by rw [if_pos rfl] at H; exact H
                    clear H
                    have H := H1
                    clear H1
                    obtain rfl := Option.some.inj H
                    exact absurd HRT.out (by decide)
                  · replace c17 := Bool.eq_false_iff.mpr c17
                    subst c17
                    have H1 : ((label_Right.f (⟨#[97, 206]⟩ : ByteArray)).bind fun t143 => (if t143 = true then (some false) else ((label_Right.f (⟨#[65]⟩ : ByteArray)).bind fun t144 => (some (!t144))))) = some r := by rw [if_neg (show ¬ (false = true) by decide)] at H; exact H
                    clear H
                    have H := H1
                    clear H1
                    replace H := Option.bind_eq_some_iff.mp H
                    obtain ⟨t143, A180, H⟩ := H
                    replace H : (if t143 = true then (some false) else ((label_Right.f (⟨#[65]⟩ : ByteArray)).bind fun t144 => (some (!t144)))) = some r := H
                    have A18 := Aside0.mk A180
                    clear A180
                    by_cases c19 : t143 = true
                    · subst c19
                      have H1 : (some false) = some r := by rw [if_pos rfl] at H; exact H
                      clear H
                      have H := H1
                      clear H1
                      obtain rfl := Option.some.inj H
                      exact absurd HRT.out (by decide)
                    · replace c19 := Bool.eq_false_iff.mpr c19
                      subst c19
                      have H1 : ((label_Right.f (⟨#[65]⟩ : ByteArray)).bind fun t144 => (some (!t144))) = some r := by rw [if_neg (show ¬ (false = true) by decide)] at H; exact H
                      clear H
                      have H := H1
                      clear H1
                      replace H := Option.bind_eq_some_iff.mp H
                      obtain ⟨t144, A200, H⟩ := H
                      replace H : (some (!t144)) = some r := H
                      have A20 := Aside0.mk A200
                      clear A200
                      obtain rfl := Option.some.inj H
                      simp only [Option.some.injEq, Prod.mk.injEq] at H
                      obtain ⟨rfl⟩ := H
                      go_enter Tryd.func6, Tryd.ntmps6
                      go_wp2_with (first | ((with_reducible refine gate_callee (f := 13) rfl ?_); refine goesL_ (some 8) rfl rfl Tryd.func13 (by kernel_rfl) rfl #[.string (⟨#[97, 57, 57, 57, 57, 57, 57, 57, 57, 57, 57, 57, 57, 57, 57, 57]⟩ : ByteArray)] rfl (by (try simp only [List.map_toArray, List.map_cons, List.map_nil]); first | done | rfl | (simp only [List.length_drop, List.length_take]; rfl)) ?_; (with_reducible refine (label_Next.calls (⟨#[97, 57, 57, 57, 57, 57, 57, 57, 57, 57, 57, 57, 57, 57, 57, 57]⟩ : ByteArray) t128 t129 _ ?side1 A1.out).mono ?_); (case side1 => exact Tabs.below HT.out (by repeat (first | (with_reducible first | exact HB.out | apply below_alloc | apply pw_below_drewN | apply below_drew1) | exact HB.out))); rintro e w21 ⟨rfl, hb⟩; refine ⟨_, rfl, ?_⟩; have n0_ := Aside0.mk (below_step (by repeat (first | (with_reducible first | exact HB.out | apply below_alloc | apply pw_below_drewN | apply below_drew1) | exact HB.out)) hb); clear HB; have HB := n0_; clear n0_; (try clear hb); (try clear hb2); (try clear hk); (try clear hi)) | ((with_reducible refine gate_callee (f := 20) rfl ?_); refine goesL_ (some 12) rfl rfl Tryd.func20 (by kernel_rfl) rfl #[.string (⟨#[97, 32, 32, 98]⟩ : ByteArray)] rfl (by (try simp only [List.map_toArray, List.map_cons, List.map_nil]); first | done | rfl | (simp only [List.length_drop, List.length_take]; rfl)) ?_; (with_reducible refine (label_Split.calls k (⟨#[97, 32, 32, 98]⟩ : ByteArray) t130 t131 _ ?side1 A2.out).mono ?_); (case side1 => exact Tabs.below HT.out (by repeat (first | (with_reducible first | exact HB.out | apply below_alloc | apply pw_below_drewN | apply below_drew1) | exact HB.out))); rintro e w22 ⟨v132, rfl, ho0, hb⟩; refine ⟨_, rfl, ?_⟩; have n0_ := Aside0.mk (Kd.R_lower ho0 (below_size (by repeat (first | (with_reducible first | exact HB.out | apply below_alloc | apply pw_below_drewN | apply below_drew1) | exact HB.out)))); have n1_ := Aside0.mk (below_step (by repeat (first | (with_reducible first | exact HB.out | apply below_alloc | apply pw_below_drewN | apply below_drew1) | exact HB.out)) hb); clear HB; have HO133 := n0_; have HB := n1_; clear n0_ n1_; (try clear hb); (try clear hb2); (try clear hk); (try clear hi); (try clear ho0)) | ((with_reducible refine gate_callee (f := 20) rfl ?_); refine goesL_ (some 16) rfl rfl Tryd.func20 (by kernel_rfl) rfl #[.string (⟨#[]⟩ : ByteArray)] rfl (by (try simp only [List.map_toArray, List.map_cons, List.map_nil]); first | done | rfl | (simp only [List.length_drop, List.length_take]; rfl)) ?_; (with_reducible refine (label_Split.calls k (⟨#[]⟩ : ByteArray) t134 t135 _ ?side1 A3.out).mono ?_); (case side1 => exact Tabs.below HT.out (by repeat (first | (with_reducible first | exact HB.out | apply below_alloc | apply pw_below_drewN | apply below_drew1) | exact HB.out))); rintro e w23 ⟨v136, rfl, ho0, hb⟩; refine ⟨_, rfl, ?_⟩; have n0_ := Aside0.mk (Kd.R_elder' (by (with_reducible repeat (first | apply Kd.R_alloc | apply Kd.R_drewN | apply Kd.R_drew)); exact HO133.out) (Kd.R_base ho0) hb); have n1_ := Aside0.mk (Kd.R_lower (Kd.R_new' ho0 (Kd.R_lt (by (with_reducible repeat (first | apply Kd.R_alloc | apply Kd.R_drewN | apply Kd.R_drew)); exact HO133.out))) (below_size (by repeat (first | (with_reducible first | exact HB.out | apply below_alloc | apply pw_below_drewN | apply below_drew1) | exact HB.out)))); have n2_ := Aside0.mk (below_step (by repeat (first | (with_reducible first | exact HB.out | apply below_alloc | apply pw_below_drewN | apply below_drew1) | exact HB.out)) hb); clear HO133; clear HB; have HO133 := n0_; have HO137 := n1_; have HB := n2_; clear n0_ n1_ n2_; (try clear hb); (try clear hb2); (try clear hk); (try clear hi); (try clear ho0)) | ((with_reducible refine gate_callee (f := 9) rfl ?_); refine goesL_ (some 19) rfl rfl Tryd.func9 (by kernel_rfl) rfl #[] rfl (by (try simp only [List.map_toArray, List.map_cons, List.map_nil]); first | done | rfl | (simp only [List.length_drop, List.length_take]; rfl)) ?_; (with_reducible refine (packhorselaw01_labelAlive.calls  true _ ?side1 A4.out rfl).mono ?_); (case side1 => exact Tabs.below HT.out (by repeat (first | (with_reducible first | exact HB.out | apply below_alloc | apply pw_below_drewN | apply below_drew1) | exact HB.out))); rintro e w24 ⟨rfl, hb⟩; refine ⟨_, rfl, ?_⟩; have n0_ := Aside0.mk (Kd.R_below (by (with_reducible repeat (first | apply Kd.R_alloc | apply Kd.R_drewN | apply Kd.R_drew)); exact HO133.out) hb); have n1_ := Aside0.mk (Kd.R_below (by (with_reducible repeat (first | apply Kd.R_alloc | apply Kd.R_drewN | apply Kd.R_drew)); exact HO137.out) hb); have n2_ := Aside0.mk (below_step (by repeat (first | (with_reducible first | exact HB.out | apply below_alloc | apply pw_below_drewN | apply below_drew1) | exact HB.out)) hb); clear HO133; clear HO137; clear HB; have HO133 := n0_; have HO137 := n1_; have HB := n2_; clear n0_ n1_ n2_; (try clear hb); (try clear hb2); (try clear hk); (try clear hi); obtain ⟨Ao25, co25, eo25⟩ := Kd.R_slice HO137.out; subst eo25) | (go_at_call 17; (with_reducible refine (label_Signs.calls (⟨#[207, 137, 207, 137]⟩ : ByteArray) t139 _ ?side1 A10.out).mono ?_); (case side1 => exact Tabs.below HT.out (by repeat (first | (with_reducible first | exact HB.out | apply below_alloc | apply pw_below_drewN | apply below_drew1) | exact HB.out))); rintro e w26 ⟨rfl, hb⟩; have n0_ := Aside0.mk (Kd.R_below (by (with_reducible repeat (first | apply Kd.R_alloc | apply Kd.R_drewN | apply Kd.R_drew)); exact HO133.out) hb); have n1_ := Aside0.mk (Kd.R_below (by (with_reducible repeat (first | apply Kd.R_alloc | apply Kd.R_drewN | apply Kd.R_drew)); exact HO137.out) hb); have n2_ := Aside0.mk (below_step (by repeat (first | (with_reducible first | exact HB.out | apply below_alloc | apply pw_below_drewN | apply below_drew1) | exact HB.out)) hb); clear HO133; clear HO137; clear HB; have HO133 := n0_; have HO137 := n1_; have HB := n2_; clear n0_ n1_ n2_; (try clear hb); (try clear hb2); (try clear hk); (try clear hi)) | (go_at_call 17; (with_reducible refine (label_Signs.calls (⟨#[97, 45, 45, 45, 45, 45, 45, 45, 45, 45, 45, 45, 45, 45, 45, 98]⟩ : ByteArray) t140 _ ?side1 A12.out).mono ?_); (case side1 => exact Tabs.below HT.out (by repeat (first | (with_reducible first | exact HB.out | apply below_alloc | apply pw_below_drewN | apply below_drew1) | exact HB.out))); rintro e w27 ⟨rfl, hb⟩; have n0_ := Aside0.mk (Kd.R_below (by (with_reducible repeat (first | apply Kd.R_alloc | apply Kd.R_drewN | apply Kd.R_drew)); exact HO133.out) hb); have n1_ := Aside0.mk (Kd.R_below (by (with_reducible repeat (first | apply Kd.R_alloc | apply Kd.R_drewN | apply Kd.R_drew)); exact HO137.out) hb); have n2_ := Aside0.mk (below_step (by repeat (first | (with_reducible first | exact HB.out | apply below_alloc | apply pw_below_drewN | apply below_drew1) | exact HB.out)) hb); clear HO133; clear HO137; clear HB; have HO133 := n0_; have HO137 := n1_; have HB := n2_; clear n0_ n1_ n2_; (try clear hb); (try clear hb2); (try clear hk); (try clear hi)) | (go_at_call 17; (with_reducible refine (label_Signs.calls (⟨#[97, 45, 45, 45, 45, 45, 45, 45, 45, 45, 45, 45, 45, 45, 45, 45, 98]⟩ : ByteArray) t141 _ ?side1 A14.out).mono ?_); (case side1 => exact Tabs.below HT.out (by repeat (first | (with_reducible first | exact HB.out | apply below_alloc | apply pw_below_drewN | apply below_drew1) | exact HB.out))); rintro e w28 ⟨rfl, hb⟩; have n0_ := Aside0.mk (Kd.R_below (by (with_reducible repeat (first | apply Kd.R_alloc | apply Kd.R_drewN | apply Kd.R_drew)); exact HO133.out) hb); have n1_ := Aside0.mk (Kd.R_below (by (with_reducible repeat (first | apply Kd.R_alloc | apply Kd.R_drewN | apply Kd.R_drew)); exact HO137.out) hb); have n2_ := Aside0.mk (below_step (by repeat (first | (with_reducible first | exact HB.out | apply below_alloc | apply pw_below_drewN | apply below_drew1) | exact HB.out)) hb); clear HO133; clear HO137; clear HB; have HO133 := n0_; have HO137 := n1_; have HB := n2_; clear n0_ n1_ n2_; (try clear hb); (try clear hb2); (try clear hk); (try clear hi)) | (go_at_call 15; (with_reducible refine (label_Right.calls (⟨#[]⟩ : ByteArray) false _ ?side1 A16.out).mono ?_); (case side1 => exact Tabs.below HT.out (by repeat (first | (with_reducible first | exact HB.out | apply below_alloc | apply pw_below_drewN | apply below_drew1) | exact HB.out))); rintro e w29 ⟨rfl, hb⟩; have n0_ := Aside0.mk (Kd.R_below (by (with_reducible repeat (first | apply Kd.R_alloc | apply Kd.R_drewN | apply Kd.R_drew)); exact HO133.out) hb); have n1_ := Aside0.mk (Kd.R_below (by (with_reducible repeat (first | apply Kd.R_alloc | apply Kd.R_drewN | apply Kd.R_drew)); exact HO137.out) hb); have n2_ := Aside0.mk (below_step (by repeat (first | (with_reducible first | exact HB.out | apply below_alloc | apply pw_below_drewN | apply below_drew1) | exact HB.out)) hb); clear HO133; clear HO137; clear HB; have HO133 := n0_; have HO137 := n1_; have HB := n2_; clear n0_ n1_ n2_; (try clear hb); (try clear hb2); (try clear hk); (try clear hi)) | (go_at_call 15; (with_reducible refine (label_Right.calls (⟨#[97, 206]⟩ : ByteArray) false _ ?side1 A18.out).mono ?_); (case side1 => exact Tabs.below HT.out (by repeat (first | (with_reducible first | exact HB.out | apply below_alloc | apply pw_below_drewN | apply below_drew1) | exact HB.out))); rintro e w30 ⟨rfl, hb⟩; have n0_ := Aside0.mk (Kd.R_below (by (with_reducible repeat (first | apply Kd.R_alloc | apply Kd.R_drewN | apply Kd.R_drew)); exact HO133.out) hb); have n1_ := Aside0.mk (Kd.R_below (by (with_reducible repeat (first | apply Kd.R_alloc | apply Kd.R_drewN | apply Kd.R_drew)); exact HO137.out) hb); have n2_ := Aside0.mk (below_step (by repeat (first | (with_reducible first | exact HB.out | apply below_alloc | apply pw_below_drewN | apply below_drew1) | exact HB.out)) hb); clear HO133; clear HO137; clear HB; have HO133 := n0_; have HO137 := n1_; have HB := n2_; clear n0_ n1_ n2_; (try clear hb); (try clear hb2); (try clear hk); (try clear hi)) | (go_at_call 15; (with_reducible refine (label_Right.calls (⟨#[65]⟩ : ByteArray) t144 _ ?side1 A20.out).mono ?_); (case side1 => exact Tabs.below HT.out (by repeat (first | (with_reducible first | exact HB.out | apply below_alloc | apply pw_below_drewN | apply below_drew1) | exact HB.out))); rintro e w31 ⟨rfl, hb⟩; have n0_ := Aside0.mk (Kd.R_below (by (with_reducible repeat (first | apply Kd.R_alloc | apply Kd.R_drewN | apply Kd.R_drew)); exact HO133.out) hb); have n1_ := Aside0.mk (Kd.R_below (by (with_reducible repeat (first | apply Kd.R_alloc | apply Kd.R_drewN | apply Kd.R_drew)); exact HO137.out) hb); have n2_ := Aside0.mk (below_step (by repeat (first | (with_reducible first | exact HB.out | apply below_alloc | apply pw_below_drewN | apply below_drew1) | exact HB.out)) hb); clear HO133; clear HO137; clear HB; have HO133 := n0_; have HO137 := n1_; have HB := n2_; clear n0_ n1_ n2_; (try clear hb); (try clear hb2); (try clear hk); (try clear hi)))
                      go_ret
                      exact ⟨by first | rfl | (simp [errW_none, errW_some] <;> rfl) | (simp [*, errW_none, errW_some] <;> rfl), by repeat (first | (with_reducible first | exact HB.out | apply below_alloc | apply pw_below_drewN | apply below_drew1) | exact HB.out)⟩
                · rw [if_neg c15] at H
                  have c15b0 : (t141 == (-1)) = false := beq_eq_false_iff_ne.mpr c15
                  have c15b1 : (t141 != (-1)) = true := bne_iff_ne.mpr c15
                  obtain rfl := Option.some.inj H
                  exact absurd HRT.out (by decide)
              · rw [if_neg c13] at H
                have c13b0 : (t140 == 16) = false := beq_eq_false_iff_ne.mpr c13
                have c13b1 : (t140 != 16) = true := bne_iff_ne.mpr c13
                obtain rfl := Option.some.inj H
                exact absurd HRT.out (by decide)
            · rw [if_neg c11] at H
              have c11b0 : (t139 == 2) = false := beq_eq_false_iff_ne.mpr c11
              have c11b1 : (t139 != 2) = true := bne_iff_ne.mpr c11
              obtain rfl := Option.some.inj H
              exact absurd HRT.out (by decide)
          · rw [if_neg c9] at H
            have c9b0 : ((t134.length : Int) == 0) = false := beq_eq_false_iff_ne.mpr c9
            have c9b1 : ((t134.length : Int) != 0) = true := bne_iff_ne.mpr c9
            have c9b2 : ¬ (t134 = []) := fun h_ => c9 (by rw [h_]; rfl)
            obtain rfl := Option.some.inj H
            exact absurd HRT.out (by decide)
        · rw [if_neg c8] at H
          have c8b0 : (t135 == 0) = false := beq_eq_false_iff_ne.mpr c8
          have c8b1 : (t135 != 0) = true := bne_iff_ne.mpr c8
          obtain rfl := Option.some.inj H
          exact absurd HRT.out (by decide)
      · rw [if_neg c7] at H
        have c7b0 : (t131 == 11) = false := beq_eq_false_iff_ne.mpr c7
        have c7b1 : (t131 != 11) = true := bne_iff_ne.mpr c7
        obtain rfl := Option.some.inj H
        exact absurd HRT.out (by decide)
    · rw [if_neg c6] at H
      have c6b0 : (t129 == 11) = false := beq_eq_false_iff_ne.mpr c6
      have c6b1 : (t129 != 11) = true := bne_iff_ne.mpr c6
      obtain rfl := Option.some.inj H
      exact absurd HRT.out (by decide)
  · replace c5 := Bool.eq_false_iff.mpr c5
    subst c5
    have H1 : (some false) = some r := by rw [if_neg (show ¬ (false = true) by decide)] at H; exact H
    clear H
    have H := H1
    clear H1
    obtain rfl := Option.some.inj H
    exact absurd HRT.out (by decide)

end Go.Proofs.YtdifpehainbkmaaDoor.PAll
