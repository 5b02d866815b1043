-- Made by a program of this session (wip/gen)
import Derived.Test.YtdifpehainbkmaaDoorPAllx0
namespace Go.Proofs.YtdifpehainbkmaaDoor.PAll
open Go.RowKit Go.Proofs.YtdifpehainbkmaaDoorW.PrintWords Go.Proofs.YtdifpehainbkmaaDoorW.PrintLast Go.Proofs.YtdifpehainbkmaaDoorW.PrintMore
attribute [local go_sem] max2_int min2_int max_two min_two max_three min_three max_four min_four   -- for this text's walks alone
set_option linter.unusedVariables false
set_option linter.unusedSimpArgs false

/-! ### packhorseref01_sign: function 26 -/
mutual
def packhorseref01_sign.j0 : Nat → ByteArray → Int → Int → Bool → Option (Int × Bool)
  | 0, _, _, _, _ => none
  | k + 1, x0, x1, x6, x16 => if x16 = true then (some (1, true)) else (if x6 ≥ 48 then (if x6 ≤ 57 then (packhorseref01_sign.j1 k x0 x1 x6 true) else (packhorseref01_sign.j1 k x0 x1 x6 (x6 == 45))) else (packhorseref01_sign.j1 k x0 x1 x6 (x6 == 45)))
def packhorseref01_sign.j1 : Nat → ByteArray → Int → Int → Bool → Option (Int × Bool)
  | 0, _, _, _, _ => none
  | k + 1, x0, x1, x6, x26 => if x26 = true then (some (1, false)) else (if (wrap64 (x1 + 1)) ≥ (x0.size : Int) then (some (0, false)) else (if 0 ≤ (wrap64 (x1 + 1)) then (if (wrap64 (x1 + 1)) < (x0.size : Int) then (if x6 = 206 then (if (bt x0 (wrap64 (x1 + 1))) ≥ 177 then (if (bt x0 (wrap64 (x1 + 1))) ≤ 191 then (some (2, true)) else (if x6 = 207 then (if (bt x0 (wrap64 (x1 + 1))) ≥ 128 then (if (bt x0 (wrap64 (x1 + 1))) ≤ 137 then (some (2, true)) else (some (0, false))) else (some (0, false))) else (some (0, false)))) else (if x6 = 207 then (if (bt x0 (wrap64 (x1 + 1))) ≥ 128 then (if (bt x0 (wrap64 (x1 + 1))) ≤ 137 then (some (2, true)) else (some (0, false))) else (some (0, false))) else (some (0, false)))) else (if x6 = 207 then (if (bt x0 (wrap64 (x1 + 1))) ≥ 128 then (if (bt x0 (wrap64 (x1 + 1))) ≤ 137 then (some (2, true)) else (some (0, false))) else (some (0, false))) else (some (0, false)))) else (none)) else (none)))
end
def packhorseref01_sign.f (k : Nat) (a0 : ByteArray) (a1 : Int) : Option (Int × Bool) := if 0 ≤ a1 then (if a1 < (a0.size : Int) then (if (bt a0 a1) ≥ 97 then (packhorseref01_sign.j0 k a0 a1 (bt a0 a1) (decide ((bt a0 a1) ≤ 122))) else (packhorseref01_sign.j0 k a0 a1 (bt a0 a1) false)) else (none)) else (none)
theorem packhorseref01_sign.mono_l : ∀ k, (∀ y0 y1 y2 y3, LeO (packhorseref01_sign.j0 k y0 y1 y2 y3) (packhorseref01_sign.j0 (k + 1) y0 y1 y2 y3)) ∧ (∀ y0 y1 y2 y3, LeO (packhorseref01_sign.j1 k y0 y1 y2 y3) (packhorseref01_sign.j1 (k + 1) y0 y1 y2 y3))
  | 0 => ⟨fun _ _ _ _ r h => by simp [packhorseref01_sign.j0] at h, fun _ _ _ _ r h => by simp [packhorseref01_sign.j1] at h⟩
  | k + 1 => by
    obtain ⟨ih0, ih1⟩ := packhorseref01_sign.mono_l k
    refine ⟨?_, ?_⟩
    · intro y0 y1 y2 y3
      unfold packhorseref01_sign.j0
      repeat' first
      | (with_reducible exact ih0 _ _ _ _)
      | (with_reducible exact ih1 _ _ _ _)
      | (with_reducible exact LeO.refl _)
      | (with_reducible exact LeO.none _)
      | (with_reducible refine LeO.ite ?_ ?_)
      | (with_reducible refine LeO.bind ?_ (fun _ => ?_))
      | exact ih0 _ _ _ _
      | exact ih1 _ _ _ _
      | exact LeO.none _
      | refine LeO.ite ?_ ?_
      | refine LeO.bind ?_ (fun _ => ?_)
    · intro y0 y1 y2 y3
      unfold packhorseref01_sign.j1
      repeat' first
      | (with_reducible exact ih0 _ _ _ _)
      | (with_reducible exact ih1 _ _ _ _)
      | (with_reducible exact LeO.refl _)
      | (with_reducible exact LeO.none _)
      | (with_reducible refine LeO.ite ?_ ?_)
      | (with_reducible refine LeO.bind ?_ (fun _ => ?_))
      | exact ih0 _ _ _ _
      | exact ih1 _ _ _ _
      | exact LeO.none _
      | refine LeO.ite ?_ ?_
      | refine LeO.bind ?_ (fun _ => ?_)
theorem packhorseref01_sign.mono : ∀ a0 a1 k, LeO (packhorseref01_sign.f k a0 a1) (packhorseref01_sign.f (k + 1) a0 a1) := by
  intro a0 a1 k
  obtain ⟨ih0, ih1⟩ := packhorseref01_sign.mono_l k
  unfold packhorseref01_sign.f
  repeat' first
      | (with_reducible exact ih0 _ _ _ _)
      | (with_reducible exact ih1 _ _ _ _)
      | (with_reducible exact LeO.refl _)
      | (with_reducible exact LeO.none _)
      | (with_reducible refine LeO.ite ?_ ?_)
      | (with_reducible refine LeO.bind ?_ (fun _ => ?_))
      | exact ih0 _ _ _ _
      | exact ih1 _ _ _ _
      | exact LeO.none _
      | refine LeO.ite ?_ ?_
      | refine LeO.bind ?_ (fun _ => ?_)
set_option maxHeartbeats 8000000 in
set_option maxRecDepth 100000 in
theorem packhorseref01_sign.calls (k : Nat) (a0 : ByteArray) (a1 : Int) (r1 : Int) (r2 : Bool) (w : World) (h : packhorseref01_sign.f k a0 a1 = some (r1, r2)) :
    Calls Tryd.prog 26 #[.string a0, .int .i64 a1] w fun e w' => e = .returned (.tuple #[.int .i64 r1, .bool r2]) ∧ Drawn0 w w' := by
  have H : (if 0 ≤ a1 then (if a1 < (a0.size : Int) then (if (bt a0 a1) ≥ 97 then (packhorseref01_sign.j0 k a0 a1 (bt a0 a1) (decide ((bt a0 a1) ≤ 122))) else (packhorseref01_sign.j0 k a0 a1 (bt a0 a1) false)) else (none)) else (none)) = some (r1, r2) := h
  clear h
  by_cases c3 : 0 ≤ a1
  · rw [if_pos c3] at H
    have c3b0 : decide (0 ≤ a1) = true := decide_eq_true c3
    clear c3
    by_cases c4 : a1 < (a0.size : Int)
    · rw [if_pos c4] at H
      have c4b0 : decide (a1 < (a0.size : Int)) = true := decide_eq_true c4
      clear c4
      have HC6 := Aside0.mk H
      clear H
      have p5 : 0 ≤ (a1 : Int) := of_decide_eq_true (by first | (with_reducible assumption) | assumption)
      have q5 : a1 < (a0.size : Int) := of_decide_eq_true (by first | (with_reducible assumption) | assumption)
      have hx5 := bt_at a0 a1
      replace p5 := eq_true p5
      replace q5 := eq_true q5
      go_enter Tryd.func26, Tryd.ntmps26
      go_upto_region 2 with (fail)
      go_cut [16] (fun v16 wc => ∃ (kq : Nat) (x16_5 : Bool), v16 = .bool x16_5 ∧ Aside0 (packhorseref01_sign.j0 kq a0 a1 (bt a0 a1) x16_5 = some (r1, r2)) ∧ Aside0 (kq ≤ k) ∧ Drawn0 w wc)
      case first =>
        have H := HC6.out
        clear HC6
        by_cases c7 : (bt a0 a1) ≥ 97
        · rw [if_pos c7] at H
          have c7b0 : decide (97 ≤ (bt a0 a1)) = true := decide_eq_true c7
          clear c7
          (first | rw [c7b0] | (simp only [i64_w, i32_w]; rw [c7b0]) | skip)
          have H' := Aside0.mk H
          clear H
          go_wp2
          go_meet
          case rel => exact ⟨_, (decide ((bt a0 a1) ≤ 122)), (by first | rfl | (simp; done) | (simp [*]; done)), H', ⟨by first | omega | exact Nat.le_refl _⟩, by repeat (first | exact Drawn0.refl _ | apply Drawn0.step)⟩
        · rw [if_neg c7] at H
          have c7b0 : decide (97 ≤ (bt a0 a1)) = false := decide_eq_false c7
          clear c7
          (first | rw [c7b0] | (simp only [i64_w, i32_w]; rw [c7b0]) | skip)
          have H' := Aside0.mk H
          clear H
          go_wp2
          go_meet
          case rel => exact ⟨_, (false), (by first | rfl | (simp; done) | (simp [*]; done)), H', ⟨by first | omega | exact Nat.le_refl _⟩, by repeat (first | exact Drawn0.refl _ | apply Drawn0.step)⟩
      case rest =>
        clear HC6
        try clear c2
        try clear p2
        try clear c3
        try clear c3b0
        try clear c4
        try clear c4b0
        try clear p5
        try clear q5
        try clear hx5
        try clear c7
        try clear c7b0
        try clear p5
        try clear q5
        obtain ⟨kq, x16_5, rfl, HA, HJ5, ⟨mc5, rfl⟩⟩ := hcut
        cases kq with
        | zero => exact absurd HA.out (by simp [packhorseref01_sign.j0])
        | succ kj5 =>
          have H := HA.out
          clear HA
          simp only [packhorseref01_sign.j0] at H
          by_cases c8 : x16_5 = true
          · subst c8
            have H1 : (some (1, true)) = some (r1, r2) := by rw [if_pos rfl] at H; exact H
            clear H
            have H := H1
            clear H1
            simp only [Option.some.injEq, Prod.mk.injEq] at H
            obtain ⟨rfl, rfl⟩ := H
            go_wp2
            go_ret2
            exact ⟨by first | rfl | (simp; done) | (simp [*]; done), by repeat (first | exact Drawn0.refl _ | apply Drawn0.step)⟩
          · replace c8 := Bool.eq_false_iff.mpr c8
            subst c8
            have H1 : (if (bt a0 a1) ≥ 48 then (if (bt a0 a1) ≤ 57 then (packhorseref01_sign.j1 kj5 a0 a1 (bt a0 a1) true) else (packhorseref01_sign.j1 kj5 a0 a1 (bt a0 a1) ((bt a0 a1) == 45))) else (packhorseref01_sign.j1 kj5 a0 a1 (bt a0 a1) ((bt a0 a1) == 45))) = some (r1, r2) := by rw [if_neg (show ¬ (false = true) by decide)] at H; exact H
            clear H
            have H := H1
            clear H1
            have HC9 := Aside0.mk H
            clear H
            go_upto_region 4 with (fail)
            go_cut [26] (fun v26 wc => ∃ (kq : Nat) (x26_8 : Bool), v26 = .bool x26_8 ∧ Aside0 (packhorseref01_sign.j1 kq a0 a1 (bt a0 a1) x26_8 = some (r1, r2)) ∧ Aside0 (kq ≤ kj5) ∧ Drawn0 w wc)
            case first =>
              have H := HC9.out
              clear HC9
              by_cases c10 : (bt a0 a1) ≥ 48
              · rw [if_pos c10] at H
                have c10b0 : decide (48 ≤ (bt a0 a1)) = true := decide_eq_true c10
                clear c10
                (first | rw [c10b0] | (simp only [i64_w, i32_w]; rw [c10b0]) | skip)
                by_cases c11 : (bt a0 a1) ≤ 57
                · rw [if_pos c11] at H
                  have c11b0 : decide ((bt a0 a1) ≤ 57) = true := decide_eq_true c11
                  clear c11
                  have H' := Aside0.mk H
                  clear H
                  go_wp2
                  go_meet
                  case rel => exact ⟨_, (true), (by first | rfl | (simp; done) | (simp [*]; done)), H', ⟨by have := HJ5.out; first | omega | exact Nat.le_refl _⟩, by repeat (first | exact Drawn0.refl _ | apply Drawn0.step)⟩
                · rw [if_neg c11] at H
                  have c11b0 : decide ((bt a0 a1) ≤ 57) = false := decide_eq_false c11
                  clear c11
                  have H' := Aside0.mk H
                  clear H
                  go_wp2
                  go_meet
                  case rel => exact ⟨_, (((bt a0 a1) == 45)), (by first | rfl | (simp; done) | (simp [*]; done)), H', ⟨by have := HJ5.out; first | omega | exact Nat.le_refl _⟩, by repeat (first | exact Drawn0.refl _ | apply Drawn0.step)⟩
              · rw [if_neg c10] at H
                have c10b0 : decide (48 ≤ (bt a0 a1)) = false := decide_eq_false c10
                clear c10
                (first | rw [c10b0] | (simp only [i64_w, i32_w]; rw [c10b0]) | skip)
                have H' := Aside0.mk H
                clear H
                go_wp2
                go_meet
                case rel => exact ⟨_, (((bt a0 a1) == 45)), (by first | rfl | (simp; done) | (simp [*]; done)), H', ⟨by have := HJ5.out; first | omega | exact Nat.le_refl _⟩, by repeat (first | exact Drawn0.refl _ | apply Drawn0.step)⟩
            case rest =>
              clear HC9
              try clear c1
              try clear c2
              try clear p2
              try clear c3
              try clear c3b0
              try clear c4
              try clear c4b0
              try clear c5
              try clear p5
              try clear q5
              try clear hx5
              try clear c7
              try clear c7b0
              try clear c8
              try clear c10
              try clear c10b0
              try clear c11
              try clear c11b0
              try clear p2
              try clear p5
              try clear q5
              obtain ⟨kq, x26_8, rfl, HA, HJ8, ⟨mc8, rfl⟩⟩ := hcut
              cases kq with
              | zero => exact absurd HA.out (by simp [packhorseref01_sign.j1])
              | succ kj8 =>
                have H := HA.out
                clear HA
                simp only [packhorseref01_sign.j1] at H
                by_cases c12 : x26_8 = true
                · subst c12
                  have H1 : (some (1, false)) = some (r1, r2) := by rw [if_pos rfl] at H; exact H
                  clear H
                  have H := H1
                  clear H1
                  simp only [Option.some.injEq, Prod.mk.injEq] at H
                  obtain ⟨rfl, rfl⟩ := H
                  go_wp2
                  go_ret2
                  exact ⟨by first | rfl | (simp; done) | (simp [*]; done), by repeat (first | exact Drawn0.refl _ | apply Drawn0.step)⟩
                · replace c12 := Bool.eq_false_iff.mpr c12
                  subst c12
                  have H1 : (if (wrap64 (a1 + 1)) ≥ (a0.size : Int) then (some (0, false)) else (if 0 ≤ (wrap64 (a1 + 1)) then (if (wrap64 (a1 + 1)) < (a0.size : Int) then (if (bt a0 a1) = 206 then (if (bt a0 (wrap64 (a1 + 1))) ≥ 177 then (if (bt a0 (wrap64 (a1 + 1))) ≤ 191 then (some (2, true)) else (if (bt a0 a1) = 207 then (if (bt a0 (wrap64 (a1 + 1))) ≥ 128 then (if (bt a0 (wrap64 (a1 + 1))) ≤ 137 then (some (2, true)) else (some (0, false))) else (some (0, false))) else (some (0, false)))) else (if (bt a0 a1) = 207 then (if (bt a0 (wrap64 (a1 + 1))) ≥ 128 then (if (bt a0 (wrap64 (a1 + 1))) ≤ 137 then (some (2, true)) else (some (0, false))) else (some (0, false))) else (some (0, false)))) else (if (bt a0 a1) = 207 then (if (bt a0 (wrap64 (a1 + 1))) ≥ 128 then (if (bt a0 (wrap64 (a1 + 1))) ≤ 137 then (some (2, true)) else (some (0, false))) else (some (0, false))) else (some (0, false)))) else (none)) else (none))) = some (r1, r2) := by rw [if_neg (show ¬ (false = true) by decide)] at H; exact H
                  clear H
                  have H := H1
                  clear H1
                  by_cases c13 : (wrap64 (a1 + 1)) ≥ (a0.size : Int)
                  · rw [if_pos c13] at H
                    have c13b0 : decide ((a0.size : Int) ≤ (wrap64 (a1 + 1))) = true := decide_eq_true c13
                    clear c13
                    simp only [Option.some.injEq, Prod.mk.injEq] at H
                    obtain ⟨rfl, rfl⟩ := H
                    go_wp2
                    go_ret2
                    exact ⟨by first | rfl | (simp; done) | (simp [*]; done), by repeat (first | exact Drawn0.refl _ | apply Drawn0.step)⟩
                  · rw [if_neg c13] at H
                    have c13b0 : decide ((a0.size : Int) ≤ (wrap64 (a1 + 1))) = false := decide_eq_false c13
                    clear c13
                    obtain ⟨ji14, hji14⟩ : ∃ j_ : Int, (wrap64 (a1 + 1)) = j_ := ⟨_, rfl⟩
                    replace H : (if 0 ≤ (ji14) then (if (ji14) < (a0.size : Int) then (if (bt a0 a1) = 206 then (if (bt a0 (ji14)) ≥ 177 then (if (bt a0 (ji14)) ≤ 191 then (some (2, true)) else (if (bt a0 a1) = 207 then (if (bt a0 (ji14)) ≥ 128 then (if (bt a0 (ji14)) ≤ 137 then (some (2, true)) else (some (0, false))) else (some (0, false))) else (some (0, false)))) else (if (bt a0 a1) = 207 then (if (bt a0 (ji14)) ≥ 128 then (if (bt a0 (ji14)) ≤ 137 then (some (2, true)) else (some (0, false))) else (some (0, false))) else (some (0, false)))) else (if (bt a0 a1) = 207 then (if (bt a0 (ji14)) ≥ 128 then (if (bt a0 (ji14)) ≤ 137 then (some (2, true)) else (some (0, false))) else (some (0, false))) else (some (0, false)))) else (none)) else (none)) = some (r1, r2) := by first | (rw [hji14] at H; exact H) | (simp only [hji14] at H ⊢; exact H)
                    (try rw [hji14] at c13b0)
                    have hji14w : (IntKind.i64.wrap (a1 + 1)) = ji14 := (i64_w _).trans hji14
                    by_cases c15 : 0 ≤ (ji14)
                    · rw [if_pos c15] at H
                      have c15b0 : decide (0 ≤ (ji14)) = true := decide_eq_true c15
                      clear c15
                      by_cases c16 : (ji14) < (a0.size : Int)
                      · rw [if_pos c16] at H
                        have c16b0 : decide ((ji14) < (a0.size : Int)) = true := decide_eq_true c16
                        clear c16
                        by_cases c18 : (bt a0 a1) = 206
                        · rw [if_pos c18] at H
                          have c18b0 : ((bt a0 a1) == 206) = true := beq_iff_eq.mpr c18
                          have c18b1 : ((bt a0 a1) != 206) = false := bne_eq_false_iff_eq.mpr c18
                          clear c18
                          by_cases c19 : (bt a0 (ji14)) ≥ 177
                          · rw [if_pos c19] at H
                            have c19b0 : decide (177 ≤ (bt a0 (ji14))) = true := decide_eq_true c19
                            clear c19
                            by_cases c20 : (bt a0 (ji14)) ≤ 191
                            · rw [if_pos c20] at H
                              have c20b0 : decide ((bt a0 (ji14)) ≤ 191) = true := decide_eq_true c20
                              clear c20
                              simp only [Option.some.injEq, Prod.mk.injEq] at H
                              obtain ⟨rfl, rfl⟩ := H
                              have p17 : 0 ≤ ((ji14) : Int) := of_decide_eq_true (by first | (with_reducible assumption) | assumption)
                              have q17 : (ji14) < (a0.size : Int) := of_decide_eq_true (by first | (with_reducible assumption) | assumption)
                              have hx17 := bt_at a0 (ji14)
                              replace p17 := eq_true p17
                              replace q17 := eq_true q17
                              go_wp2
                              go_ret2
                              exact ⟨by first | rfl | (simp; done) | (simp only [← hji14] <;> (first | rfl | simp)) | (simp [*]; done), by repeat (first | exact Drawn0.refl _ | apply Drawn0.step)⟩
                            · rw [if_neg c20] at H
                              have c20b0 : decide ((bt a0 (ji14)) ≤ 191) = false := decide_eq_false c20
                              clear c20
                              by_cases c21 : (bt a0 a1) = 207
                              · rw [if_pos c21] at H
                                have c21b0 : ((bt a0 a1) == 207) = true := beq_iff_eq.mpr c21
                                have c21b1 : ((bt a0 a1) != 207) = false := bne_eq_false_iff_eq.mpr c21
                                clear c21
                                by_cases c22 : (bt a0 (ji14)) ≥ 128
                                · rw [if_pos c22] at H
                                  have c22b0 : decide (128 ≤ (bt a0 (ji14))) = true := decide_eq_true c22
                                  clear c22
                                  by_cases c23 : (bt a0 (ji14)) ≤ 137
                                  · rw [if_pos c23] at H
                                    have c23b0 : decide ((bt a0 (ji14)) ≤ 137) = true := decide_eq_true c23
                                    clear c23
                                    simp only [Option.some.injEq, Prod.mk.injEq] at H
                                    obtain ⟨rfl, rfl⟩ := H
                                    have p17 : 0 ≤ ((ji14) : Int) := of_decide_eq_true (by first | (with_reducible assumption) | assumption)
                                    have q17 : (ji14) < (a0.size : Int) := of_decide_eq_true (by first | (with_reducible assumption) | assumption)
                                    have hx17 := bt_at a0 (ji14)
                                    replace p17 := eq_true p17
                                    replace q17 := eq_true q17
                                    go_wp2
                                    go_ret2
                                    exact ⟨by first | rfl | (simp; done) | (simp only [← hji14] <;> (first | rfl | simp)) | (simp [*]; done), by repeat (first | exact Drawn0.refl _ | apply Drawn0.step)⟩
                                  · rw [if_neg c23] at H
                                    have c23b0 : decide ((bt a0 (ji14)) ≤ 137) = false := decide_eq_false c23
                                    clear c23
                                    simp only [Option.some.injEq, Prod.mk.injEq] at H
                                    obtain ⟨rfl, rfl⟩ := H
                                    have p17 : 0 ≤ ((ji14) : Int) := of_decide_eq_true (by first | (with_reducible assumption) | assumption)
                                    have q17 : (ji14) < (a0.size : Int) := of_decide_eq_true (by first | (with_reducible assumption) | assumption)
                                    have hx17 := bt_at a0 (ji14)
                                    replace p17 := eq_true p17
                                    replace q17 := eq_true q17
                                    go_wp2
                                    go_ret2
                                    exact ⟨by first | rfl | (simp; done) | (simp only [← hji14] <;> (first | rfl | simp)) | (simp [*]; done), by repeat (first | exact Drawn0.refl _ | apply Drawn0.step)⟩
                                · rw [if_neg c22] at H
                                  have c22b0 : decide (128 ≤ (bt a0 (ji14))) = false := decide_eq_false c22
                                  clear c22
                                  simp only [Option.some.injEq, Prod.mk.injEq] at H
                                  obtain ⟨rfl, rfl⟩ := H
                                  have p17 : 0 ≤ ((ji14) : Int) := of_decide_eq_true (by first | (with_reducible assumption) | assumption)
                                  have q17 : (ji14) < (a0.size : Int) := of_decide_eq_true (by first | (with_reducible assumption) | assumption)
                                  have hx17 := bt_at a0 (ji14)
                                  replace p17 := eq_true p17
                                  replace q17 := eq_true q17
                                  go_wp2
                                  go_ret2
                                  exact ⟨by first | rfl | (simp; done) | (simp only [← hji14] <;> (first | rfl | simp)) | (simp [*]; done), by repeat (first | exact Drawn0.refl _ | apply Drawn0.step)⟩
                              · rw [if_neg c21] at H
                                have c21b0 : ((bt a0 a1) == 207) = false := beq_eq_false_iff_ne.mpr c21
                                have c21b1 : ((bt a0 a1) != 207) = true := bne_iff_ne.mpr c21
                                simp only [Option.some.injEq, Prod.mk.injEq] at H
                                obtain ⟨rfl, rfl⟩ := H
                                have p17 : 0 ≤ ((ji14) : Int) := of_decide_eq_true (by first | (with_reducible assumption) | assumption)
                                have q17 : (ji14) < (a0.size : Int) := of_decide_eq_true (by first | (with_reducible assumption) | assumption)
                                have hx17 := bt_at a0 (ji14)
                                replace p17 := eq_true p17
                                replace q17 := eq_true q17
                                go_wp2
                                go_ret2
                                exact ⟨by first | rfl | (simp; done) | (simp only [← hji14] <;> (first | rfl | simp)) | (simp [*]; done), by repeat (first | exact Drawn0.refl _ | apply Drawn0.step)⟩
                          · rw [if_neg c19] at H
                            have c19b0 : decide (177 ≤ (bt a0 (ji14))) = false := decide_eq_false c19
                            clear c19
                            by_cases c24 : (bt a0 a1) = 207
                            · rw [if_pos c24] at H
                              have c24b0 : ((bt a0 a1) == 207) = true := beq_iff_eq.mpr c24
                              have c24b1 : ((bt a0 a1) != 207) = false := bne_eq_false_iff_eq.mpr c24
                              clear c24
                              by_cases c25 : (bt a0 (ji14)) ≥ 128
                              · rw [if_pos c25] at H
                                have c25b0 : decide (128 ≤ (bt a0 (ji14))) = true := decide_eq_true c25
                                clear c25
                                by_cases c26 : (bt a0 (ji14)) ≤ 137
                                · rw [if_pos c26] at H
                                  have c26b0 : decide ((bt a0 (ji14)) ≤ 137) = true := decide_eq_true c26
                                  clear c26
                                  simp only [Option.some.injEq, Prod.mk.injEq] at H
                                  obtain ⟨rfl, rfl⟩ := H
                                  have p17 : 0 ≤ ((ji14) : Int) := of_decide_eq_true (by first | (with_reducible assumption) | assumption)
                                  have q17 : (ji14) < (a0.size : Int) := of_decide_eq_true (by first | (with_reducible assumption) | assumption)
                                  have hx17 := bt_at a0 (ji14)
                                  replace p17 := eq_true p17
                                  replace q17 := eq_true q17
                                  go_wp2
                                  go_ret2
                                  exact ⟨by first | rfl | (simp; done) | (simp only [← hji14] <;> (first | rfl | simp)) | (simp [*]; done), by repeat (first | exact Drawn0.refl _ | apply Drawn0.step)⟩
                                · rw [if_neg c26] at H
                                  have c26b0 : decide ((bt a0 (ji14)) ≤ 137) = false := decide_eq_false c26
                                  clear c26
                                  simp only [Option.some.injEq, Prod.mk.injEq] at H
                                  obtain ⟨rfl, rfl⟩ := H
                                  have p17 : 0 ≤ ((ji14) : Int) := of_decide_eq_true (by first | (with_reducible assumption) | assumption)
                                  have q17 : (ji14) < (a0.size : Int) := of_decide_eq_true (by first | (with_reducible assumption) | assumption)
                                  have hx17 := bt_at a0 (ji14)
                                  replace p17 := eq_true p17
                                  replace q17 := eq_true q17
                                  go_wp2
                                  go_ret2
                                  exact ⟨by first | rfl | (simp; done) | (simp only [← hji14] <;> (first | rfl | simp)) | (simp [*]; done), by repeat (first | exact Drawn0.refl _ | apply Drawn0.step)⟩
                              · rw [if_neg c25] at H
                                have c25b0 : decide (128 ≤ (bt a0 (ji14))) = false := decide_eq_false c25
                                clear c25
                                simp only [Option.some.injEq, Prod.mk.injEq] at H
                                obtain ⟨rfl, rfl⟩ := H
                                have p17 : 0 ≤ ((ji14) : Int) := of_decide_eq_true (by first | (with_reducible assumption) | assumption)
                                have q17 : (ji14) < (a0.size : Int) := of_decide_eq_true (by first | (with_reducible assumption) | assumption)
                                have hx17 := bt_at a0 (ji14)
                                replace p17 := eq_true p17
                                replace q17 := eq_true q17
                                go_wp2
                                go_ret2
                                exact ⟨by first | rfl | (simp; done) | (simp only [← hji14] <;> (first | rfl | simp)) | (simp [*]; done), by repeat (first | exact Drawn0.refl _ | apply Drawn0.step)⟩
                            · rw [if_neg c24] at H
                              have c24b0 : ((bt a0 a1) == 207) = false := beq_eq_false_iff_ne.mpr c24
                              have c24b1 : ((bt a0 a1) != 207) = true := bne_iff_ne.mpr c24
                              simp only [Option.some.injEq, Prod.mk.injEq] at H
                              obtain ⟨rfl, rfl⟩ := H
                              have p17 : 0 ≤ ((ji14) : Int) := of_decide_eq_true (by first | (with_reducible assumption) | assumption)
                              have q17 : (ji14) < (a0.size : Int) := of_decide_eq_true (by first | (with_reducible assumption) | assumption)
                              have hx17 := bt_at a0 (ji14)
                              replace p17 := eq_true p17
                              replace q17 := eq_true q17
                              go_wp2
                              go_ret2
                              exact ⟨by first | rfl | (simp; done) | (simp only [← hji14] <;> (first | rfl | simp)) | (simp [*]; done), by repeat (first | exact Drawn0.refl _ | apply Drawn0.step)⟩
                        · rw [if_neg c18] at H
                          have c18b0 : ((bt a0 a1) == 206) = false := beq_eq_false_iff_ne.mpr c18
                          have c18b1 : ((bt a0 a1) != 206) = true := bne_iff_ne.mpr c18
                          by_cases c27 : (bt a0 a1) = 207
                          · rw [if_pos c27] at H
                            have c27b0 : ((bt a0 a1) == 207) = true := beq_iff_eq.mpr c27
                            have c27b1 : ((bt a0 a1) != 207) = false := bne_eq_false_iff_eq.mpr c27
                            clear c27
                            by_cases c28 : (bt a0 (ji14)) ≥ 128
                            · rw [if_pos c28] at H
                              have c28b0 : decide (128 ≤ (bt a0 (ji14))) = true := decide_eq_true c28
                              clear c28
                              by_cases c29 : (bt a0 (ji14)) ≤ 137
                              · rw [if_pos c29] at H
                                have c29b0 : decide ((bt a0 (ji14)) ≤ 137) = true := decide_eq_true c29
                                clear c29
                                simp only [Option.some.injEq, Prod.mk.injEq] at H
                                obtain ⟨rfl, rfl⟩ := H
                                have p17 : 0 ≤ ((ji14) : Int) := of_decide_eq_true (by first | (with_reducible assumption) | assumption)
                                have q17 : (ji14) < (a0.size : Int) := of_decide_eq_true (by first | (with_reducible assumption) | assumption)
                                have hx17 := bt_at a0 (ji14)
                                replace p17 := eq_true p17
                                replace q17 := eq_true q17
                                go_wp2
                                go_ret2
                                exact ⟨by first | rfl | (simp; done) | (simp only [← hji14] <;> (first | rfl | simp)) | (simp [*]; done), by repeat (first | exact Drawn0.refl _ | apply Drawn0.step)⟩
                              · rw [if_neg c29] at H
                                have c29b0 : decide ((bt a0 (ji14)) ≤ 137) = false := decide_eq_false c29
                                clear c29
                                simp only [Option.some.injEq, Prod.mk.injEq] at H
                                obtain ⟨rfl, rfl⟩ := H
                                have p17 : 0 ≤ ((ji14) : Int) := of_decide_eq_true (by first | (with_reducible assumption) | assumption)
                                have q17 : (ji14) < (a0.size : Int) := of_decide_eq_true (by first | (with_reducible assumption) | assumption)
                                have hx17 := bt_at a0 (ji14)
                                replace p17 := eq_true p17
                                replace q17 := eq_true q17
                                go_wp2
                                go_ret2
                                exact ⟨by first | rfl | (simp; done) | (simp only [← hji14] <;> (first | rfl | simp)) | (simp [*]; done), by repeat (first | exact Drawn0.refl _ | apply Drawn0.step)⟩
                            · rw [if_neg c28] at H
                              have c28b0 : decide (128 ≤ (bt a0 (ji14))) = false := decide_eq_false c28
                              clear c28
                              simp only [Option.some.injEq, Prod.mk.injEq] at H
                              obtain ⟨rfl, rfl⟩ := H
                              have p17 : 0 ≤ ((ji14) : Int) := of_decide_eq_true (by first | (with_reducible assumption) | assumption)
                              have q17 : (ji14) < (a0.size : Int) := of_decide_eq_true (by first | (with_reducible assumption) | assumption)
                              have hx17 := bt_at a0 (ji14)
                              replace p17 := eq_true p17
                              replace q17 := eq_true q17
                              go_wp2
                              go_ret2
                              exact ⟨by first | rfl | (simp; done) | (simp only [← hji14] <;> (first | rfl | simp)) | (simp [*]; done), by repeat (first | exact Drawn0.refl _ | apply Drawn0.step)⟩
                          · rw [if_neg c27] at H
                            have c27b0 : ((bt a0 a1) == 207) = false := beq_eq_false_iff_ne.mpr c27
                            have c27b1 : ((bt a0 a1) != 207) = true := bne_iff_ne.mpr c27
                            simp only [Option.some.injEq, Prod.mk.injEq] at H
                            obtain ⟨rfl, rfl⟩ := H
                            have p17 : 0 ≤ ((ji14) : Int) := of_decide_eq_true (by first | (with_reducible assumption) | assumption)
                            have q17 : (ji14) < (a0.size : Int) := of_decide_eq_true (by first | (with_reducible assumption) | assumption)
                            have hx17 := bt_at a0 (ji14)
                            replace p17 := eq_true p17
                            replace q17 := eq_true q17
                            go_wp2
                            go_ret2
                            exact ⟨by first | rfl | (simp; done) | (simp only [← hji14] <;> (first | rfl | simp)) | (simp [*]; done), by repeat (first | exact Drawn0.refl _ | apply Drawn0.step)⟩
                      · rw [if_neg c16] at H
                        exact absurd H (by simp)
                    · rw [if_neg c15] at H
                      exact absurd H (by simp)
    · rw [if_neg c4] at H
      exact absurd H (by simp)
  · rw [if_neg c3] at H
    exact absurd H (by simp)

end Go.Proofs.YtdifpehainbkmaaDoor.PAll
