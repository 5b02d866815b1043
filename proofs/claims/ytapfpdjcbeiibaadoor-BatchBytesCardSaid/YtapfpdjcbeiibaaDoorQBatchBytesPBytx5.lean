
import Derived.Test.YtapfpdjcbeiibaaDoorQBatchBytesPBytx0
import Derived.Test.YtapfpdjcbeiibaaDoorQBatchBytesPBytx3
import Derived.Test.YtapfpdjcbeiibaaDoorQBatchBytesPBytx4
namespace Go.Proofs.YtapfpdjcbeiibaaDoor.PByt
open Go.RowKit Go.Proofs.YtapfpdjcbeiibaaDoorW.PrintWords Go.Proofs.YtapfpdjcbeiibaaDoorW.PrintLast Go.Proofs.YtapfpdjcbeiibaaDoorW.PrintMore
attribute [local go_sem] max2_int max_two
set_option linter.unusedVariables false
set_option linter.unusedSimpArgs false
mutual
def packhorseref06_Take.l0 : Nat → List Int → Int → Int → Int → Int → Option (Int × Int)
 | 0, _, _, _, _, _ => none
 | k + 1, x0, x1, x6, x7, x8 => if x8 < (x0.length : Int) then (if 0 ≤ x8 then (if x8 = 9 then (if (rd x0 x8) > 1 then (packhorseref06_Take.j1 k x0 x1 x6 x7 x8 (IntKind.u64.wrap (Int.tmod (rd x0 x8) 128)) true) else (if x8 > 9 then (packhorseref06_Take.j1 k x0 x1 x6 x7 x8 (IntKind.u64.wrap (Int.tmod (rd x0 x8) 128)) true) else (if (rd x0 x8) = 0 then (packhorseref06_Take.j1 k x0 x1 x6 x7 x8 (IntKind.u64.wrap (Int.tmod (rd x0 x8) 128)) (decide (x8 > 0))) else (packhorseref06_Take.j1 k x0 x1 x6 x7 x8 (IntKind.u64.wrap (Int.tmod (rd x0 x8) 128)) false)))) else (if x8 > 9 then (packhorseref06_Take.j1 k x0 x1 x6 x7 x8 (IntKind.u64.wrap (Int.tmod (rd x0 x8) 128)) true) else (if (rd x0 x8) = 0 then (packhorseref06_Take.j1 k x0 x1 x6 x7 x8 (IntKind.u64.wrap (Int.tmod (rd x0 x8) 128)) (decide (x8 > 0))) else (packhorseref06_Take.j1 k x0 x1 x6 x7 x8 (IntKind.u64.wrap (Int.tmod (rd x0 x8) 128)) false)))) else (none)) else (some (0, 0))
def packhorseref06_Take.j1 : Nat → List Int → Int → Int → Int → Int → Int → Bool → Option (Int × Int)
 | 0, _, _, _, _, _, _, _ => none
 | k + 1, x0, x1, x6, x7, x8, x9, x45 => if x45 = true then (some (0, (-1))) else (if (IntKind.u64.wrap (x6 + (IntKind.u64.wrap (x9 * x7)))) > x1 then (some (0, (-1))) else (if 0 ≤ x8 then (if x8 < (x0.length : Int) then (if (rd x0 x8) < 128 then (some (IntKind.u64.wrap (x6 + (IntKind.u64.wrap (x9 * x7))), wrap64 (x8 + 1))) else (if (IntKind.u64.wrap (x1 - (IntKind.u64.wrap (x6 + (IntKind.u64.wrap (x9 * x7)))))) < (IntKind.u64.wrap (x7 * 128)) then (some (0, (-1))) else (packhorseref06_Take.l0 k x0 x1 (IntKind.u64.wrap (x6 + (IntKind.u64.wrap (x9 * x7)))) (IntKind.u64.wrap (x7 * 128)) (wrap64 (x8 + 1))))) else (none)) else (none)))
end
def packhorseref06_Take.f (k : Nat) (l0 : List Int) (a1 : Int) : Option (Int × Int) := packhorseref06_Take.l0 k l0 a1 0 1 0
set_option maxHeartbeats 8000000 in
set_option maxRecDepth 100000 in
theorem packhorseref06_Take.calls (k : Nat) (A0 : Option Addr) (c0 : Nat) (l0 : List Int) (a1 : Int) (r1 : Int) (r2 : Int) (w : World) (hr0 : Kd.C (Kd.int .u8) w A0 l0.length l0) (hc0 : l0.length ≤ c0) (h : packhorseref06_Take.f k l0 a1 = some (r1, r2)) :
  Calls Tryd.prog 61 #[.slice A0 l0.length c0, .int .u64 a1] w fun e w' => e = .returned (.tuple #[.int .u64 r1, .int .i64 r2]) ∧ Drawn0 w w' := by
 have HR0 := am hr0; have HC0 := am hc0; clear hr0 hc0; have H : (packhorseref06_Take.l0 k l0 a1 0 1 0) = some (r1, r2) := h; clear h; have H' := am H; clear H
 go_enter Tryd.func61, Tryd.ntmps61
 go_wp2
 go_loopg [6, 7, 8] k (fun kq v6 v7 v8 w' => ∃ (x6_1 : Int) (x7_1 : Int) (x8_1 : Int), v6 = .int .u64 x6_1 ∧ v7 = .int .u64 x7_1 ∧ v8 = .int .i64 x8_1 ∧ Aside0 (packhorseref06_Take.l0 kq l0 a1 x6_1 x7_1 x8_1 = some (r1, r2)) ∧ Aside0 (kq ≤ k) ∧ Drawn0 w w')
 case atStart => exact ⟨(0), (1), (0), ap3, ap3, ap3, H', ⟨Nat.le_refl _⟩, ap5⟩
 case round =>
  clear H'; (try clear p2); obtain ⟨x6_1, x7_1, x8_1, rfl, rfl, rfl, HA, HK1, ⟨m1, rfl⟩⟩ := hrel
  cases gk with
  | zero => exact absurd HA.out (by simp [packhorseref06_Take.l0])
  | succ k1 =>
   have H := HA.out; clear HA; simp only [packhorseref06_Take.l0] at H
   by_cases c3 : x8_1 < (l0.length : Int)
   ·rw [if_pos c3] at H
    have c3b0 : decide (x8_1 < (l0.length : Int)) = true := decide_eq_true c3; clear c3
    by_cases c4 : 0 ≤ x8_1
    ·rw [if_pos c4] at H
     have c4b0 : decide (0 ≤ x8_1) = true := decide_eq_true c4; clear c4; have HC5 := am H; clear H; have p275 : 0 ≤ (x8_1 : Int) := of_decide_eq_true ap2; have q275 : x8_1 < (l0.length : Int) := of_decide_eq_true ap2; obtain ⟨ad275, e275, hx275_0⟩ := Kd.at_int HR0.out x8_1 p275 q275
     cases e275
     replace p275 := eq_true p275; replace q275 := eq_true q275
     go_upto_region 6 with (fail)
     go_cut [45] (fun v45 wc => ∃ (kq : Nat) (x45_4 : Bool), v45 = .bool x45_4 ∧ Aside0 (packhorseref06_Take.j1 kq l0 a1 x6_1 x7_1 x8_1 (IntKind.u64.wrap (Int.tmod (rd l0 x8_1) 128)) x45_4 = some (r1, r2)) ∧ Aside0 (kq ≤ k1) ∧ Drawn0 w wc)
     case first =>
      have H := HC5.out; clear HC5
      by_cases c6 : x8_1 = 9
      ·rw [if_pos c6] at H
       have c6b0 : (x8_1 == 9) = true := beq_iff_eq.mpr c6; have c6b1 : (x8_1 != 9) = false := bne_eq_false_iff_eq.mpr c6; clear c6
       (first | rw [c6b0] | (simp only [i64_w, i32_w]; rw [c6b0]) | skip)
       by_cases c7 : (rd l0 x8_1) > 1
       ·rw [if_pos c7] at H
        have c7b0 : decide (1 < (rd l0 x8_1)) = true := decide_eq_true c7; clear c7; have H' := am H; clear H; have p276 : 0 ≤ (x8_1 : Int) := of_decide_eq_true ap2; have q276 : x8_1 < (l0.length : Int) := of_decide_eq_true ap2; obtain ⟨ad276, e276, hx276_0⟩ := Kd.at_int HR0.out x8_1 p276 q276; obtain rfl : ad275 = ad276 := (by injection e276); replace p276 := eq_true p276; replace q276 := eq_true q276
        go_wp2
        go_meet
        case rel => exact ⟨_, (true), ap3, H', ⟨by have := HK1.out; first | omega | exact Nat.le_refl _⟩, ap5⟩
       ·rw [if_neg c7] at H
        have c7b0 : decide (1 < (rd l0 x8_1)) = false := decide_eq_false c7; clear c7
        by_cases c8 : x8_1 > 9
        ·rw [if_pos c8] at H
         have c8b0 : decide (9 < x8_1) = true := decide_eq_true c8; clear c8; have H' := am H; clear H; have p276 : 0 ≤ (x8_1 : Int) := of_decide_eq_true ap2; have q276 : x8_1 < (l0.length : Int) := of_decide_eq_true ap2; obtain ⟨ad276, e276, hx276_0⟩ := Kd.at_int HR0.out x8_1 p276 q276; obtain rfl : ad275 = ad276 := (by injection e276); replace p276 := eq_true p276; replace q276 := eq_true q276
         go_wp2
         go_meet
         case rel => exact ⟨_, (true), ap3, H', ⟨by have := HK1.out; first | omega | exact Nat.le_refl _⟩, ap5⟩
        ·rw [if_neg c8] at H
         have c8b0 : decide (9 < x8_1) = false := decide_eq_false c8; clear c8
         by_cases c9 : (rd l0 x8_1) = 0
         ·rw [if_pos c9] at H
          have c9b0 : ((rd l0 x8_1) == 0) = true := beq_iff_eq.mpr c9; have c9b1 : ((rd l0 x8_1) != 0) = false := bne_eq_false_iff_eq.mpr c9; clear c9; have H' := am H; clear H; have p276 : 0 ≤ (x8_1 : Int) := of_decide_eq_true ap2; have q276 : x8_1 < (l0.length : Int) := of_decide_eq_true ap2; obtain ⟨ad276, e276, hx276_0⟩ := Kd.at_int HR0.out x8_1 p276 q276; obtain rfl : ad275 = ad276 := (by injection e276); replace p276 := eq_true p276; replace q276 := eq_true q276; have p277 : 0 ≤ (x8_1 : Int) := of_decide_eq_true ap2; have q277 : x8_1 < (l0.length : Int) := of_decide_eq_true ap2; obtain ⟨ad277, e277, hx277_0⟩ := Kd.at_int HR0.out x8_1 p277 q277; obtain rfl : ad275 = ad277 := (by injection e277); replace p277 := eq_true p277; replace q277 := eq_true q277
          go_wp2
          go_meet
          case rel => exact ⟨_, (decide (x8_1 > 0)), ap3, H', ⟨by have := HK1.out; first | omega | exact Nat.le_refl _⟩, ap5⟩
         ·rw [if_neg c9] at H
          have c9b0 : ((rd l0 x8_1) == 0) = false := beq_eq_false_iff_ne.mpr c9; have c9b1 : ((rd l0 x8_1) != 0) = true := bne_iff_ne.mpr c9; have H' := am H; clear H; have p276 : 0 ≤ (x8_1 : Int) := of_decide_eq_true ap2; have q276 : x8_1 < (l0.length : Int) := of_decide_eq_true ap2; obtain ⟨ad276, e276, hx276_0⟩ := Kd.at_int HR0.out x8_1 p276 q276; obtain rfl : ad275 = ad276 := (by injection e276); replace p276 := eq_true p276; replace q276 := eq_true q276; have p277 : 0 ≤ (x8_1 : Int) := of_decide_eq_true ap2; have q277 : x8_1 < (l0.length : Int) := of_decide_eq_true ap2; obtain ⟨ad277, e277, hx277_0⟩ := Kd.at_int HR0.out x8_1 p277 q277; obtain rfl : ad275 = ad277 := (by injection e277); replace p277 := eq_true p277; replace q277 := eq_true q277
          go_wp2
          go_meet
          case rel => exact ⟨_, (false), ap3, H', ⟨by have := HK1.out; first | omega | exact Nat.le_refl _⟩, ap5⟩
      ·rw [if_neg c6] at H
       have c6b0 : (x8_1 == 9) = false := beq_eq_false_iff_ne.mpr c6; have c6b1 : (x8_1 != 9) = true := bne_iff_ne.mpr c6
       (first | rw [c6b0] | (simp only [i64_w, i32_w]; rw [c6b0]) | skip)
       by_cases c10 : x8_1 > 9
       ·rw [if_pos c10] at H
        have c10b0 : decide (9 < x8_1) = true := decide_eq_true c10; clear c10; have H' := am H; clear H
        go_wp2
        go_meet
        case rel => exact ⟨_, (true), ap3, H', ⟨by have := HK1.out; first | omega | exact Nat.le_refl _⟩, ap5⟩
       ·rw [if_neg c10] at H
        have c10b0 : decide (9 < x8_1) = false := decide_eq_false c10; clear c10
        by_cases c11 : (rd l0 x8_1) = 0
        ·rw [if_pos c11] at H
         have c11b0 : ((rd l0 x8_1) == 0) = true := beq_iff_eq.mpr c11; have c11b1 : ((rd l0 x8_1) != 0) = false := bne_eq_false_iff_eq.mpr c11; clear c11; have H' := am H; clear H; have p278 : 0 ≤ (x8_1 : Int) := of_decide_eq_true ap2; have q278 : x8_1 < (l0.length : Int) := of_decide_eq_true ap2; obtain ⟨ad278, e278, hx278_0⟩ := Kd.at_int HR0.out x8_1 p278 q278; obtain rfl : ad275 = ad278 := (by injection e278); replace p278 := eq_true p278; replace q278 := eq_true q278
         go_wp2
         go_meet
         case rel => exact ⟨_, (decide (x8_1 > 0)), ap3, H', ⟨by have := HK1.out; first | omega | exact Nat.le_refl _⟩, ap5⟩
        ·rw [if_neg c11] at H
         have c11b0 : ((rd l0 x8_1) == 0) = false := beq_eq_false_iff_ne.mpr c11; have c11b1 : ((rd l0 x8_1) != 0) = true := bne_iff_ne.mpr c11; have H' := am H; clear H; have p278 : 0 ≤ (x8_1 : Int) := of_decide_eq_true ap2; have q278 : x8_1 < (l0.length : Int) := of_decide_eq_true ap2; obtain ⟨ad278, e278, hx278_0⟩ := Kd.at_int HR0.out x8_1 p278 q278; obtain rfl : ad275 = ad278 := (by injection e278); replace p278 := eq_true p278; replace q278 := eq_true q278
         go_wp2
         go_meet
         case rel => exact ⟨_, (false), ap3, H', ⟨by have := HK1.out; first | omega | exact Nat.le_refl _⟩, ap5⟩
     case rest =>
      clear HC5; (try clear c1); (try clear p2); (try clear q2); (try clear hx2); (try clear c3); (try clear c3b0); (try clear c4); (try clear c4b0); (try clear c6); (try clear c6b0); (try clear c6b1); (try clear c7); (try clear c7b0); (try clear c8); (try clear c8b0); (try clear c9); (try clear c9b0); (try clear c9b1); (try clear c10); (try clear c10b0); (try clear c11); (try clear c11b0); (try clear c11b1); (try clear hx275_0); (try clear hx276_0); (try clear hx277_0); (try clear hx278_0); (try clear p2); (try clear p275); (try clear p276); (try clear p277); (try clear p278); (try clear q275); (try clear q276); (try clear q277); (try clear q278); obtain ⟨kq, x45_4, rfl, HA, HJ4, ⟨mc4, rfl⟩⟩ := hcut
      cases kq with
      | zero => exact absurd HA.out (by simp [packhorseref06_Take.j1])
      | succ kj4 =>
       have H := HA.out; clear HA; simp only [packhorseref06_Take.j1] at H
       by_cases c12 : x45_4 = true
       ·subst c12
        have H1 : (some (0, (-1))) = some (r1, r2) := by rw [if_pos rfl] at H; exact H
        clear H; have H := H1; clear H1; simp only [Option.some.injEq, Prod.mk.injEq] at H; obtain ⟨rfl, rfl⟩ := H
        go_wp2
        go_ret2
        exact ⟨ap3, ap5⟩
       ·replace c12 := Bool.eq_false_iff.mpr c12
        subst c12
        have H1 : (if (IntKind.u64.wrap (x6_1 + (IntKind.u64.wrap ((IntKind.u64.wrap (Int.tmod (rd l0 x8_1) 128)) * x7_1)))) > a1 then (some (0, (-1))) else (if 0 ≤ x8_1 then (if x8_1 < (l0.length : Int) then (if (rd l0 x8_1) < 128 then (some (IntKind.u64.wrap (x6_1 + (IntKind.u64.wrap ((IntKind.u64.wrap (Int.tmod (rd l0 x8_1) 128)) * x7_1))), wrap64 (x8_1 + 1))) else (if (IntKind.u64.wrap (a1 - (IntKind.u64.wrap (x6_1 + (IntKind.u64.wrap ((IntKind.u64.wrap (Int.tmod (rd l0 x8_1) 128)) * x7_1)))))) < (IntKind.u64.wrap (x7_1 * 128)) then (some (0, (-1))) else (packhorseref06_Take.l0 kj4 l0 a1 (IntKind.u64.wrap (x6_1 + (IntKind.u64.wrap ((IntKind.u64.wrap (Int.tmod (rd l0 x8_1) 128)) * x7_1)))) (IntKind.u64.wrap (x7_1 * 128)) (wrap64 (x8_1 + 1))))) else (none)) else (none))) = some (r1, r2) := by rw [if_neg (show ¬ (false = true) by decide)] at H; exact H
        clear H; have H := H1; clear H1
        by_cases c13 : (IntKind.u64.wrap (x6_1 + (IntKind.u64.wrap ((IntKind.u64.wrap (Int.tmod (rd l0 x8_1) 128)) * x7_1)))) > a1
        ·rw [if_pos c13] at H
         have c13b0 : decide (a1 < (IntKind.u64.wrap (x6_1 + (IntKind.u64.wrap ((IntKind.u64.wrap (Int.tmod (rd l0 x8_1) 128)) * x7_1))))) = true := decide_eq_true c13; clear c13; simp only [Option.some.injEq, Prod.mk.injEq] at H; obtain ⟨rfl, rfl⟩ := H
         go_wp2
         go_ret2
         exact ⟨ap3, ap5⟩
        ·rw [if_neg c13] at H
         have c13b0 : decide (a1 < (IntKind.u64.wrap (x6_1 + (IntKind.u64.wrap ((IntKind.u64.wrap (Int.tmod (rd l0 x8_1) 128)) * x7_1))))) = false := decide_eq_false c13; clear c13
         by_cases c14 : 0 ≤ x8_1
         ·rw [if_pos c14] at H
          have c14b0 : decide (0 ≤ x8_1) = true := decide_eq_true c14; clear c14
          by_cases c15 : x8_1 < (l0.length : Int)
          ·rw [if_pos c15] at H
           have c15b0 : decide (x8_1 < (l0.length : Int)) = true := decide_eq_true c15; clear c15
           by_cases c16 : (rd l0 x8_1) < 128
           ·rw [if_pos c16] at H
            have c16b0 : decide ((rd l0 x8_1) < 128) = true := decide_eq_true c16; clear c16; simp only [Option.some.injEq, Prod.mk.injEq] at H; obtain ⟨rfl, rfl⟩ := H; have p279 : 0 ≤ (x8_1 : Int) := of_decide_eq_true ap2; have q279 : x8_1 < (l0.length : Int) := of_decide_eq_true ap2; obtain ⟨ad279, e279, hx279_0⟩ := Kd.at_int HR0.out x8_1 p279 q279; obtain rfl : ad275 = ad279 := (by injection e279); replace p279 := eq_true p279; replace q279 := eq_true q279
            go_wp2
            go_ret2
            exact ⟨ap3, ap5⟩
           ·rw [if_neg c16] at H
            have c16b0 : decide ((rd l0 x8_1) < 128) = false := decide_eq_false c16; clear c16
            by_cases c17 : (IntKind.u64.wrap (a1 - (IntKind.u64.wrap (x6_1 + (IntKind.u64.wrap ((IntKind.u64.wrap (Int.tmod (rd l0 x8_1) 128)) * x7_1)))))) < (IntKind.u64.wrap (x7_1 * 128))
            ·rw [if_pos c17] at H
             have c17b0 : decide ((IntKind.u64.wrap (a1 - (IntKind.u64.wrap (x6_1 + (IntKind.u64.wrap ((IntKind.u64.wrap (Int.tmod (rd l0 x8_1) 128)) * x7_1)))))) < (IntKind.u64.wrap (x7_1 * 128))) = true := decide_eq_true c17; clear c17; simp only [Option.some.injEq, Prod.mk.injEq] at H; obtain ⟨rfl, rfl⟩ := H; have p279 : 0 ≤ (x8_1 : Int) := of_decide_eq_true ap2; have q279 : x8_1 < (l0.length : Int) := of_decide_eq_true ap2; obtain ⟨ad279, e279, hx279_0⟩ := Kd.at_int HR0.out x8_1 p279 q279; obtain rfl : ad275 = ad279 := (by injection e279); replace p279 := eq_true p279; replace q279 := eq_true q279
             go_wp2
             go_ret2
             exact ⟨ap3, ap5⟩
            ·rw [if_neg c17] at H
             have c17b0 : decide ((IntKind.u64.wrap (a1 - (IntKind.u64.wrap (x6_1 + (IntKind.u64.wrap ((IntKind.u64.wrap (Int.tmod (rd l0 x8_1) 128)) * x7_1)))))) < (IntKind.u64.wrap (x7_1 * 128))) = false := decide_eq_false c17; clear c17; have H' := am H; clear H; have p279 : 0 ≤ (x8_1 : Int) := of_decide_eq_true ap2; have q279 : x8_1 < (l0.length : Int) := of_decide_eq_true ap2; obtain ⟨ad279, e279, hx279_0⟩ := Kd.at_int HR0.out x8_1 p279 q279; obtain rfl : ad275 = ad279 := (by injection e279); replace p279 := eq_true p279; replace q279 := eq_true q279
             go_wp2
             go_roundg kj4
             case measure => have := HK1.out; have := HJ4.out; omega
             case rel => exact ⟨(IntKind.u64.wrap (x6_1 + (IntKind.u64.wrap ((IntKind.u64.wrap (Int.tmod (rd l0 x8_1) 128)) * x7_1)))), (IntKind.u64.wrap (x7_1 * 128)), (wrap64 (x8_1 + 1)), ap3, ap3, ap3, H', ⟨by have := HK1.out; have := HJ4.out; omega⟩, ap5⟩
          ·rw [if_neg c15] at H
           exact absurd H (by simp)
         ·rw [if_neg c14] at H
          exact absurd H (by simp)
    ·rw [if_neg c4] at H
     exact absurd H (by simp)
   ·rw [if_neg c3] at H
    have c3b0 : decide (x8_1 < (l0.length : Int)) = false := decide_eq_false c3; clear c3; simp only [Option.some.injEq, Prod.mk.injEq] at H; obtain ⟨rfl, rfl⟩ := H
    go_wp2
    go_ret2
    exact ⟨ap3, ap5⟩
def IsS60 (w0 W : World) (g : Nat) (f0 : List Int) (f1 : Bool) : Prop := ∃ A0 c0, W.heap[g]? = some (.cells #[.slice A0 f0.length c0, .bool f1] 60 (0, 0)) ∧ w0.heap.size ≤ g ∧ (Kd.C (Kd.int .u8) w0 A0 f0.length f0 ∧ f0.length ≤ c0)
theorem IsS60.grown {w0 W : World} {g : Nat} {f0 : List Int} {f1 : Bool} {W1 : World} {row : Option Nat} (h : IsS60 w0 W g f0 f1) (hw : W.grownBy W1 row) (hne : some g ≠ row) : IsS60 w0 W1 g f0 f1 := by
 obtain ⟨A0, c0, hb, hg, hr0⟩ := h; exact ⟨A0, c0, blk_grown hb hw hne, hg, hr0⟩
theorem IsS60.below {w0 W : World} {g : Nat} {f0 : List Int} {f1 : Bool} {W1 : World} (h : IsS60 w0 W g f0 f1) (hw : Below W.heap.size W W1) : IsS60 w0 W1 g f0 f1 := h.grown (grown_of_below hw none) (by simp)
theorem IsS60.alloc {w0 W : World} {g : Nat} {f0 : List Int} {f1 : Bool} (h : IsS60 w0 W g f0 f1) (o : Obj) : IsS60 w0 (W.alloc o) g f0 f1 := h.below (below_alloc (Below.refl _ _) o)
theorem IsS60.drewN {w0 W : World} {g : Nat} {f0 : List Int} {f1 : Bool} (h : IsS60 w0 W g f0 f1) (m : Nat) : IsS60 w0 (W.drewN m) g f0 f1 := h
theorem IsS60.drew {w0 W : World} {g : Nat} {f0 : List Int} {f1 : Bool} (h : IsS60 w0 W g f0 f1) : IsS60 w0 W.drew g f0 f1 := h
theorem IsS60.at_ {w0 W : World} {g : Nat} {f0 : List Int} {f1 : Bool} {w' : World} {m : Nat} (hq : W.drewN m = w') (h : IsS60 w0 W g f0 f1) : IsS60 w0 w' g f0 f1 := by subst hq; exact IsS60.drewN h m
theorem IsS60.apart {w0 W : World} {g : Nat} {f0 : List Int} {f1 : Bool} {α : Type} {d : Kd α} {e : Nat} {base : Nat} {ok : Nat → Prop} {v : Value} {xs : List α} (h : IsS60 w0 W g f0 f1) (ho : d.R e W base ok v xs) (ht : ∀ q, q ∈ e :: d.E → q ≠ 60) : d.R e W base (fun k => ok k ∧ k ≠ g) v xs := by
 obtain ⟨A0, c0, hb, hg, hr0⟩ := h; exact Kd.R_types ho hb ht
theorem IsS60.own_ne {w0 W : World} {g : Nat} {f0 : List Int} {f1 : Bool} {α : Type} {d : Kd α} {e : Nat} {base : Nat} {ok : Nat → Prop} {v : Value} {xs : List α} (h : IsS60 w0 W g f0 f1) (ho : d.R e W base ok v xs) (ht : e ≠ 60) : some g ≠ v.ownBlock := by
 obtain ⟨A0, c0, hb, hg, hr0⟩ := h; exact Kd.R_ne ho hb ht
theorem IsS60.lt {w0 W : World} {g : Nat} {f0 : List Int} {f1 : Bool} (h : IsS60 w0 W g f0 f1) : g < W.heap.size := by
 obtain ⟨A0, c0, hb, hg, hr0⟩ := h; exact blk_lt hb
theorem IsS60.ge {w0 W : World} {g : Nat} {f0 : List Int} {f1 : Bool} (h : IsS60 w0 W g f0 f1) : w0.heap.size ≤ g := by
 obtain ⟨A0, c0, hb, hg, hr0⟩ := h; exact hg
theorem IsS60.far {w0 W : World} {g : Nat} {f0 : List Int} {f1 : Bool} {p : Addr} (h : IsS60 w0 W g f0 f1) (hne : g ≠ p.block) (u : Value) : IsS60 w0 (W.setCell p u) g f0 f1 := by
 obtain ⟨A0, c0, hb, hg, hr0⟩ := h; exact ⟨A0, c0, blk_far hb hne u, hg, hr0⟩
theorem cellS60_0 {W : World} {g : Nat} {A0 : Option Addr} {c0 : Nat} {f0 : List Int} {f1 : Bool} (h : W.heap[g]? = some (.cells #[.slice A0 f0.length c0, .bool f1] 60 (0, 0))) : W.cell? ⟨g, 0, none⟩ = some (.slice A0 f0.length c0) := (blk_cell h 0).trans rfl
theorem cellS60_1 {W : World} {g : Nat} {A0 : Option Addr} {c0 : Nat} {f0 : List Int} {f1 : Bool} (h : W.heap[g]? = some (.cells #[.slice A0 f0.length c0, .bool f1] 60 (0, 0))) : W.cell? ⟨g, 1, none⟩ = some (.bool f1) := (blk_cell h 1).trans rfl
theorem IsS60.set_1 {w0 W : World} {g : Nat} {f0 : List Int} {f1 : Bool} (h : IsS60 w0 W g f0 f1) (x : Bool) : IsS60 w0 (W.setCell ⟨g, 1, none⟩ (.bool x)) g f0 x := by
 obtain ⟨A0, c0, hb, hg, hr0⟩ := h; exact ⟨A0, c0, by simpa using blk_set hb 1 (.bool x), hg, hr0⟩
theorem IsS60.u {w0 w W : World} {g : Nat} {f0 : List Int} {f1 : Bool} {f0' : List Int} {f1' : Bool} (h : IsS60 w0 w g f0 f1) (hu : IsS60 w0 w g f0 f1 → IsS60 w0 W g f0' f1' := by intro h_; (repeat (first | (with_reducible first | exact h_ | apply IsS60.alloc | apply IsS60.drewN | apply IsS60.drew | apply IsS60.set_1) | refine IsS60.far ?_ (Aside0.out (by assumption)) _ | exact h_)); first | done | fail) : IsS60 w0 W g f0' f1' := hu h
theorem below_keepJ60 {B1 g : Nat} {u v W W' : World} (h : Below u.heap.size u W) (h1 : Below B1 v W) (h2 : Below B1 v W') (hk : KeepBut W W' g none) (hg : u.heap.size ≤ g) : Below u.heap.size u W' :=
 ⟨h2.os.trans (h1.os.symm.trans h.os), h2.tape.trans (h1.tape.symm.trans h.tape), h2.output.trans (h1.output.symm.trans h.output), Nat.le_trans h.size hk.1, fun k hlt => (hk.2 k (Nat.lt_of_lt_of_le hlt h.size) (by omega) (by simp)).trans (h.block k hlt)⟩
def JS60 (w0 W : World) (g : Nat) (f0 : List Int) (f1 : Bool) : Prop := ∃ wS : World, IsS60 wS W g f0 f1 ∧ Below wS.heap.size wS W ∧ Below w0.heap.size w0 wS
theorem JS60.below {w0 W : World} {g : Nat} {f0 : List Int} {f1 : Bool} {W1 : World} (h : JS60 w0 W g f0 f1) (hw : Below W.heap.size W W1) : JS60 w0 W1 g f0 f1 := by
 obtain ⟨wS, h1, h2, h3⟩ := h; exact ⟨wS, h1.below hw, below_then h2 h2.size hw, h3⟩
theorem JS60.alloc {w0 W : World} {g : Nat} {f0 : List Int} {f1 : Bool} (h : JS60 w0 W g f0 f1) (o : Obj) : JS60 w0 (W.alloc o) g f0 f1 := h.below (below_alloc (Below.refl _ _) o)
theorem JS60.drewN {w0 W : World} {g : Nat} {f0 : List Int} {f1 : Bool} (h : JS60 w0 W g f0 f1) (m : Nat) : JS60 w0 (W.drewN m) g f0 f1 := h.below (pw_below_drewN (Below.refl _ _) m)
theorem JS60.drew {w0 W : World} {g : Nat} {f0 : List Int} {f1 : Bool} (h : JS60 w0 W g f0 f1) : JS60 w0 W.drew g f0 f1 := h.below (below_drew (Below.refl _ _))
theorem JS60.far {w0 W : World} {g : Nat} {f0 : List Int} {f1 : Bool} {p : Addr} (h : JS60 w0 W g f0 f1) (hlt : g < p.block) (u : Value) : JS60 w0 (W.setCell p u) g f0 f1 := by
 obtain ⟨wS, h1, h2, h3⟩ := h; exact ⟨wS, h1.far (Nat.ne_of_lt hlt) u, h2.setCell (Nat.le_trans (IsS60.ge h1) (Nat.le_of_lt hlt)) u, h3⟩
theorem JS60.u {w0 w W : World} {g : Nat} {f0 : List Int} {f1 : Bool} {f0' : List Int} {f1' : Bool} (h : JS60 w0 w g f0 f1) (hu : JS60 w0 w g f0 f1 → JS60 w0 W g f0' f1' := by intro h_; (repeat (first | (with_reducible first | exact h_ | apply JS60.alloc | apply JS60.drewN | apply JS60.drew) | refine JS60.far ?_ (Aside0.out (by assumption)) _ | exact h_)); first | done | fail) : JS60 w0 W g f0' f1' := hu h
theorem JS60.apart {w0 W : World} {g : Nat} {f0 : List Int} {f1 : Bool} {α : Type} {d : Kd α} {e : Nat} {base : Nat} {ok : Nat → Prop} {v : Value} {xs : List α} (h : JS60 w0 W g f0 f1) (ho : d.R e W base ok v xs) (ht : ∀ q, q ∈ e :: d.E → q ≠ 60) : d.R e W base (fun k => ok k ∧ k ≠ g) v xs := by
 obtain ⟨wS, h1, h2, h3⟩ := h; exact h1.apart ho ht
theorem JS60.lt {w0 W : World} {g : Nat} {f0 : List Int} {f1 : Bool} (h : JS60 w0 W g f0 f1) : g < W.heap.size := by
 obtain ⟨wS, h1, h2, h3⟩ := h; exact h1.lt
theorem JS60.ge {w0 W : World} {g : Nat} {f0 : List Int} {f1 : Bool} (h : JS60 w0 W g f0 f1) : w0.heap.size ≤ g := by
 obtain ⟨wS, h1, h2, h3⟩ := h; exact Nat.le_trans h3.size h1.ge
def packhorseref10_Scan_Number.f (k : Nat) (s0_0 : List Int) (s0_1 : Bool) (a1 : Int) : Option (Int × List Int × Bool) := (packhorseref06_Take.f k s0_0 a1).bind fun p => if s0_1 = false then some (0, s0_0, false) else if p.2 ≤ 0 then some (0, s0_0, false) else if p.2 ≤ (s0_0.length : Int) then some (wrap64 p.1, s0_0.drop p.2.toNat, true) else none
theorem IsS60.cut {w0 W : World} {g : Nat} {f0 : List Int} {f1 : Bool} (h : IsS60 w0 W g f0 f1) (A' : Option Addr) (c' : Nat) (f0' : List Int) (hC : Kd.C (Kd.int .u8) w0 A' f0'.length f0' ∧ f0'.length ≤ c') : IsS60 w0 (W.setCell ⟨g, 0, none⟩ (.slice A' f0'.length c')) g f0' f1 := by
 obtain ⟨A0, c0, hb, hg, hr0⟩ := h; exact ⟨A', c', by simpa using blk_set hb 0 (.slice A' f0'.length c'), hg, hC⟩
set_option maxHeartbeats 8000000 in
set_option maxRecDepth 100000 in
theorem packhorseref10_Scan_Number.calls (k : Nat) (g : Nat) (s0_0 : List Int) (s0_1 : Bool) (a1 : Int) (r1 : Int) (r2 : List Int) (r3 : Bool) (w0 w : World) (hI : IsS60 w0 w g s0_0 s0_1) (hB : Below w0.heap.size w0 w) (h : packhorseref10_Scan_Number.f k s0_0 s0_1 a1 = some (r1, r2, r3)) :
  Calls Tryd.prog 50 #[.pointer (some ⟨g, 0, none⟩), .int .u64 a1] w fun e w' => e = .returned (.int .i64 r1) ∧ IsS60 w0 w' g r2 r3 ∧ Below w0.heap.size w0 w' ∧ KeepBut w w' g none := by
 have HI := am hI; have HB := am hB; obtain ⟨A0, c0, hblk, hge, hC, hle⟩ := hI; have HC := am hC; have HC2 := am (Kd.C_below hC hB); have HL := am hle; have HG := am hge; have hc0 := cellS60_0 hblk; have hc1 := cellS60_1 hblk; have hf0 := blk_frozen hblk 0; have hf1 := blk_frozen hblk 1; clear hB hblk hge hC hle; obtain ⟨i0, hi0, hzz⟩ := Option.map_eq_some_iff.1 info5; simp only [Prod.mk.injEq] at hzz; have HZ := am hzz.2.1; have HI0 := am hi0; clear hzz hi0
 unfold packhorseref10_Scan_Number.f at h
 cases hn : packhorseref06_Take.f k s0_0 a1 with
 | none => rw [hn] at h; cases h
 | some p =>
  obtain ⟨n, u⟩ := p; rw [hn] at h; simp only [Option.bind_some] at h; have HN := am hn; clear hn
  cases s0_1 with
  | false =>
   rw [if_pos rfl] at h; have h := Option.some.inj h; simp only [Prod.mk.injEq] at h; obtain ⟨rfl, rfl, rfl⟩ := h
   go_enter Tryd.func50, Tryd.ntmps50
   go_wp2_with (go_at_call 61; refine (packhorseref06_Take.calls k A0 c0 s0_0 a1 n u _ HC2.out HL.out HN.out).mono ?_; rintro e w' ⟨rfl, ⟨nd, rfl⟩⟩)
   go_ret
   exact ⟨rfl, (HI.out.drewN nd).set_1 false, below_set (pw_below_drewN HB.out nd) HG.out, KeepBut.set_ (keep_drewN (KeepBut.refl w g none) nd) _ _⟩
  | true =>
   rw [if_neg (by decide)] at h
   by_cases c1 : u ≤ 0
   ·rw [if_pos c1] at h
    have h := Option.some.inj h; simp only [Prod.mk.injEq] at h; obtain ⟨rfl, rfl, rfl⟩ := h; have c1b : decide (u ≤ 0) = true := decide_eq_true c1; clear c1
    go_enter Tryd.func50, Tryd.ntmps50
    go_wp2_with (go_at_call 61; refine (packhorseref06_Take.calls k A0 c0 s0_0 a1 n u _ HC2.out HL.out HN.out).mono ?_; rintro e w' ⟨rfl, ⟨nd, rfl⟩⟩)
    go_ret
    exact ⟨rfl, (HI.out.drewN nd).set_1 false, below_set (pw_below_drewN HB.out nd) HG.out, KeepBut.set_ (keep_drewN (KeepBut.refl w g none) nd) _ _⟩
   ·rw [if_neg c1] at h
    have c1b : decide (u ≤ 0) = false := decide_eq_false c1
    by_cases c2 : u ≤ (s0_0.length : Int)
    ·rw [if_pos c2] at h
     have h := Option.some.inj h; simp only [Prod.mk.injEq] at h; obtain ⟨rfl, rfl, rfl⟩ := h; have hcut := cut_from (P := Tryd.prog) 52 5 .i64 Tryd.underlying52 HI0.out 1 HZ.out A0 s0_0.length c0 u (by omega) c2; have hdr := Kd.C_drop (m := u.toNat) HC.out (by omega) HL.out; rw [show (Kd.int .u8).sz = 1 from rfl] at hdr; obtain ⟨A', hA'⟩ : ∃ A' : Option Addr, A' = (if c0 = u.toNat then A0 else A0.map (·.add (u.toNat * 1))) := ⟨_, rfl⟩; rw [← hA'] at hdr hcut; rw [← List.length_drop] at hcut; have HD := am (show Kd.C (Kd.int .u8) w0 A' (s0_0.drop u.toNat).length (s0_0.drop u.toNat) ∧ (s0_0.drop u.toNat).length ≤ c0 - u.toNat from ⟨hdr, by rw [List.length_drop]; have := HL.out; omega⟩); clear hdr hA'; have HU := am c2; clear c2
     go_enter Tryd.func50, Tryd.ntmps50
     go_wp2_with (go_at_call 61; refine (packhorseref06_Take.calls k A0 c0 s0_0 a1 n u _ HC2.out HL.out HN.out).mono ?_; rintro e w' ⟨rfl, ⟨nd, rfl⟩⟩)
     go_ret
     exact ⟨rfl, (by have z_ := (HI.out.drewN nd).cut _ _ _ HD.out; rw [List.length_drop] at z_; exact z_), below_set (pw_below_drewN HB.out nd) HG.out, KeepBut.set_ (keep_drewN (KeepBut.refl w g none) nd) _ _⟩
    ·rw [if_neg c2] at h; cases h
def packhorseref10_Scan_Text.f (k : Nat) (s0_0 : List Int) (s0_1 : Bool) (a1 : Int) : Option (ByteArray × List Int × Bool) := if 0 ≤ a1 ∧ a1 ≤ 1000000 then (packhorseref10_Scan_Number.f k s0_0 s0_1 a1).bind fun p => if p.2.2 = false then some (⟨#[]⟩, p.2.1, false) else if (p.2.1.length : Int) < p.1 then some (⟨#[]⟩, p.2.1, false) else if 0 ≤ p.1 then some (strOfNums (p.2.1.take p.1.toNat), p.2.1.drop p.1.toNat, true) else none else none
set_option maxHeartbeats 8000000 in
set_option maxRecDepth 100000 in
theorem packhorseref10_Scan_Text.calls (k : Nat) (g : Nat) (s0_0 : List Int) (s0_1 : Bool) (a1 : Int) (r1 : ByteArray) (r2 : List Int) (r3 : Bool) (w0 w : World) (hI : IsS60 w0 w g s0_0 s0_1) (hB : Below w0.heap.size w0 w) (h : packhorseref10_Scan_Text.f k s0_0 s0_1 a1 = some (r1, r2, r3)) :
  Calls Tryd.prog 51 #[.pointer (some ⟨g, 0, none⟩), .int .u64 a1] w fun e w' => e = .returned (.string r1) ∧ IsS60 w0 w' g r2 r3 ∧ Below w0.heap.size w0 w' ∧ KeepBut w w' g none := by
 unfold packhorseref10_Scan_Text.f at h
 by_cases ca : 0 ≤ a1 ∧ a1 ≤ 1000000
 ·rw [if_pos ca] at h
  obtain ⟨ca0, ca1⟩ := ca
  cases hn : packhorseref10_Scan_Number.f k s0_0 s0_1 a1 with
  | none => rw [hn] at h; cases h
  | some p =>
   obtain ⟨n, s, b⟩ := p; rw [hn] at h; simp only [Option.bind_some] at h; have HN := am hn; clear hn; have HI := am hI; have HB := am hB; obtain ⟨A0, c0, hblk, hge, hC, hle⟩ := hI; have HG := am hge; have hc0 := cellS60_0 hblk; have hc1 := cellS60_1 hblk; have hf0 := blk_frozen hblk 0; have hf1 := blk_frozen hblk 1; clear hB hblk hge hC hle; obtain ⟨i0, hi0, hzz⟩ := Option.map_eq_some_iff.1 info5; simp only [Prod.mk.injEq] at hzz; have HZ := am hzz.2.1; have HI0 := am hi0; clear hzz hi0; have HS := HI; have CA := am ca1; clear ca1
   cases b
   ·-- false
    rw [if_pos rfl] at h; have h := Option.some.inj h; simp only [Prod.mk.injEq] at h; obtain ⟨rfl, rfl, rfl⟩ := h
    go_enter Tryd.func51, Tryd.ntmps51
    go_wp2_with (go_at_call 50; refine (packhorseref10_Scan_Number.calls k g _ _ _ n s _ w0 _ HS.out HB.out HN.out).mono ?_; rintro e w2 ⟨rfl, hi, hb, hk⟩; have HI2 := am hi; have HB2 := am hb; have HK2 := am hk; obtain ⟨A2, c2, hblk2, hge2, hC2, hle2⟩ := hi; have hd0 := cellS60_0 hblk2; have hd1 := cellS60_1 hblk2; have he0 := blk_frozen hblk2 0; have he1 := blk_frozen hblk2 1; have HC2 := am hC2; have HL2 := am hle2; clear hb hk hblk2 hge2 hC2 hle2)
    go_ret
    exact ⟨rfl, HI2.out.set_1 false, below_set HB2.out HG.out, KeepBut.set_ HK2.out _ _⟩
   ·-- true
    rw [if_neg (by decide)] at h
    by_cases cn : (s.length : Int) < n
    ·rw [if_pos cn] at h
     have cnb : decide ((s.length : Int) < n) = true := decide_eq_true cn; have h := Option.some.inj h; simp only [Prod.mk.injEq] at h; obtain ⟨rfl, rfl, rfl⟩ := h; clear cn
     go_enter Tryd.func51, Tryd.ntmps51
     go_wp2_with (go_at_call 50; refine (packhorseref10_Scan_Number.calls k g _ _ _ n s _ w0 _ HS.out HB.out HN.out).mono ?_; rintro e w2 ⟨rfl, hi, hb, hk⟩; have HI2 := am hi; have HB2 := am hb; have HK2 := am hk; obtain ⟨A2, c2, hblk2, hge2, hC2, hle2⟩ := hi; have hd0 := cellS60_0 hblk2; have hd1 := cellS60_1 hblk2; have he0 := blk_frozen hblk2 0; have he1 := blk_frozen hblk2 1; have HC2 := am hC2; have HL2 := am hle2; clear hb hk hblk2 hge2 hC2 hle2; have hsl := Kd.C_max HC2.out; have hlw : IntKind.i64.wrap ((s.length : Nat) : Int) = ((s.length : Nat) : Int) := IntWalk.i64_in _ ⟨by omega, by omega⟩)
     go_ret
     exact ⟨rfl, HI2.out.set_1 false, below_set HB2.out HG.out, KeepBut.set_ HK2.out _ _⟩
    ·rw [if_neg cn] at h
     have cnb : decide ((s.length : Int) < n) = false := decide_eq_false cn
     by_cases cp : 0 ≤ n
     ·rw [if_pos cp] at h
      have h := Option.some.inj h; simp only [Prod.mk.injEq] at h; obtain ⟨rfl, rfl, rfl⟩ := h; have HP := am cp; have HM := am (show n ≤ (s.length : Int) by omega); clear cn cp
      go_enter Tryd.func51, Tryd.ntmps51
      go_wp2_with (go_at_call 50; refine (packhorseref10_Scan_Number.calls k g _ _ _ n s _ w0 _ HS.out HB.out HN.out).mono ?_; rintro e w2 ⟨rfl, hi, hb, hk⟩; have HI2 := am hi; have HB2 := am hb; have HK2 := am hk; obtain ⟨A2, c2, hblk2, hge2, hC2, hle2⟩ := hi; have hd0 := cellS60_0 hblk2; have hd1 := cellS60_1 hblk2; have he0 := blk_frozen hblk2 0; have he1 := blk_frozen hblk2 1; have HC2 := am hC2; have HL2 := am hle2; clear hb hk hblk2 hge2 hC2 hle2; have htl : (s.take n.toNat).length = n.toNat := (by rw [List.length_take]; have := HM.out; omega); have hcut := cut_to (P := Tryd.prog) 52 5 .i64 Tryd.underlying52 HI0.out A2 s.length c2 n HP.out HM.out HL2.out; have hcu2 := cut_from (P := Tryd.prog) 52 5 .i64 Tryd.underlying52 HI0.out 1 HZ.out A2 s.length c2 n HP.out HM.out; obtain ⟨A3, hA3⟩ : ∃ A3 : Option Addr, A3 = (if c2 = n.toNat then A2 else A2.map (·.add (n.toNat * 1))) := ⟨_, rfl⟩; have HD := am (show Kd.C (Kd.int .u8) w0 A3 (s.drop n.toNat).length (s.drop n.toNat) ∧ (s.drop n.toNat).length ≤ c2 - n.toNat from ⟨by rw [hA3]; exact Kd.C_drop (m := n.toNat) HC2.out (by have := HM.out; omega) HL2.out, by rw [List.length_drop]; have := HL2.out; omega⟩); rw [← hA3] at hcu2; clear hA3; have hst := Kd.C_string (P := Tryd.prog) (w := w2) (src := 52) (dst := 9) (e := 5) (A := A2) (n := n.toNat) (c := c2) (xs := s.take n.toNat) Tryd.underlying52 Tryd.underlying5 Tryd.underlying9 (by have z_ := Kd.C_below (Kd.C_take (m := n.toNat) HC2.out (by have := HM.out; omega)) HB2.out; rw [htl] at z_; exact z_); clear htl; have hsl := Kd.C_max HC2.out; have hlw : IntKind.i64.wrap ((s.length : Nat) : Int) = ((s.length : Nat) : Int) := IntWalk.i64_in _ ⟨by omega, by omega⟩)
      go_ret
      exact ⟨rfl, (by have z_ := HI2.out.cut _ _ _ HD.out; rw [List.length_drop] at z_; exact z_), below_set HB2.out HG.out, KeepBut.set_ HK2.out _ _⟩
     ·rw [if_neg cp] at h; cases h
 ·rw [if_neg ca] at h; cases h
def packhorseref11_Take.l0 : Nat → Int → Int → List Int → Bool → Int → Int → Int → Int → Int → ByteArray → ByteArray → ByteArray → List ByteArray → Option (Int × Int × Int × Int × Int × ByteArray × ByteArray × ByteArray × List ByteArray × Bool × List Int × Bool)
 | 0, _, _, _, _, _, _, _, _, _, _, _, _, _ => none
 | k + 1, x5, x6, x1000, x1001, X0, X1, X2, X3, X4, X5, X6, X7, X8 => if x6 < x5 then ((packhorseref10_Scan_Text.f k x1000 x1001 32).bind fun bt309 => (if X8.length < 8796093022208 then (packhorseref11_Take.l0 k x5 (wrap64 (x6 + 1)) bt309.2.1 bt309.2.2 X0 X1 X2 X3 X4 X5 X6 X7 (X8 ++ [bt309.1])) else (none))) else (if x1001 = true then ((packhorseref11_Right.f k X0 X1 X2 X3 X4 X5 X6 X7 X8).bind fun t315 => (if t315 = true then (some (X0, X1, X2, X3, X4, X5, X6, X7, X8, true, x1000, x1001)) else (some (0, 0, 0, 0, 0, ⟨#[]⟩, ⟨#[]⟩, ⟨#[]⟩, ([] : List ByteArray), false, x1000, x1001)))) else (some (0, 0, 0, 0, 0, ⟨#[]⟩, ⟨#[]⟩, ⟨#[]⟩, ([] : List ByteArray), false, x1000, x1001)))
def packhorseref11_Take.f (k : Nat) (s0_0 : List Int) (s0_1 : Bool) : Option (Int × Int × Int × Int × Int × ByteArray × ByteArray × ByteArray × List ByteArray × Bool × List Int × Bool) := (packhorseref10_Scan_Number.f k s0_0 s0_1 1000000000000).bind fun bt282 => ((packhorseref10_Scan_Number.f k bt282.2.1 bt282.2.2 2).bind fun bt285 => ((packhorseref10_Scan_Number.f k bt285.2.1 bt285.2.2 3).bind fun bt288 => ((packhorseref10_Scan_Number.f k bt288.2.1 bt288.2.2 1000000000000).bind fun bt291 => ((packhorseref10_Scan_Number.f k bt291.2.1 bt291.2.2 1099511627776).bind fun bt294 => ((packhorseref10_Scan_Text.f k bt294.2.1 bt294.2.2 32).bind fun bt297 => ((packhorseref10_Scan_Text.f k bt297.2.1 bt297.2.2 32).bind fun bt300 => ((packhorseref10_Scan_Text.f k bt300.2.1 bt300.2.2 32).bind fun bt303 => ((packhorseref10_Scan_Number.f k bt303.2.1 bt303.2.2 64).bind fun bt306 => (packhorseref11_Take.l0 k bt306.1 0 bt306.2.1 bt306.2.2 bt282.1 bt291.1 bt294.1 bt285.1 bt288.1 bt297.1 bt300.1 bt303.1 ([] : List ByteArray))))))))))
def packhorseref11_Take.T14 : Bool × List (List Nat × List Nat) := (true, [([], []), ([0], [0]), ([], []), ([2], [2]), ([3], [3]), ([1, 4, 3], [1, 4]), ([0, 1, 2, 3, 4, 5], []), ([6, 5, 5, 0, 1, 2, 3, 4, 5], [5, 6])])
def packhorseref11_Take.B14 : List Nat := [0, 1, 0, 4, 12, 31, 63, 127]
theorem packhorseref11_Take.tab14 : rtab .any (opsOf Tryd.f27 14) = packhorseref11_Take.T14 := by kernel_rfl
theorem packhorseref11_Take.bits14 : waitsOk packhorseref11_Take.T14.2 packhorseref11_Take.B14 = true := by kernel_rfl
set_option maxHeartbeats 8000000 in
set_option maxRecDepth 100000 in
theorem packhorseref11_Take.calls (k : Nat) (g : Nat) (s0_0 : List Int) (s0_1 : Bool) (r1 : Int) (r2 : Int) (r3 : Int) (r4 : Int) (r5 : Int) (r6 : ByteArray) (r7 : ByteArray) (r8 : ByteArray) (r9 : List ByteArray) (r10 : Bool) (r11 : List Int) (r12 : Bool) (w0 w : World) (hI : IsS60 w0 w g s0_0 s0_1) (hB : Below w0.heap.size w0 w) (h : packhorseref11_Take.f k s0_0 s0_1 = some (r1, r2, r3, r4, r5, r6, r7, r8, r9, r10, r11, r12)) :
  Calls Tryd.prog 27 #[.pointer (some ⟨g, 0, none⟩)] w fun e w' => ∃ v8_ : Value, e = .returned (.tuple #[.agg #[.int .i64 r1, .int .i64 r2, .int .i64 r3, .int .i64 r4, .int .i64 r5, .string r6, .string r7, .string r8, v8_], .bool r10]) ∧ Kd.R Kd.string 9 w' w.heap.size (fun _ => True) v8_ r9 ∧ IsS60 w0 w' g r11 r12 ∧ Below w0.heap.size w0 w' ∧ KeepBut w w' g none := by
 have hu31 := Tryd.underlying31; have HI0 := am hI; have HK := am (KeepBut.refl w g none); have HL := am hB.size; clear hI; have HW0 := am hB.size; have HB := am hB; clear hB; have H : ((packhorseref10_Scan_Number.f k s0_0 s0_1 1000000000000).bind fun bt282 => ((packhorseref10_Scan_Number.f k bt282.2.1 bt282.2.2 2).bind fun bt285 => ((packhorseref10_Scan_Number.f k bt285.2.1 bt285.2.2 3).bind fun bt288 => ((packhorseref10_Scan_Number.f k bt288.2.1 bt288.2.2 1000000000000).bind fun bt291 => ((packhorseref10_Scan_Number.f k bt291.2.1 bt291.2.2 1099511627776).bind fun bt294 => ((packhorseref10_Scan_Text.f k bt294.2.1 bt294.2.2 32).bind fun bt297 => ((packhorseref10_Scan_Text.f k bt297.2.1 bt297.2.2 32).bind fun bt300 => ((packhorseref10_Scan_Text.f k bt300.2.1 bt300.2.2 32).bind fun bt303 => ((packhorseref10_Scan_Number.f k bt303.2.1 bt303.2.2 64).bind fun bt306 => (packhorseref11_Take.l0 k bt306.1 0 bt306.2.1 bt306.2.2 bt282.1 bt291.1 bt294.1 bt285.1 bt288.1 bt297.1 bt300.1 bt303.1 ([] : List ByteArray))))))))))) = some (r1, r2, r3, r4, r5, r6, r7, r8, r9, r10, r11, r12) := h; clear h; replace H := obm H; obtain ⟨⟨t282, t283, t284⟩, A20, H⟩ := H; replace H : ((packhorseref10_Scan_Number.f k t283 t284 2).bind fun bt285 => ((packhorseref10_Scan_Number.f k bt285.2.1 bt285.2.2 3).bind fun bt288 => ((packhorseref10_Scan_Number.f k bt288.2.1 bt288.2.2 1000000000000).bind fun bt291 => ((packhorseref10_Scan_Number.f k bt291.2.1 bt291.2.2 1099511627776).bind fun bt294 => ((packhorseref10_Scan_Text.f k bt294.2.1 bt294.2.2 32).bind fun bt297 => ((packhorseref10_Scan_Text.f k bt297.2.1 bt297.2.2 32).bind fun bt300 => ((packhorseref10_Scan_Text.f k bt300.2.1 bt300.2.2 32).bind fun bt303 => ((packhorseref10_Scan_Number.f k bt303.2.1 bt303.2.2 64).bind fun bt306 => (packhorseref11_Take.l0 k bt306.1 0 bt306.2.1 bt306.2.2 t282 bt291.1 bt294.1 bt285.1 bt288.1 bt297.1 bt300.1 bt303.1 ([] : List ByteArray)))))))))) = some (r1, r2, r3, r4, r5, r6, r7, r8, r9, r10, r11, r12) := H; have A2 := am A20; clear A20; replace H := obm H; obtain ⟨⟨t285, t286, t287⟩, A30, H⟩ := H; replace H : ((packhorseref10_Scan_Number.f k t286 t287 3).bind fun bt288 => ((packhorseref10_Scan_Number.f k bt288.2.1 bt288.2.2 1000000000000).bind fun bt291 => ((packhorseref10_Scan_Number.f k bt291.2.1 bt291.2.2 1099511627776).bind fun bt294 => ((packhorseref10_Scan_Text.f k bt294.2.1 bt294.2.2 32).bind fun bt297 => ((packhorseref10_Scan_Text.f k bt297.2.1 bt297.2.2 32).bind fun bt300 => ((packhorseref10_Scan_Text.f k bt300.2.1 bt300.2.2 32).bind fun bt303 => ((packhorseref10_Scan_Number.f k bt303.2.1 bt303.2.2 64).bind fun bt306 => (packhorseref11_Take.l0 k bt306.1 0 bt306.2.1 bt306.2.2 t282 bt291.1 bt294.1 t285 bt288.1 bt297.1 bt300.1 bt303.1 ([] : List ByteArray))))))))) = some (r1, r2, r3, r4, r5, r6, r7, r8, r9, r10, r11, r12) := H; have A3 := am A30; clear A30; replace H := obm H; obtain ⟨⟨t288, t289, t290⟩, A40, H⟩ := H; replace H : ((packhorseref10_Scan_Number.f k t289 t290 1000000000000).bind fun bt291 => ((packhorseref10_Scan_Number.f k bt291.2.1 bt291.2.2 1099511627776).bind fun bt294 => ((packhorseref10_Scan_Text.f k bt294.2.1 bt294.2.2 32).bind fun bt297 => ((packhorseref10_Scan_Text.f k bt297.2.1 bt297.2.2 32).bind fun bt300 => ((packhorseref10_Scan_Text.f k bt300.2.1 bt300.2.2 32).bind fun bt303 => ((packhorseref10_Scan_Number.f k bt303.2.1 bt303.2.2 64).bind fun bt306 => (packhorseref11_Take.l0 k bt306.1 0 bt306.2.1 bt306.2.2 t282 bt291.1 bt294.1 t285 t288 bt297.1 bt300.1 bt303.1 ([] : List ByteArray)))))))) = some (r1, r2, r3, r4, r5, r6, r7, r8, r9, r10, r11, r12) := H; have A4 := am A40; clear A40; replace H := obm H; obtain ⟨⟨t291, t292, t293⟩, A50, H⟩ := H; replace H : ((packhorseref10_Scan_Number.f k t292 t293 1099511627776).bind fun bt294 => ((packhorseref10_Scan_Text.f k bt294.2.1 bt294.2.2 32).bind fun bt297 => ((packhorseref10_Scan_Text.f k bt297.2.1 bt297.2.2 32).bind fun bt300 => ((packhorseref10_Scan_Text.f k bt300.2.1 bt300.2.2 32).bind fun bt303 => ((packhorseref10_Scan_Number.f k bt303.2.1 bt303.2.2 64).bind fun bt306 => (packhorseref11_Take.l0 k bt306.1 0 bt306.2.1 bt306.2.2 t282 t291 bt294.1 t285 t288 bt297.1 bt300.1 bt303.1 ([] : List ByteArray))))))) = some (r1, r2, r3, r4, r5, r6, r7, r8, r9, r10, r11, r12) := H
 have A5 := am A50; clear A50; replace H := obm H; obtain ⟨⟨t294, t295, t296⟩, A60, H⟩ := H; replace H : ((packhorseref10_Scan_Text.f k t295 t296 32).bind fun bt297 => ((packhorseref10_Scan_Text.f k bt297.2.1 bt297.2.2 32).bind fun bt300 => ((packhorseref10_Scan_Text.f k bt300.2.1 bt300.2.2 32).bind fun bt303 => ((packhorseref10_Scan_Number.f k bt303.2.1 bt303.2.2 64).bind fun bt306 => (packhorseref11_Take.l0 k bt306.1 0 bt306.2.1 bt306.2.2 t282 t291 t294 t285 t288 bt297.1 bt300.1 bt303.1 ([] : List ByteArray)))))) = some (r1, r2, r3, r4, r5, r6, r7, r8, r9, r10, r11, r12) := H; have A6 := am A60; clear A60; replace H := obm H; obtain ⟨⟨t297, t298, t299⟩, A70, H⟩ := H; replace H : ((packhorseref10_Scan_Text.f k t298 t299 32).bind fun bt300 => ((packhorseref10_Scan_Text.f k bt300.2.1 bt300.2.2 32).bind fun bt303 => ((packhorseref10_Scan_Number.f k bt303.2.1 bt303.2.2 64).bind fun bt306 => (packhorseref11_Take.l0 k bt306.1 0 bt306.2.1 bt306.2.2 t282 t291 t294 t285 t288 t297 bt300.1 bt303.1 ([] : List ByteArray))))) = some (r1, r2, r3, r4, r5, r6, r7, r8, r9, r10, r11, r12) := H; have A7 := am A70; clear A70; replace H := obm H; obtain ⟨⟨t300, t301, t302⟩, A80, H⟩ := H; replace H : ((packhorseref10_Scan_Text.f k t301 t302 32).bind fun bt303 => ((packhorseref10_Scan_Number.f k bt303.2.1 bt303.2.2 64).bind fun bt306 => (packhorseref11_Take.l0 k bt306.1 0 bt306.2.1 bt306.2.2 t282 t291 t294 t285 t288 t297 t300 bt303.1 ([] : List ByteArray)))) = some (r1, r2, r3, r4, r5, r6, r7, r8, r9, r10, r11, r12) := H; have A8 := am A80; clear A80; replace H := obm H; obtain ⟨⟨t303, t304, t305⟩, A90, H⟩ := H; replace H : ((packhorseref10_Scan_Number.f k t304 t305 64).bind fun bt306 => (packhorseref11_Take.l0 k bt306.1 0 bt306.2.1 bt306.2.2 t282 t291 t294 t285 t288 t297 t300 t303 ([] : List ByteArray))) = some (r1, r2, r3, r4, r5, r6, r7, r8, r9, r10, r11, r12) := H; have A9 := am A90; clear A90; replace H := obm H; obtain ⟨⟨t306, t307, t308⟩, A100, H⟩ := H; replace H : (packhorseref11_Take.l0 k t306 0 t307 t308 t282 t291 t294 t285 t288 t297 t300 t303 ([] : List ByteArray)) = some (r1, r2, r3, r4, r5, r6, r7, r8, r9, r10, r11, r12) := H; have A10 := am A100; clear A100; have H' := am H; clear H
 go_enter Tryd.func27, Tryd.ntmps27
 go_wp2_with (first | ((with_reducible refine gate_dst (N := 2) rfl ?_); refine box_event ?hg (N := 2) ?hd (cs := #[.int .i64 0, .int .i64 0, .int .i64 0, .int .i64 0, .int .i64 0, .string ⟨#[]⟩, .string ⟨#[]⟩, .string ⟨#[]⟩, .slice none 0 0]) (t := 31) ?hr ?_; (case hd => rfl); (case hg => rfl); (case hr => first | (go_simp; done) | (go_simp; rfl)); intro gb280 hg w11 hbox hb; have _ := am (IsS60.below (IsS60.u HI0.out) hb); have _ := am (KeepBut.trans (ku HK.out) (KeepBut.of_below hb g none) (.inl rfl)); have _ := am (below_step (beg (IsS60.ge HI0.out) HB.out) hb); have _ := am (hbox); have _ := am ((by rw [hg]; exact (keep_size (w := w) (g := g) (row := none) (ku HK.out)) : w.heap.size ≤ gb280)); have _ := am ((Nat.le_trans HW0.out (by rw [hg]; exact (keep_size (w := w) (g := g) (row := none) (ku HK.out)) : w.heap.size ≤ gb280) : w0.heap.size ≤ gb280)); have _ := am ((by rw [hg]; exact (IsS60.lt (show IsS60 w0 _ g s0_0 s0_1 from IsS60.u HI0.out)) : g < gb280)); have _ := am ((by rw [hg]; exact Nat.ne_of_lt (IsS60.lt (show IsS60 w0 _ g s0_0 s0_1 from IsS60.u HI0.out)) : g ≠ gb280)); have _ := am ((by rw [hg]; exact Nat.ne_of_gt (IsS60.lt (show IsS60 w0 _ g s0_0 s0_1 from IsS60.u HI0.out)) : gb280 ≠ g)); clear HI0 HK HB; rename_i HI0 HK HB BK280 GW280 GE280 NG0_280 NB0_280 NB280_0; clear hb hbox hg) | ((with_reducible refine gate_dst (N := 4) rfl ?_); refine box_event ?hg (N := 4) ?hd (cs := #[.int .i64 0, .int .i64 0, .int .i64 0, .int .i64 0, .int .i64 0, .string ⟨#[]⟩, .string ⟨#[]⟩, .string ⟨#[]⟩, .slice none 0 0]) (t := 31) ?hr ?_; (case hd => rfl); (case hg => rfl); (case hr => first | (go_simp; done) | (go_simp; rfl)); intro gb281 hg w12 hbox hb; have _ := am (IsS60.below (IsS60.u HI0.out) hb); have _ := am (blk_below (bu BK280.out) hb); have _ := am (KeepBut.trans (ku HK.out) (KeepBut.of_below hb g none) (.inl rfl)); have _ := am (below_step (beg (IsS60.ge HI0.out) HB.out) hb); have _ := am (hbox); have _ := am ((by rw [hg]; exact (keep_size (w := w) (g := g) (row := none) (ku HK.out)) : w.heap.size ≤ gb281)); have _ := am ((Nat.le_trans HW0.out (by rw [hg]; exact (keep_size (w := w) (g := g) (row := none) (ku HK.out)) : w.heap.size ≤ gb281) : w0.heap.size ≤ gb281)); have _ := am (nb1 hg BK280.out : gb280 ≠ gb281); have _ := am (nb2 hg BK280.out : gb281 ≠ gb280); have _ := am ((by rw [hg]; exact (IsS60.lt (show IsS60 w0 _ g s0_0 s0_1 from IsS60.u HI0.out)) : g < gb281)); have _ := am ((by rw [hg]; exact Nat.ne_of_lt (IsS60.lt (show IsS60 w0 _ g s0_0 s0_1 from IsS60.u HI0.out)) : g ≠ gb281)); have _ := am ((by rw [hg]; exact Nat.ne_of_gt (IsS60.lt (show IsS60 w0 _ g s0_0 s0_1 from IsS60.u HI0.out)) : gb281 ≠ g)); clear HI0 BK280 HK HB; rename_i HI0 BK280 HK HB BK281 GW281 GE281 NB280_281 NB281_280 NG0_281 NB0_281 NB281_0; clear hb hbox hg; have := NB281_280.out; have := NB280_281.out; have := NB281_0.out; have := NB0_281.out; obtain ⟨hcz15_0, hcz15_1, hcz15_2, hcz15_3, hcz15_4, hcz15_5, hcz15_6, hcz15_7, hcz15_8⟩ := cells9 BK281.out; obtain ⟨hfz15_0, hfz15_1, hfz15_2, hfz15_3, hfz15_4, hfz15_5, hfz15_6, hfz15_7, hfz15_8⟩ := frozens9 BK281.out) | ((with_reducible refine gate_callee (f := 50) rfl ?_); refine goesL_ (some 9) rfl rfl Tryd.func50 (by kernel_rfl) rfl #[.pointer (some ⟨g, 0, none⟩), .int .u64 1000000000000] rfl ap1 ?_; (with_reducible refine (packhorseref10_Scan_Number.calls k g s0_0 s0_1 1000000000000 t282 t283 t284 w0 _ ?side1 ?side2 A2.out).mono ?_); (case side1 => exact IsS60.u HI0.out); (case side2 => exact beg (IsS60.ge HI0.out) HB.out); rintro e w16 ⟨rfl, hi, hb, hk⟩; refine ⟨_, rfl, ?_⟩; have _ := am (KeepBut.blk hk (g' := gb280) (o := .cells #[.int .i64 0, .int .i64 0, .int .i64 0, .int .i64 0, .int .i64 0, .string ⟨#[]⟩, .string ⟨#[]⟩, .string ⟨#[]⟩, .slice none 0 0] 31 (0, 0)) (bf BK280.out) NB280_0.out (by simp)); have _ := am (KeepBut.blk hk (g' := gb281) (o := .cells #[.int .i64 0, .int .i64 0, .int .i64 0, .int .i64 0, .int .i64 0, .string ⟨#[]⟩, .string ⟨#[]⟩, .string ⟨#[]⟩, .slice none 0 0] 31 (0, 0)) (by refine bu ?_; refine blk_put (cs := #[.int .i64 0, .int .i64 0, .int .i64 0, .int .i64 0, .int .i64 0, .string ⟨#[]⟩, .string ⟨#[]⟩, .string ⟨#[]⟩, .slice none 0 0]) ?_ 8 _ rfl; refine bu ?_; refine blk_put (cs := #[.int .i64 0, .int .i64 0, .int .i64 0, .int .i64 0, .int .i64 0, .string ⟨#[]⟩, .string ⟨#[]⟩, .string ⟨#[]⟩, .slice none 0 0]) ?_ 7 _ rfl; refine bu ?_; refine blk_put (cs := #[.int .i64 0, .int .i64 0, .int .i64 0, .int .i64 0, .int .i64 0, .string ⟨#[]⟩, .string ⟨#[]⟩, .string ⟨#[]⟩, .slice none 0 0]) ?_ 6 _ rfl; refine bu ?_; refine blk_put (cs := #[.int .i64 0, .int .i64 0, .int .i64 0, .int .i64 0, .int .i64 0, .string ⟨#[]⟩, .string ⟨#[]⟩, .string ⟨#[]⟩, .slice none 0 0]) ?_ 5 _ rfl; refine bu ?_; refine blk_put (cs := #[.int .i64 0, .int .i64 0, .int .i64 0, .int .i64 0, .int .i64 0, .string ⟨#[]⟩, .string ⟨#[]⟩, .string ⟨#[]⟩, .slice none 0 0]) ?_ 4 _ rfl; refine bu ?_; refine blk_put (cs := #[.int .i64 0, .int .i64 0, .int .i64 0, .int .i64 0, .int .i64 0, .string ⟨#[]⟩, .string ⟨#[]⟩, .string ⟨#[]⟩, .slice none 0 0]) ?_ 3 _ rfl; refine bu ?_; refine blk_put (cs := #[.int .i64 0, .int .i64 0, .int .i64 0, .int .i64 0, .int .i64 0, .string ⟨#[]⟩, .string ⟨#[]⟩, .string ⟨#[]⟩, .slice none 0 0]) ?_ 2 _ rfl; refine bu ?_; refine blk_put (cs := #[.int .i64 0, .int .i64 0, .int .i64 0, .int .i64 0, .int .i64 0, .string ⟨#[]⟩, .string ⟨#[]⟩, .string ⟨#[]⟩, .slice none 0 0]) ?_ 1 _ rfl; refine bu ?_; refine blk_put (cs := #[.int .i64 0, .int .i64 0, .int .i64 0, .int .i64 0, .int .i64 0, .string ⟨#[]⟩, .string ⟨#[]⟩, .string ⟨#[]⟩, .slice none 0 0]) ?_ 0 _ rfl; refine bu ?_; exact BK281.out) NB281_0.out (by simp)); have _ := am (KeepBut.trans (ku HK.out) hk (.inl rfl)); have _ := am (hb); have _ := am (hi); clear BK280 BK281 HK HB HI0; rename_i BK280 BK281 HK HB HI0; (try clear hb hk hi); obtain ⟨hcz17_0, hcz17_1, hcz17_2, hcz17_3, hcz17_4, hcz17_5, hcz17_6, hcz17_7, hcz17_8⟩ := cells9 BK281.out; obtain ⟨hfz17_0, hfz17_1, hfz17_2, hfz17_3, hfz17_4, hfz17_5, hfz17_6, hfz17_7, hfz17_8⟩ := frozens9 BK281.out) | ((with_reducible refine gate_callee (f := 50) rfl ?_); refine goesL_ (some 12) rfl rfl Tryd.func50 (by kernel_rfl) rfl #[.pointer (some ⟨g, 0, none⟩), .int .u64 2] rfl ap1 ?_; (with_reducible refine (packhorseref10_Scan_Number.calls k g t283 t284 2 t285 t286 t287 w0 _ ?side1 ?side2 A3.out).mono ?_); (case side1 => exact IsS60.u HI0.out); (case side2 => exact beg (IsS60.ge HI0.out) HB.out); rintro e w18 ⟨rfl, hi, hb, hk⟩; refine ⟨_, rfl, ?_⟩; have _ := am (KeepBut.blk hk (g' := gb280) (o := .cells #[.int .i64 0, .int .i64 0, .int .i64 0, .int .i64 0, .int .i64 0, .string ⟨#[]⟩, .string ⟨#[]⟩, .string ⟨#[]⟩, .slice none 0 0] 31 (0, 0)) (bf BK280.out) NB280_0.out (by simp)); have _ := am (KeepBut.blk hk (g' := gb281) (o := .cells #[.int .i64 t282, .int .i64 0, .int .i64 0, .int .i64 0, .int .i64 0, .string ⟨#[]⟩, .string ⟨#[]⟩, .string ⟨#[]⟩, .slice none 0 0] 31 (0, 0)) (by refine bu ?_; refine blk_put (cs := #[.int .i64 0, .int .i64 0, .int .i64 0, .int .i64 0, .int .i64 0, .string ⟨#[]⟩, .string ⟨#[]⟩, .string ⟨#[]⟩, .slice none 0 0]) ?_ 0 _ rfl; refine bu ?_; exact BK281.out) NB281_0.out (by simp)); have _ := am (KeepBut.trans (ku HK.out) hk (.inl rfl)); have _ := am (hb); have _ := am (hi); clear BK280 BK281 HK HB HI0; rename_i BK280 BK281 HK HB HI0; (try clear hb hk hi); obtain ⟨hcz19_0, hcz19_1, hcz19_2, hcz19_3, hcz19_4, hcz19_5, hcz19_6, hcz19_7, hcz19_8⟩ := cells9 BK281.out; obtain ⟨hfz19_0, hfz19_1, hfz19_2, hfz19_3, hfz19_4, hfz19_5, hfz19_6, hfz19_7, hfz19_8⟩ := frozens9 BK281.out) | ((with_reducible refine gate_callee (f := 50) rfl ?_); refine goesL_ (some 15) rfl rfl Tryd.func50 (by kernel_rfl) rfl #[.pointer (some ⟨g, 0, none⟩), .int .u64 3] rfl ap1 ?_; (with_reducible refine (packhorseref10_Scan_Number.calls k g t286 t287 3 t288 t289 t290 w0 _ ?side1 ?side2 A4.out).mono ?_); (case side1 => exact IsS60.u HI0.out); (case side2 => exact beg (IsS60.ge HI0.out) HB.out); rintro e w20 ⟨rfl, hi, hb, hk⟩; refine ⟨_, rfl, ?_⟩; have _ := am (KeepBut.blk hk (g' := gb280) (o := .cells #[.int .i64 0, .int .i64 0, .int .i64 0, .int .i64 0, .int .i64 0, .string ⟨#[]⟩, .string ⟨#[]⟩, .string ⟨#[]⟩, .slice none 0 0] 31 (0, 0)) (bf BK280.out) NB280_0.out (by simp)); have _ := am (KeepBut.blk hk (g' := gb281) (o := .cells #[.int .i64 t282, .int .i64 0, .int .i64 0, .int .i64 t285, .int .i64 0, .string ⟨#[]⟩, .string ⟨#[]⟩, .string ⟨#[]⟩, .slice none 0 0] 31 (0, 0)) (by refine bu ?_; refine blk_put (cs := #[.int .i64 t282, .int .i64 0, .int .i64 0, .int .i64 0, .int .i64 0, .string ⟨#[]⟩, .string ⟨#[]⟩, .string ⟨#[]⟩, .slice none 0 0]) ?_ 3 _ rfl; refine bu ?_; exact BK281.out) NB281_0.out (by simp)); have _ := am (KeepBut.trans (ku HK.out) hk (.inl rfl)); have _ := am (hb); have _ := am (hi); clear BK280 BK281 HK HB HI0; rename_i BK280 BK281 HK HB HI0; (try clear hb hk hi); obtain ⟨hcz21_0, hcz21_1, hcz21_2, hcz21_3, hcz21_4, hcz21_5, hcz21_6, hcz21_7, hcz21_8⟩ := cells9 BK281.out; obtain ⟨hfz21_0, hfz21_1, hfz21_2, hfz21_3, hfz21_4, hfz21_5, hfz21_6, hfz21_7, hfz21_8⟩ := frozens9 BK281.out) | ((with_reducible refine gate_callee (f := 50) rfl ?_); refine goesL_ (some 18) rfl rfl Tryd.func50 (by kernel_rfl) rfl #[.pointer (some ⟨g, 0, none⟩), .int .u64 1000000000000] rfl ap1 ?_; (with_reducible refine (packhorseref10_Scan_Number.calls k g t289 t290 1000000000000 t291 t292 t293 w0 _ ?side1 ?side2 A5.out).mono ?_); (case side1 => exact IsS60.u HI0.out); (case side2 => exact beg (IsS60.ge HI0.out) HB.out); rintro e w22 ⟨rfl, hi, hb, hk⟩; refine ⟨_, rfl, ?_⟩; have _ := am (KeepBut.blk hk (g' := gb280) (o := .cells #[.int .i64 0, .int .i64 0, .int .i64 0, .int .i64 0, .int .i64 0, .string ⟨#[]⟩, .string ⟨#[]⟩, .string ⟨#[]⟩, .slice none 0 0] 31 (0, 0)) (bf BK280.out) NB280_0.out (by simp)); have _ := am (KeepBut.blk hk (g' := gb281) (o := .cells #[.int .i64 t282, .int .i64 0, .int .i64 0, .int .i64 t285, .int .i64 t288, .string ⟨#[]⟩, .string ⟨#[]⟩, .string ⟨#[]⟩, .slice none 0 0] 31 (0, 0)) (by refine bu ?_; refine blk_put (cs := #[.int .i64 t282, .int .i64 0, .int .i64 0, .int .i64 t285, .int .i64 0, .string ⟨#[]⟩, .string ⟨#[]⟩, .string ⟨#[]⟩, .slice none 0 0]) ?_ 4 _ rfl; refine bu ?_; exact BK281.out) NB281_0.out (by simp)); have _ := am (KeepBut.trans (ku HK.out) hk (.inl rfl)); have _ := am (hb); have _ := am (hi); clear BK280 BK281 HK HB HI0; rename_i BK280 BK281 HK HB HI0; (try clear hb hk hi); obtain ⟨hcz23_0, hcz23_1, hcz23_2, hcz23_3, hcz23_4, hcz23_5, hcz23_6, hcz23_7, hcz23_8⟩ := cells9 BK281.out; obtain ⟨hfz23_0, hfz23_1, hfz23_2, hfz23_3, hfz23_4, hfz23_5, hfz23_6, hfz23_7, hfz23_8⟩ := frozens9 BK281.out) | ((with_reducible refine gate_callee (f := 50) rfl ?_); refine goesL_ (some 21) rfl rfl Tryd.func50 (by kernel_rfl) rfl #[.pointer (some ⟨g, 0, none⟩), .int .u64 1099511627776] rfl ap1 ?_; (with_reducible refine (packhorseref10_Scan_Number.calls k g t292 t293 1099511627776 t294 t295 t296 w0 _ ?side1 ?side2 A6.out).mono ?_); (case side1 => exact IsS60.u HI0.out); (case side2 => exact beg (IsS60.ge HI0.out) HB.out); rintro e w24 ⟨rfl, hi, hb, hk⟩; refine ⟨_, rfl, ?_⟩; have _ := am (KeepBut.blk hk (g' := gb280) (o := .cells #[.int .i64 0, .int .i64 0, .int .i64 0, .int .i64 0, .int .i64 0, .string ⟨#[]⟩, .string ⟨#[]⟩, .string ⟨#[]⟩, .slice none 0 0] 31 (0, 0)) (bf BK280.out) NB280_0.out (by simp)); have _ := am (KeepBut.blk hk (g' := gb281) (o := .cells #[.int .i64 t282, .int .i64 t291, .int .i64 0, .int .i64 t285, .int .i64 t288, .string ⟨#[]⟩, .string ⟨#[]⟩, .string ⟨#[]⟩, .slice none 0 0] 31 (0, 0)) (by refine bu ?_; refine blk_put (cs := #[.int .i64 t282, .int .i64 0, .int .i64 0, .int .i64 t285, .int .i64 t288, .string ⟨#[]⟩, .string ⟨#[]⟩, .string ⟨#[]⟩, .slice none 0 0]) ?_ 1 _ rfl; refine bu ?_; exact BK281.out) NB281_0.out (by simp)); have _ := am (KeepBut.trans (ku HK.out) hk (.inl rfl)); have _ := am (hb); have _ := am (hi); clear BK280 BK281 HK HB HI0; rename_i BK280 BK281 HK HB HI0; (try clear hb hk hi); obtain ⟨hcz25_0, hcz25_1, hcz25_2, hcz25_3, hcz25_4, hcz25_5, hcz25_6, hcz25_7, hcz25_8⟩ := cells9 BK281.out; obtain ⟨hfz25_0, hfz25_1, hfz25_2, hfz25_3, hfz25_4, hfz25_5, hfz25_6, hfz25_7, hfz25_8⟩ := frozens9 BK281.out) | ((with_reducible refine gate_callee (f := 51) rfl ?_); refine goesL_ (some 24) rfl rfl Tryd.func51 (by kernel_rfl) rfl #[.pointer (some ⟨g, 0, none⟩), .int .u64 32] rfl ap1 ?_; (with_reducible refine (packhorseref10_Scan_Text.calls k g t295 t296 32 t297 t298 t299 w0 _ ?side1 ?side2 A7.out).mono ?_); (case side1 => exact IsS60.u HI0.out); (case side2 => exact beg (IsS60.ge HI0.out) HB.out); rintro e w26 ⟨rfl, hi, hb, hk⟩; refine ⟨_, rfl, ?_⟩; have _ := am (KeepBut.blk hk (g' := gb280) (o := .cells #[.int .i64 0, .int .i64 0, .int .i64 0, .int .i64 0, .int .i64 0, .string ⟨#[]⟩, .string ⟨#[]⟩, .string ⟨#[]⟩, .slice none 0 0] 31 (0, 0)) (bf BK280.out) NB280_0.out (by simp)); have _ := am (KeepBut.blk hk (g' := gb281) (o := .cells #[.int .i64 t282, .int .i64 t291, .int .i64 t294, .int .i64 t285, .int .i64 t288, .string ⟨#[]⟩, .string ⟨#[]⟩, .string ⟨#[]⟩, .slice none 0 0] 31 (0, 0)) (by refine bu ?_; refine blk_put (cs := #[.int .i64 t282, .int .i64 t291, .int .i64 0, .int .i64 t285, .int .i64 t288, .string ⟨#[]⟩, .string ⟨#[]⟩, .string ⟨#[]⟩, .slice none 0 0]) ?_ 2 _ rfl; refine bu ?_; exact BK281.out) NB281_0.out (by simp)); have _ := am (KeepBut.trans (ku HK.out) hk (.inl rfl)); have _ := am (hb); have _ := am (hi); clear BK280 BK281 HK HB HI0; rename_i BK280 BK281 HK HB HI0; (try clear hb hk hi); obtain ⟨hcz27_0, hcz27_1, hcz27_2, hcz27_3, hcz27_4, hcz27_5, hcz27_6, hcz27_7, hcz27_8⟩ := cells9 BK281.out; obtain ⟨hfz27_0, hfz27_1, hfz27_2, hfz27_3, hfz27_4, hfz27_5, hfz27_6, hfz27_7, hfz27_8⟩ := frozens9 BK281.out) | ((with_reducible refine gate_callee (f := 51) rfl ?_); refine goesL_ (some 28) rfl rfl Tryd.func51 (by kernel_rfl) rfl #[.pointer (some ⟨g, 0, none⟩), .int .u64 32] rfl ap1 ?_; (with_reducible refine (packhorseref10_Scan_Text.calls k g t298 t299 32 t300 t301 t302 w0 _ ?side1 ?side2 A8.out).mono ?_); (case side1 => exact IsS60.u HI0.out); (case side2 => exact beg (IsS60.ge HI0.out) HB.out); rintro e w28 ⟨rfl, hi, hb, hk⟩; refine ⟨_, rfl, ?_⟩; have _ := am (KeepBut.blk hk (g' := gb280) (o := .cells #[.int .i64 0, .int .i64 0, .int .i64 0, .int .i64 0, .int .i64 0, .string ⟨#[]⟩, .string ⟨#[]⟩, .string ⟨#[]⟩, .slice none 0 0] 31 (0, 0)) (bf BK280.out) NB280_0.out (by simp)); have _ := am (KeepBut.blk hk (g' := gb281) (o := .cells #[.int .i64 t282, .int .i64 t291, .int .i64 t294, .int .i64 t285, .int .i64 t288, .string t297, .string ⟨#[]⟩, .string ⟨#[]⟩, .slice none 0 0] 31 (0, 0)) (by refine bu ?_; refine blk_put (cs := #[.int .i64 t282, .int .i64 t291, .int .i64 t294, .int .i64 t285, .int .i64 t288, .string ⟨#[]⟩, .string ⟨#[]⟩, .string ⟨#[]⟩, .slice none 0 0]) ?_ 5 _ rfl; refine bu ?_; exact BK281.out) NB281_0.out (by simp)); have _ := am (KeepBut.trans (ku HK.out) hk (.inl rfl)); have _ := am (hb); have _ := am (hi); clear BK280 BK281 HK HB HI0; rename_i BK280 BK281 HK HB HI0; (try clear hb hk hi); obtain ⟨hcz29_0, hcz29_1, hcz29_2, hcz29_3, hcz29_4, hcz29_5, hcz29_6, hcz29_7, hcz29_8⟩ := cells9 BK281.out; obtain ⟨hfz29_0, hfz29_1, hfz29_2, hfz29_3, hfz29_4, hfz29_5, hfz29_6, hfz29_7, hfz29_8⟩ := frozens9 BK281.out) | ((with_reducible refine gate_callee (f := 51) rfl ?_); refine goesL_ (some 32) rfl rfl Tryd.func51 (by kernel_rfl) rfl #[.pointer (some ⟨g, 0, none⟩), .int .u64 32] rfl ap1 ?_; (with_reducible refine (packhorseref10_Scan_Text.calls k g t301 t302 32 t303 t304 t305 w0 _ ?side1 ?side2 A9.out).mono ?_); (case side1 => exact IsS60.u HI0.out); (case side2 => exact beg (IsS60.ge HI0.out) HB.out); rintro e w30 ⟨rfl, hi, hb, hk⟩; refine ⟨_, rfl, ?_⟩; have _ := am (KeepBut.blk hk (g' := gb280) (o := .cells #[.int .i64 0, .int .i64 0, .int .i64 0, .int .i64 0, .int .i64 0, .string ⟨#[]⟩, .string ⟨#[]⟩, .string ⟨#[]⟩, .slice none 0 0] 31 (0, 0)) (bf BK280.out) NB280_0.out (by simp)); have _ := am (KeepBut.blk hk (g' := gb281) (o := .cells #[.int .i64 t282, .int .i64 t291, .int .i64 t294, .int .i64 t285, .int .i64 t288, .string t297, .string t300, .string ⟨#[]⟩, .slice none 0 0] 31 (0, 0)) (by refine bu ?_; refine blk_put (cs := #[.int .i64 t282, .int .i64 t291, .int .i64 t294, .int .i64 t285, .int .i64 t288, .string t297, .string ⟨#[]⟩, .string ⟨#[]⟩, .slice none 0 0]) ?_ 6 _ rfl; refine bu ?_; exact BK281.out) NB281_0.out (by simp)); have _ := am (KeepBut.trans (ku HK.out) hk (.inl rfl)); have _ := am (hb); have _ := am (hi); clear BK280 BK281 HK HB HI0; rename_i BK280 BK281 HK HB HI0; (try clear hb hk hi); obtain ⟨hcz31_0, hcz31_1, hcz31_2, hcz31_3, hcz31_4, hcz31_5, hcz31_6, hcz31_7, hcz31_8⟩ := cells9 BK281.out; obtain ⟨hfz31_0, hfz31_1, hfz31_2, hfz31_3, hfz31_4, hfz31_5, hfz31_6, hfz31_7, hfz31_8⟩ := frozens9 BK281.out) | ((with_reducible refine gate_callee (f := 50) rfl ?_); refine goesL_ (some 36) rfl rfl Tryd.func50 (by kernel_rfl) rfl #[.pointer (some ⟨g, 0, none⟩), .int .u64 64] rfl ap1 ?_; (with_reducible refine (packhorseref10_Scan_Number.calls k g t304 t305 64 t306 t307 t308 w0 _ ?side1 ?side2 A10.out).mono ?_); (case side1 => exact IsS60.u HI0.out); (case side2 => exact beg (IsS60.ge HI0.out) HB.out); rintro e w32 ⟨rfl, hi, hb, hk⟩; refine ⟨_, rfl, ?_⟩; have _ := am (KeepBut.blk hk (g' := gb280) (o := .cells #[.int .i64 0, .int .i64 0, .int .i64 0, .int .i64 0, .int .i64 0, .string ⟨#[]⟩, .string ⟨#[]⟩, .string ⟨#[]⟩, .slice none 0 0] 31 (0, 0)) (bf BK280.out) NB280_0.out (by simp)); have _ := am (KeepBut.blk hk (g' := gb281) (o := .cells #[.int .i64 t282, .int .i64 t291, .int .i64 t294, .int .i64 t285, .int .i64 t288, .string t297, .string t300, .string t303, .slice none 0 0] 31 (0, 0)) (by refine bu ?_; refine blk_put (cs := #[.int .i64 t282, .int .i64 t291, .int .i64 t294, .int .i64 t285, .int .i64 t288, .string t297, .string t300, .string ⟨#[]⟩, .slice none 0 0]) ?_ 7 _ rfl; refine bu ?_; exact BK281.out) NB281_0.out (by simp)); have _ := am (KeepBut.trans (ku HK.out) hk (.inl rfl)); have _ := am (hb); have _ := am (hi); clear BK280 BK281 HK HB HI0; rename_i BK280 BK281 HK HB HI0; (try clear hb hk hi)))
 go_loopg [6] k (fun kq v6 w' => ∃ (x6_1 : Int) (x1000_1 : List Int) (x1001_1 : Bool) (X8_1 : List ByteArray) (u282008 : Value), v6 = .int .i64 x6_1 ∧ Aside0 (packhorseref11_Take.l0 kq t306 x6_1 x1000_1 x1001_1 t282 t291 t294 t285 t288 t297 t300 t303 X8_1 = some (r1, r2, r3, r4, r5, r6, r7, r8, r9, r10, r11, r12)) ∧ Aside0 (kq ≤ k) ∧ Aside0 (Kd.R Kd.string 9 w' w.heap.size (fun _ => True) u282008 X8_1) ∧ Aside0 (w'.heap[gb280]? = some (.cells #[.int .i64 0, .int .i64 0, .int .i64 0, .int .i64 0, .int .i64 0, .string ⟨#[]⟩, .string ⟨#[]⟩, .string ⟨#[]⟩, (.slice none 0 0)] 31 (0, 0))) ∧ Aside0 (w'.heap[gb281]? = some (.cells #[.int .i64 t282, .int .i64 t291, .int .i64 t294, .int .i64 t285, .int .i64 t288, .string t297, .string t300, .string t303, u282008] 31 (0, 0))) ∧ Aside0 (IsS60 w0 w' g x1000_1 x1001_1) ∧ Aside0 (KeepBut w w' g none) ∧ Aside0 (Below w0.heap.size w0 w'))
 case atStart => exact ⟨(0), (t307), (t308), (([] : List ByteArray)), (.slice none 0 0), ap3, H', ⟨Nat.le_refl _⟩, ⟨by first | exact Kd.R_nil _ _ _ _ _ | exact Kd.N_nil _ _ _ _ _ | exact Kd.V_nil _ _ _ _ _ | exact Kd.Q_nil _ _ _ _ _ | exact Kd.S_nil _ _ _ _ _⟩, ⟨by refine bu ?_; exact BK280.out⟩, ⟨by refine bu ?_; exact BK281.out⟩, ⟨IsS60.u HI0.out⟩, ⟨ku HK.out⟩, ⟨beg (IsS60.ge HI0.out) HB.out⟩⟩
 case round =>
  clear H'; (try clear c1); (try clear c2); (try clear p2); (try clear c5); (try clear c13); (try clear c14); (try clear c27); (try clear hcz15_0); (try clear hcz15_1); (try clear hcz15_2); (try clear hcz15_3); (try clear hcz15_4); (try clear hcz15_5); (try clear hcz15_6); (try clear hcz15_7); (try clear hcz15_8); (try clear hcz17_0); (try clear hcz17_1); (try clear hcz17_2); (try clear hcz17_3); (try clear hcz17_4); (try clear hcz17_5); (try clear hcz17_6); (try clear hcz17_7); (try clear hcz17_8); (try clear hcz19_0); (try clear hcz19_1); (try clear hcz19_2); (try clear hcz19_3); (try clear hcz19_4); (try clear hcz19_5); (try clear hcz19_6); (try clear hcz19_7); (try clear hcz19_8); (try clear hcz21_0); (try clear hcz21_1); (try clear hcz21_2); (try clear hcz21_3); (try clear hcz21_4); (try clear hcz21_5); (try clear hcz21_6); (try clear hcz21_7); (try clear hcz21_8); (try clear hcz23_0); (try clear hcz23_1); (try clear hcz23_2); (try clear hcz23_3); (try clear hcz23_4); (try clear hcz23_5); (try clear hcz23_6); (try clear hcz23_7); (try clear hcz23_8); (try clear hcz25_0); (try clear hcz25_1); (try clear hcz25_2); (try clear hcz25_3); (try clear hcz25_4); (try clear hcz25_5); (try clear hcz25_6); (try clear hcz25_7); (try clear hcz25_8); (try clear hcz27_0); (try clear hcz27_1); (try clear hcz27_2); (try clear hcz27_3); (try clear hcz27_4); (try clear hcz27_5); (try clear hcz27_6); (try clear hcz27_7); (try clear hcz27_8); (try clear hcz29_0); (try clear hcz29_1); (try clear hcz29_2); (try clear hcz29_3); (try clear hcz29_4); (try clear hcz29_5); (try clear hcz29_6); (try clear hcz29_7); (try clear hcz29_8); (try clear hcz31_0); (try clear hcz31_1); (try clear hcz31_2); (try clear hcz31_3); (try clear hcz31_4); (try clear hcz31_5); (try clear hcz31_6); (try clear hcz31_7); (try clear hcz31_8); (try clear hfz15_0); (try clear hfz15_1); (try clear hfz15_2); (try clear hfz15_3); (try clear hfz15_4); (try clear hfz15_5); (try clear hfz15_6); (try clear hfz15_7); (try clear hfz15_8); (try clear hfz17_0); (try clear hfz17_1); (try clear hfz17_2); (try clear hfz17_3); (try clear hfz17_4); (try clear hfz17_5); (try clear hfz17_6); (try clear hfz17_7); (try clear hfz17_8); (try clear hfz19_0); (try clear hfz19_1); (try clear hfz19_2); (try clear hfz19_3); (try clear hfz19_4); (try clear hfz19_5); (try clear hfz19_6); (try clear hfz19_7); (try clear hfz19_8); (try clear hfz21_0); (try clear hfz21_1); (try clear hfz21_2); (try clear hfz21_3); (try clear hfz21_4); (try clear hfz21_5); (try clear hfz21_6); (try clear hfz21_7); (try clear hfz21_8); (try clear hfz23_0); (try clear hfz23_1); (try clear hfz23_2); (try clear hfz23_3); (try clear hfz23_4); (try clear hfz23_5); (try clear hfz23_6); (try clear hfz23_7); (try clear hfz23_8); (try clear hfz25_0); (try clear hfz25_1); (try clear hfz25_2); (try clear hfz25_3); (try clear hfz25_4); (try clear hfz25_5); (try clear hfz25_6); (try clear hfz25_7); (try clear hfz25_8); (try clear hfz27_0); (try clear hfz27_1); (try clear hfz27_2); (try clear hfz27_3); (try clear hfz27_4); (try clear hfz27_5); (try clear hfz27_6); (try clear hfz27_7); (try clear hfz27_8); (try clear hfz29_0); (try clear hfz29_1); (try clear hfz29_2); (try clear hfz29_3); (try clear hfz29_4); (try clear hfz29_5); (try clear hfz29_6); (try clear hfz29_7); (try clear hfz29_8); (try clear hfz31_0); (try clear hfz31_1); (try clear hfz31_2); (try clear hfz31_3); (try clear hfz31_4); (try clear hfz31_5); (try clear hfz31_6); (try clear hfz31_7); (try clear hfz31_8); obtain ⟨x6_1, x1000_1, x1001_1, X8_1, u282008, rfl, HA, HK1, HO_282008, BK280, BK281, HI0, HK, HB⟩ := hrel
  cases gk with
  | zero => exact absurd HA.out (by simp [packhorseref11_Take.l0])
  | succ k1 =>
   have H := HA.out; clear HA; simp only [packhorseref11_Take.l0] at H
   by_cases c33 : x6_1 < t306
   ·rw [if_pos c33] at H
    have c33b0 : decide (x6_1 < t306) = true := decide_eq_true c33; clear c33; replace H := obm H; obtain ⟨⟨t309, t310, t311⟩, A340, H⟩ := H; replace H : (if X8_1.length < 8796093022208 then (packhorseref11_Take.l0 k1 t306 (wrap64 (x6_1 + 1)) t310 t311 t282 t291 t294 t285 t288 t297 t300 t303 (X8_1 ++ [t309])) else (none)) = some (r1, r2, r3, r4, r5, r6, r7, r8, r9, r10, r11, r12) := H; have A34 := am A340; clear A340
    by_cases c35 : X8_1.length < 8796093022208
    ·rw [if_pos c35] at H
     have LMc35 := am c35; clear c35; obtain ⟨y312, hy312⟩ : ∃ y_ : List ByteArray, y_ = (X8_1 ++ [t309]) := ⟨_, rfl⟩
     replace H : (packhorseref11_Take.l0 k1 t306 (wrap64 (x6_1 + 1)) t310 t311 t282 t291 t294 t285 t288 t297 t300 t303 y312) = some (r1, r2, r3, r4, r5, r6, r7, r8, r9, r10, r11, r12) := by first | (rw [hy312]; with_reducible exact H) | (have H2_ := (Option.bind_some _ _).symm.trans H; rw [hy312]; with_reducible exact H2_) | (have H2_ := (Option.bind_some _ _).symm.trans H; with_reducible exact H2_) | with_reducible exact H | (rw [hy312]; exact H) | exact H
     have Ny312 := am hy312; clear hy312; have H' := am H; clear H
     try go_wp2
     (try (rw [drewN_self wr]; generalize hq_ : World.drewN wr _ = wr; have _ := am (show Kd.R _ _ wr _ _ _ _ from by rw [← hq_]; exact Kd.R_drewN HO_282008.out _); have _ := am (blk_at hq_ BK280.out); have _ := am (blk_at hq_ BK281.out); have _ := am (IsS60.at_ hq_ HI0.out); clear hq_ HO_282008 BK280 BK281 HI0; rename_i HO_282008 BK280 BK281 HI0))
     have n0_ := am (Kd.R_drew HO_282008.out); have n1_ := am (blk_drew BK280.out); have n2_ := am (blk_drew BK281.out); have n3_ := am (IsS60.drew HI0.out); have n4_ := am (keep_drew HK.out); have n5_ := am (below_drew1 HB.out); clear HO_282008 BK280 BK281 HI0 HK HB; have HO_282008 := n0_; have BK280 := n1_; have BK281 := n2_; have HI0 := n3_; have HK := n4_; have HB := n5_; clear n0_ n1_ n2_ n3_ n4_ n5_
     refine start_ (n := 8) (S := fun w' => w'.cell? ⟨gb281, 0, none⟩ = some (.int .i64 t282) ∧ w'.cell? ⟨gb281, 1, none⟩ = some (.int .i64 t291) ∧ w'.cell? ⟨gb281, 2, none⟩ = some (.int .i64 t294) ∧ w'.cell? ⟨gb281, 3, none⟩ = some (.int .i64 t285) ∧ w'.cell? ⟨gb281, 4, none⟩ = some (.int .i64 t288) ∧ w'.cell? ⟨gb281, 5, none⟩ = some (.string t297) ∧ w'.cell? ⟨gb281, 6, none⟩ = some (.string t300) ∧ w'.cell? ⟨gb281, 7, none⟩ = some (.string t303) ∧ w'.cell? ⟨gb281, 8, none⟩ = some (u282008)) (ds := [7]) #[false, false, false, false, false, false, false, false] (by kernel_rfl) rfl rfl ⟨(blk_cell BK281.out 0).trans rfl, (blk_cell BK281.out 1).trans rfl, (blk_cell BK281.out 2).trans rfl, (blk_cell BK281.out 3).trans rfl, (blk_cell BK281.out 4).trans rfl, (blk_cell BK281.out 5).trans rfl, (blk_cell BK281.out 6).trans rfl, (blk_cell BK281.out 7).trans rfl, (blk_cell BK281.out 8).trans rfl⟩ (fun hHeld => ?_); refine with_tabW packhorseref11_Take.tab14 packhorseref11_Take.bits14 (fun HT_ HW_ => ?_)
     generalize wr.drew = w36 at HO_282008 BK280 BK281 HI0 HK HB hHeld ⊢; refine pure_ (i := 0) (N := some 42) (v := ?_) (a' := ?_) (bs 8 1) rfl rfl (ak HT_.out) (fun _ _ _ h => h) (Or.inl ⟨by rfl, ?_⟩) ?_ ?_; rotate_left
     ·intro w'
      go_simp
      with_reducible rfl
     rotate_left
     ·simp only [Act.put, sA, sB, sC, i64_w, i32_w]
      rfl
     refine pure_ (i := 2) (N := some 44) (v := ?_) (a' := ?_) (bs 8 5) rfl rfl (ak HT_.out) (fun _ _ _ h => h) (Or.inl ⟨by rfl, ?_⟩) ?_ ?_; rotate_left
     ·intro w'
      go_simp
      with_reducible rfl
     rotate_left
     ·simp only [Act.put, sA, sB, sC, i64_w, i32_w]
      rfl
     refine take_ (i := 1) (N := some 43) (v := ?_) (a' := ?_) (bs 8 7) rfl rfl (take_ofW HT_.out HW_.out (by kernel_rfl)) (fun _ _ _ h => h) (Or.inl ⟨by rfl, ?_⟩) hHeld ?_ ?_; rotate_left
     ·rintro w' ⟨s0, s1, s2, s3, s4, s5, s6, s7, s8⟩
      go_simp
      with_reducible rfl
     rotate_left
     ·simp only [Act.put, sA, sB, sC, i64_w, i32_w]
      rfl
     refine one_ (i := 3) (N := some 45) (bs 8 15) rfl rfl (one_of HT_.out (by kernel_rfl)) (by decide) (fun K hK => ?_); refine goes_ Tryd.func51 (by kernel_rfl) rfl #[.pointer (some ⟨g, 0, none⟩), .int .u64 32] (by rfl) rfl rfl ap1 ?_; with_reducible refine (packhorseref10_Scan_Text.calls k1 g x1000_1 x1001_1 32 t309 t310 t311 w0 _ ?side1 ?side2 A34.out).mono ?_
     (case side1 => exact IsS60.u HI0.out)
     (case side2 => exact beg (IsS60.ge HI0.out) HB.out)
     rintro e w37 ⟨rfl, hi, hb, hk⟩; refine ⟨_, rfl, ?_⟩; have n0_ := am (Kd.R_mono (Kd.R_keep (IsS60.apart (show IsS60 w0 _ g x1000_1 x1001_1 from IsS60.u HI0.out) (ru HO_282008.out) (by decide)) hk (fun _ h => h.2)) (fun _ h => h.1)); have n1_ := am (KeepBut.blk hk (bu BK280.out) NB280_0.out (by simp)); have n2_ := am (KeepBut.blk hk (bu BK281.out) NB281_0.out (by simp)); have n3_ := am (KeepBut.trans (ku HK.out) hk (.inl rfl)); have n4_ := am (hb); have n5_ := am (hi); clear HO_282008 BK280 BK281 HK HB HI0; have HO_282008 := n0_; have BK280 := n1_; have BK281 := n2_; have HK := n3_; have HB := n4_; have HI0 := n5_; clear n0_ n1_ n2_ n3_ n4_ n5_
     (try clear hb)
     (try clear hb2)
     (try clear hk)
     (try clear hi)
     refine hK.out _ _ ⟨(blk_cell BK281.out 0).trans rfl, (blk_cell BK281.out 1).trans rfl, (blk_cell BK281.out 2).trans rfl, (blk_cell BK281.out 3).trans rfl, (blk_cell BK281.out 4).trans rfl, (blk_cell BK281.out 5).trans rfl, (blk_cell BK281.out 6).trans rfl, (blk_cell BK281.out 7).trans rfl, (blk_cell BK281.out 8).trans rfl⟩ (fun hHeld => ?_); clear hK K; refine norm_ (a' := ?_) ?_ ?_; rotate_left
     ·show Act.put _ (some 45) _ = _
      simp only [Act.put, sA, sB, sC, i64_w, i32_w]
      rfl
     refine one_ (i := 4) (N := some 46) (bs 8 31) rfl rfl (one_of HT_.out (by kernel_rfl)) (by decide) (fun K hK => ?_); refine value_ (w1 := ?_) (v := ?_) (by rfl) rfl ?_ ?_; rotate_left 2
     ·go_simp
      constructor
      ·rfl
      ·rfl
     refine hK.out _ _ ⟨(blk_cell (blk_alloc BK281.out _) 0).trans rfl, (blk_cell (blk_alloc BK281.out _) 1).trans rfl, (blk_cell (blk_alloc BK281.out _) 2).trans rfl, (blk_cell (blk_alloc BK281.out _) 3).trans rfl, (blk_cell (blk_alloc BK281.out _) 4).trans rfl, (blk_cell (blk_alloc BK281.out _) 5).trans rfl, (blk_cell (blk_alloc BK281.out _) 6).trans rfl, (blk_cell (blk_alloc BK281.out _) 7).trans rfl, (blk_cell (blk_alloc BK281.out _) 8).trans rfl⟩ (fun hHeld => ?_); clear hK K; refine norm_ (a' := ?_) ?_ ?_; rotate_left
     ·show Act.put _ (some 46) _ = _
      simp only [Act.put, sA, sB, sC, i64_w, i32_w]
      rfl
     refine one_ (i := 5) (N := some 47) (bs 8 63) rfl rfl (one_of HT_.out (by kernel_rfl)) (by decide) (fun K hK => ?_); refine Kd.R_append_step Kd.string w.heap.size (by rfl) (.tmp 43) (.tmp 46) 29 9 (.string ⟨#[]⟩) 16 rfl Tryd.underlying29 info9 rfl (by decide) (by omega) u282008 X8_1 t309 [.string t309] (fun _ => True) (fun _ => False) rfl rfl ?aP (fun _ hk => hk.elim) ?aF ?aO (Below.refl _ _) ?aS ?aL ?_
     (case aP => exact rfl)
     (case aF => exact (fun _ _ => trivial))
     (case aO => exact (ru HO_282008.out))
     (case aS => exact (keep_size (w := w) (g := g) (row := none) (ku HK.out)))
     (case aL => have := LMc35.out; omega)
     intro v313 w38 ho hb hg hat; rw [← Ny312.out] at ho; have n0_ := am (blk_grown (bu BK280.out) hg (Kd.R_ne HO_282008.out BK280.out (by decide))); have n1_ := am (blk_grown (bu BK281.out) hg (Kd.R_ne HO_282008.out BK281.out (by decide))); have n2_ := am (IsS60.grown (IsS60.u HI0.out) hg (IsS60.own_ne HI0.out HO_282008.out (by decide))); have n3_ := am (below_weaken (beg (IsS60.ge HI0.out) HB.out) HL.out hb); have n4_ := am (KeepBut.trans (ku HK.out) (KeepBut.of_grown hg g) (Kd.R_base2 HO_282008.out)); have n5_ := am (ho); clear BK280 BK281 HI0 HB HK HO_282008; have BK280 := n0_; have BK281 := n1_; have HI0 := n2_; have HB := n3_; have HK := n4_; have HO314 := n5_; clear n0_ n1_ n2_ n3_ n4_ n5_ ho hb hg hat; obtain ⟨Ao39, co39, eo39⟩ := Kd.R_slice HO314.out
     (first | subst eo39 | (injection eo39 with f1_ f2_ f3_; have f4_ := f1_.symm; have f5_ := f3_.symm; clear f1_ f2_ f3_; subst f4_; subst f5_))
     refine hK.out _ _ ⟨(blk_cell BK281.out 0).trans rfl, (blk_cell BK281.out 1).trans rfl, (blk_cell BK281.out 2).trans rfl, (blk_cell BK281.out 3).trans rfl, (blk_cell BK281.out 4).trans rfl, (blk_cell BK281.out 5).trans rfl, (blk_cell BK281.out 6).trans rfl, (blk_cell BK281.out 7).trans rfl, (blk_cell BK281.out 8).trans rfl⟩ (fun hHeld => ?_); clear hK K; refine norm_ (a' := ?_) ?_ ?_; rotate_left
     ·show Act.put _ (some 47) _ = _
      simp only [Act.put, sA, sB, sC, i64_w, i32_w]
      rfl
     refine pure_ (i := 6) (N := some 48) (v := ?_) (a' := ?_) (bs 8 127) rfl rfl (ak HT_.out) (fun _ _ _ h => h) (Or.inl ⟨by rfl, ?_⟩) ?_ ?_; rotate_left
     ·intro w'
      go_simp
      with_reducible rfl
     rotate_left
     ·simp only [Act.put, sA, sB, sC, i64_w, i32_w]
      rfl
     refine last_ (i := 7) (N := none) (bs 8 255) rfl rfl (one_of HT_.out (by kernel_rfl)) (by decide) (fun K hK => ?_); have hs40 : w38.cell? ⟨gb281, 8, none⟩ = some (u282008) := (blk_cell BK281.out 8).trans rfl; have hfs40 := blk_frozen BK281.out 8; have hns40_0 := NB280_281.out; have hms40_0 := NB281_280.out; refine skip_ (w1 := ?_) (by rfl) rfl ?_ ?_; rotate_left
     ·go_simp
      rfl
     refine hK.out _ _ ?_; clear hK K; refine done_ (done_of HT_.out (by kernel_rfl)) ?_
     try go_wp2
     go_roundg k1
     case measure => have := HK1.out; omega
     case rel => exact ⟨(wrap64 (x6_1 + 1)), (t310), (t311), (y312), (.slice Ao39 y312.length co39), ap3, H', ⟨by have := HK1.out; omega⟩, ⟨ru (Kd.R_mono (rf gb281 8 (Kd.R_types HO314.out BK281.out (by decide)) (.slice Ao39 y312.length co39)) (fun _ hk => trivial))⟩, ⟨by refine bu ?_; refine blk_far ?_ NB280_281.out _; refine bu ?_; exact BK280.out⟩, ⟨by refine bu ?_; refine blk_put (cs := #[.int .i64 t282, .int .i64 t291, .int .i64 t294, .int .i64 t285, .int .i64 t288, .string t297, .string t300, .string t303, u282008]) ?_ 8 _ rfl; refine bu ?_; exact BK281.out⟩, ⟨IsS60.u HI0.out⟩, ⟨ku HK.out⟩, ⟨beg (IsS60.ge HI0.out) HB.out⟩⟩
    ·rw [if_neg c35] at H
     exact absurd H (by simp)
   ·rw [if_neg c33] at H
    have c33b0 : decide (x6_1 < t306) = false := decide_eq_false c33; clear c33
    by_cases c41 : x1001_1 = true
    ·subst c41
     have H1 : ((packhorseref11_Right.f k1 t282 t291 t294 t285 t288 t297 t300 t303 X8_1).bind fun t315 => (if t315 = true then (some (t282, t291, t294, t285, t288, t297, t300, t303, X8_1, true, x1000_1, true)) else (some (0, 0, 0, 0, 0, ⟨#[]⟩, ⟨#[]⟩, ⟨#[]⟩, ([] : List ByteArray), false, x1000_1, true)))) = some (r1, r2, r3, r4, r5, r6, r7, r8, r9, r10, r11, r12) := by rw [if_pos rfl] at H; exact H
     clear H; have H := H1; clear H1; replace H := obm H; obtain ⟨t315, A420, H⟩ := H; replace H : (if t315 = true then (some (t282, t291, t294, t285, t288, t297, t300, t303, X8_1, true, x1000_1, true)) else (some (0, 0, 0, 0, 0, ⟨#[]⟩, ⟨#[]⟩, ⟨#[]⟩, ([] : List ByteArray), false, x1000_1, true))) = some (r1, r2, r3, r4, r5, r6, r7, r8, r9, r10, r11, r12) := H; have A42 := am A420; clear A420
     by_cases c43 : t315 = true
     ·subst c43
      have H1 : (some (t282, t291, t294, t285, t288, t297, t300, t303, X8_1, true, x1000_1, true)) = some (r1, r2, r3, r4, r5, r6, r7, r8, r9, r10, r11, r12) := by rw [if_pos rfl] at H; exact H
      clear H; have H := H1; clear H1; simp only [Option.some.injEq, Prod.mk.injEq] at H; obtain ⟨rfl, rfl, rfl, rfl, rfl, rfl, rfl, rfl, rfl, rfl, rfl, rfl⟩ := H; obtain ⟨ASz44_0, cSz44_0, HGz44, hgz44, HSz44_0⟩ := HI0.out; have hcz44_0 := cellS60_0 HGz44; have hcz44_1 := cellS60_1 HGz44; have hfz44_0 := blk_frozen HGz44 0; have hfz44_1 := blk_frozen HGz44 1; clear HGz44 hgz44; have := NB281_280.out; have := NB280_281.out; have := NB281_0.out; have := NB0_281.out; obtain ⟨_, _, _, _, _, _, _, _, _⟩ := cells9 BK281.out; obtain ⟨_, _, _, _, _, _, _, _, _⟩ := frozens9 BK281.out; obtain ⟨Ao48, co48, eo48⟩ := Kd.R_slice HO_282008.out; subst eo48
      go_wp2_with (first | (go_at_call 16; (with_reducible refine (packhorseref11_Right.calls k1 t282 t291 t294 t285 t288 t297 t300 t303 _ _ X8_1 true _ ?side1 ?side2 A42.out).mono ?_); (case side1 => exact cu (Kd.R_reads' HO_282008.out).2.2); (case side2 => exact (Kd.R_reads' HO_282008.out).2.1); rintro e w49 ⟨rfl, hb⟩; have _ := am (Kd.R_below (ru HO_282008.out) hb); have _ := am (blk_below (bu BK280.out) hb); have _ := am (blk_below (bu BK281.out) hb); have _ := am (IsS60.below (IsS60.u HI0.out) hb); have _ := am (KeepBut.trans (ku HK.out) (KeepBut.of_below hb g none) (.inl rfl)); have _ := am (below_step (beg (IsS60.ge HI0.out) HB.out) hb); clear HO_282008 BK280 BK281 HI0 HK HB; rename_i HO_282008 BK280 BK281 HI0 HK HB; (try clear hb); obtain ⟨_, _, _, _, _, _, _, _, _⟩ := cells9 BK281.out; obtain ⟨_, _, _, _, _, _, _, _, _⟩ := frozens9 BK281.out; have := NB280_0.out; have := NB0_280.out; obtain ⟨_, _, _, _, _, _, _, _, _⟩ := cells9 BK280.out; obtain ⟨_, _, _, _, _, _, _, _, _⟩ := frozens9 BK280.out))
      refine bodyPost_ret (results_ct rfl _ _ gb280 31 #[.int .i64 t282, .int .i64 t291, .int .i64 t294, .int .i64 t285, .int .i64 t288, .string t297, .string t300, .string t303, .slice Ao48 X8_1.length co48] (0, 0) _ rfl (by (with_reducible repeat (first | refine blk_drewN ?_ _ | refine blk_drew ?_ | refine blk_alloc ?_ _)); refine blk_put (cs := #[.int .i64 t282, .int .i64 t291, .int .i64 t294, .int .i64 t285, .int .i64 t288, .string t297, .string t300, .string t303, .slice none 0 0]) ?_ 8 _ rfl; (with_reducible repeat (first | refine blk_drewN ?_ _ | refine blk_drew ?_ | refine blk_alloc ?_ _)); refine blk_put (cs := #[.int .i64 t282, .int .i64 t291, .int .i64 t294, .int .i64 t285, .int .i64 t288, .string t297, .string t300, .string ⟨#[]⟩, .slice none 0 0]) ?_ 7 _ rfl; (with_reducible repeat (first | refine blk_drewN ?_ _ | refine blk_drew ?_ | refine blk_alloc ?_ _)); refine blk_put (cs := #[.int .i64 t282, .int .i64 t291, .int .i64 t294, .int .i64 t285, .int .i64 t288, .string t297, .string ⟨#[]⟩, .string ⟨#[]⟩, .slice none 0 0]) ?_ 6 _ rfl; (with_reducible repeat (first | refine blk_drewN ?_ _ | refine blk_drew ?_ | refine blk_alloc ?_ _)); refine blk_put (cs := #[.int .i64 t282, .int .i64 t291, .int .i64 t294, .int .i64 t285, .int .i64 t288, .string ⟨#[]⟩, .string ⟨#[]⟩, .string ⟨#[]⟩, .slice none 0 0]) ?_ 5 _ rfl; (with_reducible repeat (first | refine blk_drewN ?_ _ | refine blk_drew ?_ | refine blk_alloc ?_ _)); refine blk_put (cs := #[.int .i64 t282, .int .i64 t291, .int .i64 t294, .int .i64 t285, .int .i64 0, .string ⟨#[]⟩, .string ⟨#[]⟩, .string ⟨#[]⟩, .slice none 0 0]) ?_ 4 _ rfl; (with_reducible repeat (first | refine blk_drewN ?_ _ | refine blk_drew ?_ | refine blk_alloc ?_ _)); refine blk_put (cs := #[.int .i64 t282, .int .i64 t291, .int .i64 t294, .int .i64 0, .int .i64 0, .string ⟨#[]⟩, .string ⟨#[]⟩, .string ⟨#[]⟩, .slice none 0 0]) ?_ 3 _ rfl; (with_reducible repeat (first | refine blk_drewN ?_ _ | refine blk_drew ?_ | refine blk_alloc ?_ _)); refine blk_put (cs := #[.int .i64 t282, .int .i64 t291, .int .i64 0, .int .i64 0, .int .i64 0, .string ⟨#[]⟩, .string ⟨#[]⟩, .string ⟨#[]⟩, .slice none 0 0]) ?_ 2 _ rfl; (with_reducible repeat (first | refine blk_drewN ?_ _ | refine blk_drew ?_ | refine blk_alloc ?_ _)); refine blk_put (cs := #[.int .i64 t282, .int .i64 0, .int .i64 0, .int .i64 0, .int .i64 0, .string ⟨#[]⟩, .string ⟨#[]⟩, .string ⟨#[]⟩, .slice none 0 0]) ?_ 1 _ rfl; (with_reducible repeat (first | refine blk_drewN ?_ _ | refine blk_drew ?_ | refine blk_alloc ?_ _)); refine blk_put (cs := #[.int .i64 0, .int .i64 0, .int .i64 0, .int .i64 0, .int .i64 0, .string ⟨#[]⟩, .string ⟨#[]⟩, .string ⟨#[]⟩, .slice none 0 0]) ?_ 0 _ rfl; (with_reducible repeat (first | refine blk_drewN ?_ _ | refine blk_drew ?_ | refine blk_alloc ?_ _)); exact BK280.out) Tryd.underlying31 rfl (by kernel_rfl)) rfl ?_; exact ⟨_, ap4, ru (Kd.R_mono (rf gb280 8 (rf gb280 7 (rf gb280 6 (rf gb280 5 (rf gb280 4 (rf gb280 3 (rf gb280 2 (rf gb280 1 (rf gb280 0 (Kd.R_types HO_282008.out BK280.out (by decide)) (.int .i64 t282)) (.int .i64 t291)) (.int .i64 t294)) (.int .i64 t285)) (.int .i64 t288)) (.string t297)) (.string t300)) (.string t303)) (.slice Ao48 X8_1.length co48)) (fun _ hk => trivial)), IsS60.u HI0.out, beg (IsS60.ge HI0.out) HB.out, ku HK.out⟩
     ·replace c43 := Bool.eq_false_iff.mpr c43
      subst c43
      have H1 : (some (0, 0, 0, 0, 0, ⟨#[]⟩, ⟨#[]⟩, ⟨#[]⟩, ([] : List ByteArray), false, x1000_1, true)) = some (r1, r2, r3, r4, r5, r6, r7, r8, r9, r10, r11, r12) := by rw [if_neg (show ¬ (false = true) by decide)] at H; exact H
      clear H; have H := H1; clear H1; simp only [Option.some.injEq, Prod.mk.injEq] at H; obtain ⟨rfl, rfl, rfl, rfl, rfl, rfl, rfl, rfl, rfl, rfl, rfl, rfl⟩ := H; obtain ⟨ASz53_0, cSz53_0, HGz53, hgz53, HSz53_0⟩ := HI0.out; have hcz53_0 := cellS60_0 HGz53; have hcz53_1 := cellS60_1 HGz53; have hfz53_0 := blk_frozen HGz53 0; have hfz53_1 := blk_frozen HGz53 1; clear HGz53 hgz53; have := NB281_280.out; have := NB280_281.out; have := NB281_0.out; have := NB0_281.out; obtain ⟨_, _, _, _, _, _, _, _, _⟩ := cells9 BK281.out; obtain ⟨_, _, _, _, _, _, _, _, _⟩ := frozens9 BK281.out; obtain ⟨Ao57, co57, eo57⟩ := Kd.R_slice HO_282008.out; subst eo57
      go_wp2_with (first | (go_at_call 16; (with_reducible refine (packhorseref11_Right.calls k1 t282 t291 t294 t285 t288 t297 t300 t303 _ _ X8_1 false _ ?side1 ?side2 A42.out).mono ?_); (case side1 => exact cu (Kd.R_reads' HO_282008.out).2.2); (case side2 => exact (Kd.R_reads' HO_282008.out).2.1); rintro e w58 ⟨rfl, hb⟩; have _ := am (Kd.R_below (ru HO_282008.out) hb); have _ := am (blk_below (bu BK280.out) hb); have _ := am (blk_below (bu BK281.out) hb); have _ := am (IsS60.below (IsS60.u HI0.out) hb); have _ := am (KeepBut.trans (ku HK.out) (KeepBut.of_below hb g none) (.inl rfl)); have _ := am (below_step (beg (IsS60.ge HI0.out) HB.out) hb); clear HO_282008 BK280 BK281 HI0 HK HB; rename_i HO_282008 BK280 BK281 HI0 HK HB; (try clear hb); have := NB280_0.out; have := NB0_280.out; obtain ⟨_, _, _, _, _, _, _, _, _⟩ := cells9 BK280.out; obtain ⟨_, _, _, _, _, _, _, _, _⟩ := frozens9 BK280.out))
      refine bodyPost_ret (results_ct rfl _ _ gb280 31 #[.int .i64 0, .int .i64 0, .int .i64 0, .int .i64 0, .int .i64 0, .string ⟨#[]⟩, .string ⟨#[]⟩, .string ⟨#[]⟩, .slice none 0 0] (0, 0) _ rfl (by (with_reducible repeat (first | refine blk_drewN ?_ _ | refine blk_drew ?_ | refine blk_alloc ?_ _)); refine blk_put (cs := #[.int .i64 0, .int .i64 0, .int .i64 0, .int .i64 0, .int .i64 0, .string ⟨#[]⟩, .string ⟨#[]⟩, .string ⟨#[]⟩, .slice none 0 0]) ?_ 8 _ rfl; (with_reducible repeat (first | refine blk_drewN ?_ _ | refine blk_drew ?_ | refine blk_alloc ?_ _)); refine blk_put (cs := #[.int .i64 0, .int .i64 0, .int .i64 0, .int .i64 0, .int .i64 0, .string ⟨#[]⟩, .string ⟨#[]⟩, .string ⟨#[]⟩, .slice none 0 0]) ?_ 7 _ rfl; (with_reducible repeat (first | refine blk_drewN ?_ _ | refine blk_drew ?_ | refine blk_alloc ?_ _)); refine blk_put (cs := #[.int .i64 0, .int .i64 0, .int .i64 0, .int .i64 0, .int .i64 0, .string ⟨#[]⟩, .string ⟨#[]⟩, .string ⟨#[]⟩, .slice none 0 0]) ?_ 6 _ rfl; (with_reducible repeat (first | refine blk_drewN ?_ _ | refine blk_drew ?_ | refine blk_alloc ?_ _)); refine blk_put (cs := #[.int .i64 0, .int .i64 0, .int .i64 0, .int .i64 0, .int .i64 0, .string ⟨#[]⟩, .string ⟨#[]⟩, .string ⟨#[]⟩, .slice none 0 0]) ?_ 5 _ rfl; (with_reducible repeat (first | refine blk_drewN ?_ _ | refine blk_drew ?_ | refine blk_alloc ?_ _)); refine blk_put (cs := #[.int .i64 0, .int .i64 0, .int .i64 0, .int .i64 0, .int .i64 0, .string ⟨#[]⟩, .string ⟨#[]⟩, .string ⟨#[]⟩, .slice none 0 0]) ?_ 4 _ rfl; (with_reducible repeat (first | refine blk_drewN ?_ _ | refine blk_drew ?_ | refine blk_alloc ?_ _)); refine blk_put (cs := #[.int .i64 0, .int .i64 0, .int .i64 0, .int .i64 0, .int .i64 0, .string ⟨#[]⟩, .string ⟨#[]⟩, .string ⟨#[]⟩, .slice none 0 0]) ?_ 3 _ rfl; (with_reducible repeat (first | refine blk_drewN ?_ _ | refine blk_drew ?_ | refine blk_alloc ?_ _)); refine blk_put (cs := #[.int .i64 0, .int .i64 0, .int .i64 0, .int .i64 0, .int .i64 0, .string ⟨#[]⟩, .string ⟨#[]⟩, .string ⟨#[]⟩, .slice none 0 0]) ?_ 2 _ rfl; (with_reducible repeat (first | refine blk_drewN ?_ _ | refine blk_drew ?_ | refine blk_alloc ?_ _)); refine blk_put (cs := #[.int .i64 0, .int .i64 0, .int .i64 0, .int .i64 0, .int .i64 0, .string ⟨#[]⟩, .string ⟨#[]⟩, .string ⟨#[]⟩, .slice none 0 0]) ?_ 1 _ rfl; (with_reducible repeat (first | refine blk_drewN ?_ _ | refine blk_drew ?_ | refine blk_alloc ?_ _)); refine blk_put (cs := #[.int .i64 0, .int .i64 0, .int .i64 0, .int .i64 0, .int .i64 0, .string ⟨#[]⟩, .string ⟨#[]⟩, .string ⟨#[]⟩, .slice none 0 0]) ?_ 0 _ rfl; (with_reducible repeat (first | refine blk_drewN ?_ _ | refine blk_drew ?_ | refine blk_alloc ?_ _)); exact BK280.out) Tryd.underlying31 rfl (by kernel_rfl)) rfl ?_; exact ⟨_, ap4, by first | exact Kd.R_nil _ _ _ _ _ | exact Kd.N_nil _ _ _ _ _ | exact Kd.V_nil _ _ _ _ _ | exact Kd.Q_nil _ _ _ _ _ | exact Kd.S_nil _ _ _ _ _, IsS60.u HI0.out, beg (IsS60.ge HI0.out) HB.out, ku HK.out⟩
    ·replace c41 := Bool.eq_false_iff.mpr c41
     subst c41
     have H1 : (some (0, 0, 0, 0, 0, ⟨#[]⟩, ⟨#[]⟩, ⟨#[]⟩, ([] : List ByteArray), false, x1000_1, false)) = some (r1, r2, r3, r4, r5, r6, r7, r8, r9, r10, r11, r12) := by rw [if_neg (show ¬ (false = true) by decide)] at H; exact H
     clear H; have H := H1; clear H1; simp only [Option.some.injEq, Prod.mk.injEq] at H; obtain ⟨rfl, rfl, rfl, rfl, rfl, rfl, rfl, rfl, rfl, rfl, rfl, rfl⟩ := H; obtain ⟨ASz61_0, cSz61_0, HGz61, hgz61, HSz61_0⟩ := HI0.out; have hcz61_0 := cellS60_0 HGz61; have hcz61_1 := cellS60_1 HGz61; have hfz61_0 := blk_frozen HGz61 0; have hfz61_1 := blk_frozen HGz61 1; clear HGz61 hgz61; have := NB280_281.out; have := NB281_280.out; have := NB280_0.out; have := NB0_280.out; obtain ⟨_, _, _, _, _, _, _, _, _⟩ := cells9 BK280.out; obtain ⟨_, _, _, _, _, _, _, _, _⟩ := frozens9 BK280.out
     go_wp2
     refine bodyPost_ret (results_ct rfl _ _ gb280 31 #[.int .i64 0, .int .i64 0, .int .i64 0, .int .i64 0, .int .i64 0, .string ⟨#[]⟩, .string ⟨#[]⟩, .string ⟨#[]⟩, .slice none 0 0] (0, 0) _ rfl (by (with_reducible repeat (first | refine blk_drewN ?_ _ | refine blk_drew ?_ | refine blk_alloc ?_ _)); refine blk_put (cs := #[.int .i64 0, .int .i64 0, .int .i64 0, .int .i64 0, .int .i64 0, .string ⟨#[]⟩, .string ⟨#[]⟩, .string ⟨#[]⟩, .slice none 0 0]) ?_ 8 _ rfl; (with_reducible repeat (first | refine blk_drewN ?_ _ | refine blk_drew ?_ | refine blk_alloc ?_ _)); refine blk_put (cs := #[.int .i64 0, .int .i64 0, .int .i64 0, .int .i64 0, .int .i64 0, .string ⟨#[]⟩, .string ⟨#[]⟩, .string ⟨#[]⟩, .slice none 0 0]) ?_ 7 _ rfl; (with_reducible repeat (first | refine blk_drewN ?_ _ | refine blk_drew ?_ | refine blk_alloc ?_ _)); refine blk_put (cs := #[.int .i64 0, .int .i64 0, .int .i64 0, .int .i64 0, .int .i64 0, .string ⟨#[]⟩, .string ⟨#[]⟩, .string ⟨#[]⟩, .slice none 0 0]) ?_ 6 _ rfl; (with_reducible repeat (first | refine blk_drewN ?_ _ | refine blk_drew ?_ | refine blk_alloc ?_ _)); refine blk_put (cs := #[.int .i64 0, .int .i64 0, .int .i64 0, .int .i64 0, .int .i64 0, .string ⟨#[]⟩, .string ⟨#[]⟩, .string ⟨#[]⟩, .slice none 0 0]) ?_ 5 _ rfl; (with_reducible repeat (first | refine blk_drewN ?_ _ | refine blk_drew ?_ | refine blk_alloc ?_ _)); refine blk_put (cs := #[.int .i64 0, .int .i64 0, .int .i64 0, .int .i64 0, .int .i64 0, .string ⟨#[]⟩, .string ⟨#[]⟩, .string ⟨#[]⟩, .slice none 0 0]) ?_ 4 _ rfl; (with_reducible repeat (first | refine blk_drewN ?_ _ | refine blk_drew ?_ | refine blk_alloc ?_ _)); refine blk_put (cs := #[.int .i64 0, .int .i64 0, .int .i64 0, .int .i64 0, .int .i64 0, .string ⟨#[]⟩, .string ⟨#[]⟩, .string ⟨#[]⟩, .slice none 0 0]) ?_ 3 _ rfl; (with_reducible repeat (first | refine blk_drewN ?_ _ | refine blk_drew ?_ | refine blk_alloc ?_ _)); refine blk_put (cs := #[.int .i64 0, .int .i64 0, .int .i64 0, .int .i64 0, .int .i64 0, .string ⟨#[]⟩, .string ⟨#[]⟩, .string ⟨#[]⟩, .slice none 0 0]) ?_ 2 _ rfl; (with_reducible repeat (first | refine blk_drewN ?_ _ | refine blk_drew ?_ | refine blk_alloc ?_ _)); refine blk_put (cs := #[.int .i64 0, .int .i64 0, .int .i64 0, .int .i64 0, .int .i64 0, .string ⟨#[]⟩, .string ⟨#[]⟩, .string ⟨#[]⟩, .slice none 0 0]) ?_ 1 _ rfl; (with_reducible repeat (first | refine blk_drewN ?_ _ | refine blk_drew ?_ | refine blk_alloc ?_ _)); refine blk_put (cs := #[.int .i64 0, .int .i64 0, .int .i64 0, .int .i64 0, .int .i64 0, .string ⟨#[]⟩, .string ⟨#[]⟩, .string ⟨#[]⟩, .slice none 0 0]) ?_ 0 _ rfl; (with_reducible repeat (first | refine blk_drewN ?_ _ | refine blk_drew ?_ | refine blk_alloc ?_ _)); exact BK280.out) Tryd.underlying31 rfl (by kernel_rfl)) rfl ?_; exact ⟨_, ap4, by first | exact Kd.R_nil _ _ _ _ _ | exact Kd.N_nil _ _ _ _ _ | exact Kd.V_nil _ _ _ _ _ | exact Kd.Q_nil _ _ _ _ _ | exact Kd.S_nil _ _ _ _ _, IsS60.u HI0.out, beg (IsS60.ge HI0.out) HB.out, ku HK.out⟩
theorem packhorseref11_Take.callsJ (k : Nat) (g : Nat) (s0_0 : List Int) (s0_1 : Bool) (r1 : Int) (r2 : Int) (r3 : Int) (r4 : Int) (r5 : Int) (r6 : ByteArray) (r7 : ByteArray) (r8 : ByteArray) (r9 : List ByteArray) (r10 : Bool) (r11 : List Int) (r12 : Bool) (w0 w : World) (hI : JS60 w0 w g s0_0 s0_1) (hB : Below w0.heap.size w0 w) (h : packhorseref11_Take.f k s0_0 s0_1 = some (r1, r2, r3, r4, r5, r6, r7, r8, r9, r10, r11, r12)) :
  Calls Tryd.prog 27 #[.pointer (some ⟨g, 0, none⟩)] w fun e w' => ∃ v8_ : Value, e = .returned (.tuple #[.agg #[.int .i64 r1, .int .i64 r2, .int .i64 r3, .int .i64 r4, .int .i64 r5, .string r6, .string r7, .string r8, v8_], .bool r10]) ∧ Kd.R Kd.string 9 w' w.heap.size (fun _ => True) v8_ r9 ∧ JS60 w0 w' g r11 r12 ∧ Below w0.heap.size w0 w' ∧ KeepBut w w' g none := by
 obtain ⟨wS, hIs, hBs, hle⟩ := hI
 exact (packhorseref11_Take.calls k g s0_0 s0_1 r1 r2 r3 r4 r5 r6 r7 r8 r9 r10 r11 r12 wS w hIs hBs h).mono fun e w' hp_ => by
  obtain ⟨z0_, p0_, p1_, hi_, hb_, hk_⟩ := hp_; exact ⟨z0_, p0_, p1_, ⟨wS, hi_, hb_, hle⟩, below_keepJ60 hB hBs hb_ hk_ (Nat.le_trans hle.size (IsS60.ge hIs)), hk_⟩
mutual
def packet_Number.l0 : Nat → List Int → List Int → Int → Int → Option (List Int)
 | 0, _, _, _, _ => none
 | k + 1, x5, x10, x11, x12 => if x12 < x11 then (if 0 ≤ x12 then (if x12 < (x10.length : Int) then (packet_Number.l1 k x5 (rd x10 x12) x10 x11 x12) else (none)) else (none)) else (some x5)
def packet_Number.l1 : Nat → List Int → Int → List Int → Int → Int → Option (List Int)
 | 0, _, _, _, _, _ => none
 | k + 1, x5, x7, x10, x11, x12 => if x7 ≥ 128 then (if x5.length < 140737488355328 then (packet_Number.l1 k (x5 ++ [Go.bits .or .u8 ((x7) % 256) 128]) (x7 / 128) x10 x11 x12) else (none)) else (if x5.length < 140737488355328 then (packet_Number.l0 k (x5 ++ [(x7) % 256]) x10 x11 (wrap64 (x12 + 1))) else (none))
end
def packet_Number.f (k : Nat) (l0 : List Int) (l1 : List Int) : Option (List Int) := (slices_Clone_byte_byte.f l0).bind fun t316 => (packet_Number.l0 k t316 l1 (l1.length : Int) 0)
set_option maxHeartbeats 8000000 in
set_option maxRecDepth 100000 in
theorem packet_Number.calls (k : Nat) (A0 : Option Addr) (c0 : Nat) (l0 : List Int) (A1 : Option Addr) (c1 : Nat) (l1 : List Int) (r : List Int) (w : World) (hr0 : Kd.C (Kd.int .u8) w A0 l0.length l0) (hc0 : l0.length ≤ c0) (hr1 : Kd.C (Kd.int .u64) w A1 l1.length l1) (hc1 : l1.length ≤ c1) (h : packet_Number.f k l0 l1 = some r) :
  Calls Tryd.prog 52 #[.slice A0 l0.length c0, .slice A1 l1.length c1] w fun e w' => ∃ v0_ : Value, e = .returned (v0_) ∧ Kd.R (Kd.int .u8) 5 w' w.heap.size (fun _ => True) v0_ r ∧ Below w.heap.size w w' := by
 have HR0 := am hr0; have HC0 := am hc0; clear hr0 hc0; have HR1 := am hr1; have HC1 := am hc1; clear hr1 hc1; have HB := am (Below.refl w.heap.size w); have H : ((slices_Clone_byte_byte.f l0).bind fun t316 => (packet_Number.l0 k t316 l1 (l1.length : Int) 0)) = some r := h; clear h; replace H := obm H; obtain ⟨t316, A30, H⟩ := H; replace H : (packet_Number.l0 k t316 l1 (l1.length : Int) 0) = some r := H; have A3 := am A30; clear A30; have H' := am H; clear H
 go_enter Tryd.func52, Tryd.ntmps52
 go_wp2_with (first | ((with_reducible refine gate_callee (f := 49) rfl ?_); refine goesL_ (some 9) rfl rfl Tryd.func49 (by kernel_rfl) rfl #[.slice A0 l0.length c0] rfl ap1 ?_; (with_reducible refine (slices_Clone_byte_byte.calls _ _ l0 t316 _ ?side1 ?side2 A3.out).mono ?_); (case side1 => repeat (first | exact HR0.out | (with_reducible refine Kd.C_alloc ?_ _) | (with_reducible refine Kd.C_drewN ?_ _) | (with_reducible refine Kd.C_drew ?_))); (case side2 => exact HC0.out); rintro e w4 ⟨v317, rfl, ho0, hb⟩; refine ⟨_, rfl, ?_⟩; have _ := am (Kd.R_lower ho0 (below_size (beu HB.out))); have _ := am (below_step (beu HB.out) hb); clear HB; rename_i HO318 HB; (try clear hb); (try clear ho0)))
 go_loopg [5, 12] k (fun kq v5 v12 w' => ∃ (x5_1 : List Int) (x12_1 : Int), v12 = .int .i64 x12_1 ∧ Aside0 (packet_Number.l0 kq x5_1 l1 (l1.length : Int) x12_1 = some r) ∧ Aside0 (kq ≤ k) ∧ Aside0 (Kd.R (Kd.int .u8) 5 w' w.heap.size (fun _ => True) v5 x5_1) ∧ Aside0 (Below w.heap.size w w'))
 case atStart => exact ⟨(t316), (0), ap3, H', ⟨Nat.le_refl _⟩, ⟨ru HO318.out⟩, ⟨beu HB.out⟩⟩
 case round =>
  clear H'; (try clear c1); (try clear p2); (try clear c4); obtain ⟨x5_1, x12_1, rfl, HA, HK1, HO_5, HB⟩ := hrel
  cases gk with
  | zero => exact absurd HA.out (by simp [packet_Number.l0])
  | succ k1 =>
   have H := HA.out; clear HA; simp only [packet_Number.l0] at H
   by_cases c5 : x12_1 < (l1.length : Int)
   ·rw [if_pos c5] at H
    have c5b0 : decide (x12_1 < (l1.length : Int)) = true := decide_eq_true c5; clear c5
    by_cases c6 : 0 ≤ x12_1
    ·rw [if_pos c6] at H
     have c6b0 : decide (0 ≤ x12_1) = true := decide_eq_true c6; clear c6
     by_cases c7 : x12_1 < (l1.length : Int)
     ·rw [if_pos c7] at H
      have c7b0 : decide (x12_1 < (l1.length : Int)) = true := decide_eq_true c7; clear c7; have H' := am H; clear H; have p319 : 0 ≤ (x12_1 : Int) := of_decide_eq_true ap2; have q319 : x12_1 < (l1.length : Int) := of_decide_eq_true ap2; obtain ⟨ad319, e319, hx319_0⟩ := Kd.at_int HR1.out x12_1 p319 q319
      cases e319
      replace hx319_0 := (HB.out.cell (World.block_lt_of_cell? w _ hx319_0)).trans hx319_0; replace p319 := eq_true p319; replace q319 := eq_true q319
      go_wp2
      go_loopg [5, 7] k1 (fun kq v5 v7 w' => ∃ (x5_2 : List Int) (x7_2 : Int), v7 = .int .u64 x7_2 ∧ Aside0 (packet_Number.l1 kq x5_2 x7_2 l1 (l1.length : Int) x12_1 = some r) ∧ Aside0 (kq ≤ k1) ∧ Aside0 (Kd.R (Kd.int .u8) 5 w' w.heap.size (fun _ => True) v5 x5_2) ∧ Aside0 (Below w.heap.size w w'))
      case atStart => exact ⟨(x5_1), (rd l1 x12_1), ap3, H', ⟨Nat.le_refl _⟩, ⟨ru HO_5.out⟩, ⟨beu HB.out⟩⟩
      case round =>
       clear H'; (try clear c1); (try clear p2); (try clear p3); (try clear q3); (try clear hx3); (try clear c4); (try clear c5); (try clear c5b0); (try clear c6); (try clear c6b0); (try clear c7); (try clear c7b0); (try clear hx319_0); (try clear p2); (try clear p319); (try clear q319); obtain ⟨x5_2, x7_2, rfl, HA, HK2, HO_5, HB⟩ := hrel
       cases gk with
       | zero => exact absurd HA.out (by simp [packet_Number.l1])
       | succ k2 =>
        have H := HA.out; clear HA; simp only [packet_Number.l1] at H
        by_cases c8 : x7_2 ≥ 128
        ·rw [if_pos c8] at H
         have c8b0 : decide (128 ≤ x7_2) = true := decide_eq_true c8; clear c8
         by_cases c9 : x5_2.length < 140737488355328
         ·rw [if_pos c9] at H
          have LMc9 := am c9; clear c9; obtain ⟨y320, hy320⟩ : ∃ y_ : List Int, y_ = (x5_2 ++ [Go.bits .or .u8 ((x7_2) % 256) 128]) := ⟨_, rfl⟩
          replace H : (packet_Number.l1 k2 y320 (x7_2 / 128) l1 (l1.length : Int) x12_1) = some r := by first | (rw [hy320]; with_reducible exact H) | (have H2_ := (Option.bind_some _ _).symm.trans H; rw [hy320]; with_reducible exact H2_) | (have H2_ := (Option.bind_some _ _).symm.trans H; with_reducible exact H2_) | with_reducible exact H | (rw [hy320]; exact H) | exact H
          have Ny320 := am hy320; clear hy320; have H' := am H; clear H
          go_wp2_with (first | ((with_reducible refine gate_builtin (b := .append) (xs := #[.tmp 20, .tmp 24]) rfl ?_); at_builtin; refine Kd.R_append (Kd.int .u8) (w0 := w) w.heap.size rfl (.tmp 20) (.tmp 24) 52 5 (.int .u8 0) 1 rfl Tryd.underlying52 info5 rfl (by decide) (by omega) u5 x5_2 (Go.bits .or .u8 ((x7_2) % 256) 128) [.int .u8 (Go.bits .or .u8 ((x7_2) % 256) 128)] (fun _ => True) (fun _ => False) rfl rfl ?aP (fun _ hk => hk.elim) ?aF ?aO ?aB ?aS ?aL ?_; (case aP => exact rfl); (case aB => exact (beu HB.out)); (case aF => exact (fun _ _ => trivial)); (case aO => exact (ru HO_5.out)); (case aS => exact (below_size (beu HB.out))); (case aL => have := LMc9.out; omega); intro v321 w10 ho hb hg hat; rw [← Ny320.out] at ho; have _ := am (hb); have _ := am (ho); clear HB HO_5; rename_i HB HO322; clear ho hb hg hat))
          go_roundg k2
          case measure => have := HK1.out; have := HK2.out; omega
          case rel => exact ⟨(y320), (x7_2 / 128), ap3, H', ⟨by have := HK1.out; have := HK2.out; omega⟩, ⟨ru HO322.out⟩, ⟨beu HB.out⟩⟩
         ·rw [if_neg c9] at H
          exact absurd H (by simp)
        ·rw [if_neg c8] at H
         have c8b0 : decide (128 ≤ x7_2) = false := decide_eq_false c8; clear c8
         by_cases c11 : x5_2.length < 140737488355328
         ·rw [if_pos c11] at H
          have LMc11 := am c11; clear c11; obtain ⟨y323, hy323⟩ : ∃ y_ : List Int, y_ = (x5_2 ++ [(x7_2) % 256]) := ⟨_, rfl⟩
          replace H : (packet_Number.l0 k2 y323 l1 (l1.length : Int) (wrap64 (x12_1 + 1))) = some r := by first | (rw [hy323]; with_reducible exact H) | (have H2_ := (Option.bind_some _ _).symm.trans H; rw [hy323]; with_reducible exact H2_) | (have H2_ := (Option.bind_some _ _).symm.trans H; with_reducible exact H2_) | with_reducible exact H | (rw [hy323]; exact H) | exact H
          have Ny323 := am hy323; clear hy323; have H' := am H; clear H
          go_wp2_with (first | ((with_reducible refine gate_builtin (b := .append) (xs := #[.tmp 26, .tmp 29]) rfl ?_); at_builtin; refine Kd.R_append (Kd.int .u8) (w0 := w) w.heap.size rfl (.tmp 26) (.tmp 29) 52 5 (.int .u8 0) 1 rfl Tryd.underlying52 info5 rfl (by decide) (by omega) u5 x5_2 ((x7_2) % 256) [.int .u8 ((x7_2) % 256)] (fun _ => True) (fun _ => False) rfl rfl ?aP (fun _ hk => hk.elim) ?aF ?aO ?aB ?aS ?aL ?_; (case aP => exact rfl); (case aB => exact (beu HB.out)); (case aF => exact (fun _ _ => trivial)); (case aO => exact (ru HO_5.out)); (case aS => exact (below_size (beu HB.out))); (case aL => have := LMc11.out; omega); intro v324 w12 ho hb hg hat; rw [← Ny323.out] at ho; have _ := am (hb); have _ := am (ho); clear HB HO_5; rename_i HB HO325; clear ho hb hg hat))
          go_roundg k2
          case measure => have := HK1.out; have := HK2.out; omega
          case rel => exact ⟨(y323), (wrap64 (x12_1 + 1)), ap3, H', ⟨by have := HK1.out; have := HK2.out; omega⟩, ⟨ru HO325.out⟩, ⟨beu HB.out⟩⟩
         ·rw [if_neg c11] at H
          exact absurd H (by simp)
     ·rw [if_neg c7] at H
      exact absurd H (by simp)
    ·rw [if_neg c6] at H
     exact absurd H (by simp)
   ·rw [if_neg c5] at H
    have c5b0 : decide (x12_1 < (l1.length : Int)) = false := decide_eq_false c5; clear c5; obtain rfl := Option.some.inj H; simp only [Option.some.injEq, Prod.mk.injEq] at H; obtain ⟨rfl⟩ := H
    go_wp2
    go_ret
    exact ⟨_, ap4, ru HO_5.out, beu HB.out⟩
def packet_Text.l0 : Nat → List Int → List ByteArray → Int → Int → Option (List Int)
 | 0, _, _, _, _ => none
 | k + 1, x5, x10, x11, x12 => if x12 < x11 then (if 0 ≤ x12 then (if x12 < (x10.length : Int) then ((packet_Number.f k x5 (([IntKind.u64.wrap (((rdOf ByteArray.empty x10 x12).size : Int))] : List Int))).bind fun t333 => (if t333.length + (rdOf ByteArray.empty x10 x12).size < 140737488355328 then (packet_Text.l0 k (t333 ++ bytesOf (rdOf ByteArray.empty x10 x12)) x10 x11 (wrap64 (x12 + 1))) else (none))) else (none)) else (none)) else (some x5)
def packet_Text.f (k : Nat) (l0 : List Int) (l1 : List ByteArray) : Option (List Int) := (slices_Clone_byte_byte.f l0).bind fun t326 => (packet_Text.l0 k t326 l1 (l1.length : Int) 0)
set_option maxHeartbeats 8000000 in
set_option maxRecDepth 100000 in
theorem packet_Text.calls (k : Nat) (A0 : Option Addr) (c0 : Nat) (l0 : List Int) (A1 : Option Addr) (c1 : Nat) (l1 : List ByteArray) (r : List Int) (w : World) (hr0 : Kd.C (Kd.int .u8) w A0 l0.length l0) (hc0 : l0.length ≤ c0) (hr1 : Kd.C Kd.string w A1 l1.length l1) (hc1 : l1.length ≤ c1) (h : packet_Text.f k l0 l1 = some r) :
  Calls Tryd.prog 53 #[.slice A0 l0.length c0, .slice A1 l1.length c1] w fun e w' => ∃ v0_ : Value, e = .returned (v0_) ∧ Kd.R (Kd.int .u8) 5 w' w.heap.size (fun _ => True) v0_ r ∧ Below w.heap.size w w' := by
 have HR0 := am hr0; have HC0 := am hc0; clear hr0 hc0; have HR1 := am hr1; have HC1 := am hc1; clear hr1 hc1; have HB := am (Below.refl w.heap.size w); have H : ((slices_Clone_byte_byte.f l0).bind fun t326 => (packet_Text.l0 k t326 l1 (l1.length : Int) 0)) = some r := h; clear h; replace H := obm H; obtain ⟨t326, A30, H⟩ := H; replace H : (packet_Text.l0 k t326 l1 (l1.length : Int) 0) = some r := H; have A3 := am A30; clear A30; have H' := am H; clear H
 go_enter Tryd.func53, Tryd.ntmps53
 go_wp2_with (first | ((with_reducible refine gate_callee (f := 49) rfl ?_); refine goesL_ (some 9) rfl rfl Tryd.func49 (by kernel_rfl) rfl #[.slice A0 l0.length c0] rfl ap1 ?_; (with_reducible refine (slices_Clone_byte_byte.calls _ _ l0 t326 _ ?side1 ?side2 A3.out).mono ?_); (case side1 => repeat (first | exact HR0.out | (with_reducible refine Kd.C_alloc ?_ _) | (with_reducible refine Kd.C_drewN ?_ _) | (with_reducible refine Kd.C_drew ?_))); (case side2 => exact HC0.out); rintro e w4 ⟨v327, rfl, ho0, hb⟩; refine ⟨_, rfl, ?_⟩; have _ := am (Kd.R_lower ho0 (below_size (beu HB.out))); have _ := am (below_step (beu HB.out) hb); clear HB; rename_i HO328 HB; (try clear hb); (try clear ho0)))
 go_loopg [5, 12] k (fun kq v5 v12 w' => ∃ (x5_1 : List Int) (x12_1 : Int), v12 = .int .i64 x12_1 ∧ Aside0 (packet_Text.l0 kq x5_1 l1 (l1.length : Int) x12_1 = some r) ∧ Aside0 (kq ≤ k) ∧ Aside0 (Kd.R (Kd.int .u8) 5 w' w.heap.size (fun _ => True) v5 x5_1) ∧ Aside0 (Below w.heap.size w w'))
 case atStart => exact ⟨(t326), (0), ap3, H', ⟨Nat.le_refl _⟩, ⟨ru HO328.out⟩, ⟨beu HB.out⟩⟩
 case round =>
  clear H'; (try clear c1); (try clear p2); (try clear c4); obtain ⟨x5_1, x12_1, rfl, HA, HK1, HO_5, HB⟩ := hrel
  cases gk with
  | zero => exact absurd HA.out (by simp [packet_Text.l0])
  | succ k1 =>
   have H := HA.out; clear HA; simp only [packet_Text.l0] at H
   by_cases c5 : x12_1 < (l1.length : Int)
   ·rw [if_pos c5] at H
    have c5b0 : decide (x12_1 < (l1.length : Int)) = true := decide_eq_true c5; clear c5
    by_cases c6 : 0 ≤ x12_1
    ·rw [if_pos c6] at H
     have c6b0 : decide (0 ≤ x12_1) = true := decide_eq_true c6; clear c6
     by_cases c7 : x12_1 < (l1.length : Int)
     ·rw [if_pos c7] at H
      have c7b0 : decide (x12_1 < (l1.length : Int)) = true := decide_eq_true c7; clear c7; obtain ⟨y330, hy330⟩ : ∃ y_ : List Int, y_ = (([IntKind.u64.wrap (((rdOf ByteArray.empty l1 x12_1).size : Int))] : List Int)) := ⟨_, rfl⟩
      replace H : ((packet_Number.f k1 x5_1 y330).bind fun t333 => (if t333.length + (rdOf ByteArray.empty l1 x12_1).size < 140737488355328 then (packet_Text.l0 k1 (t333 ++ bytesOf (rdOf ByteArray.empty l1 x12_1)) l1 (l1.length : Int) (wrap64 (x12_1 + 1))) else (none))) = some r := by first | (rw [hy330]; with_reducible exact H) | (have H2_ := (Option.bind_some _ _).symm.trans H; rw [hy330]; with_reducible exact H2_) | (have H2_ := (Option.bind_some _ _).symm.trans H; with_reducible exact H2_) | with_reducible exact H | (rw [hy330]; exact H) | exact H
      have Ny330 := am hy330; clear hy330; replace H := obm H; obtain ⟨t333, A80, H⟩ := H; replace H : (if t333.length + (rdOf ByteArray.empty l1 x12_1).size < 140737488355328 then (packet_Text.l0 k1 (t333 ++ bytesOf (rdOf ByteArray.empty l1 x12_1)) l1 (l1.length : Int) (wrap64 (x12_1 + 1))) else (none)) = some r := H; have A8 := am A80; clear A80
      by_cases c9 : t333.length + (rdOf ByteArray.empty l1 x12_1).size < 140737488355328
      ·rw [if_pos c9] at H
       have LMc9 := am c9; clear c9; obtain ⟨y336, hy336⟩ : ∃ y_ : List Int, y_ = (t333 ++ bytesOf (rdOf ByteArray.empty l1 x12_1)) := ⟨_, rfl⟩
       replace H : (packet_Text.l0 k1 y336 l1 (l1.length : Int) (wrap64 (x12_1 + 1))) = some r := by first | (rw [hy336]; with_reducible exact H) | (have H2_ := (Option.bind_some _ _).symm.trans H; rw [hy336]; with_reducible exact H2_) | (have H2_ := (Option.bind_some _ _).symm.trans H; with_reducible exact H2_) | with_reducible exact H | (rw [hy336]; exact H) | exact H
       have Ny336 := am hy336; clear hy336; have H' := am H; clear H; have p329 : 0 ≤ (x12_1 : Int) := of_decide_eq_true ap2; have q329 : x12_1 < (l1.length : Int) := of_decide_eq_true ap2; obtain ⟨ad329, e329, hx329_0⟩ := Kd.at_string HR1.out x12_1 p329 q329
       cases e329
       replace hx329_0 := (HB.out.cell (World.block_lt_of_cell? w _ hx329_0)).trans hx329_0; replace p329 := eq_true p329; replace q329 := eq_true q329
       go_wp2_with (first | ((with_reducible refine gate_dst (N := 20) rfl ?_); refine Kd.R_lit (Kd.int .u64) _ 75 ?hg (N := 20) ?hd (xs := ([IntKind.u64.wrap (((rdOf ByteArray.empty l1 x12_1).size : Int))] : List Int)) (inner := [.int .u64 (IntKind.u64.wrap (((rdOf ByteArray.empty l1 x12_1).size : Int)))]) (ok := fun _ => True) (okp := fun _ => True) ?hr ?hp (fun _ hk => hk) trivial (Below.refl _ _) (Nat.le_refl _) (by simp) ?_; (case hd => rfl); (case hg => rfl); (case hr => first | (go_simp; done) | (go_simp; rfl)); (case hp => exact (Reps.one (show Kd.M (Kd.int .u64) _ _ _ (IntKind.u64.wrap (((rdOf ByteArray.empty l1 x12_1).size : Int))) [.int .u64 (IntKind.u64.wrap (((rdOf ByteArray.empty l1 x12_1).size : Int)))] from rfl) (Reps.none _ _))); intro v331 w10 ho11 hb hg_ hnew_; clear hg_ hnew_; (first | rw [← Ny330.out] at ho11 | (simp only [Int.reduceToNat] at ho11; rw [← Ny330.out] at ho11)); have _ := am (Kd.R_below (ru HO_5.out) hb); have _ := am (Kd.R_lower ho11 (below_size (beu HB.out))); have _ := am (below_step (beu HB.out) hb); clear HO_5 HB; rename_i HO_5 HO332 HB; clear hb ho11; obtain ⟨Ao12, co12, eo12⟩ := Kd.R_slice HO_5.out; subst eo12; obtain ⟨Ao13, co13, eo13⟩ := Kd.R_slice HO332.out; subst eo13) | ((with_reducible refine gate_callee (f := 52) rfl ?_); refine goesL_ (some 21) rfl rfl Tryd.func52 (by kernel_rfl) rfl #[.slice Ao12 x5_1.length co12, .slice Ao13 y330.length co13] rfl ap1 ?_; (with_reducible refine (packet_Number.calls k1 _ _ x5_1 _ _ y330 t333 _ ?side1 ?side2 ?side3 ?side4 A8.out).mono ?_); (case side1 => exact cu (Kd.R_reads' HO_5.out).2.2); (case side2 => exact (Kd.R_reads' HO_5.out).2.1); (case side3 => exact cu (Kd.R_reads' HO332.out).2.2); (case side4 => exact (Kd.R_reads' HO332.out).2.1); rintro e w14 ⟨v334, rfl, ho0, hb⟩; refine ⟨_, rfl, ?_⟩; have _ := am (Kd.R_elder' (ru HO_5.out) (Kd.R_base ho0) hb); have _ := am (Kd.R_below (ru HO332.out) hb); have _ := am (Kd.R_lower (Kd.R_new' ho0 (Kd.R_lt (ru HO_5.out))) (below_size (beu HB.out))); have _ := am (below_step (beu HB.out) hb); clear HO_5 HO332 HB; rename_i HO_5 HO332 HO335 HB; (try clear hb); (try clear ho0)) | (at_builtin; refine print_append_str (w0 := w) w.heap.size rfl (.tmp 21) _ 52 9 5 rfl Tryd.underlying52 Tryd.underlying9 info5 v334 t333 (rdOf ByteArray.empty l1 x12_1) rfl rfl ?aO ?aB ?aS ?aL ?_; (case aB => exact (beu HB.out)); (case aO => exact (Kd.own_of_R (ru (Kd.R_mono HO335.out (fun _ hk => trivial))))); (case aS => exact (below_size (beu HB.out))); (case aL => have := LMc9.out; omega); intro v337 w15 ho0 hb hg; have ho := Kd.R_of_own (h1 := fun _ => rfl) (ok := fun _ => True) ho0 (fun _ _ => trivial); clear ho0; have hat := True.intro; rw [← Ny336.out] at ho; change Kd.R (Kd.int .u8) 5 w15 w.heap.size (fun _ => True) v337 y336 at ho; have _ := am (Kd.R_over' (ru HO332.out) (Kd.R_typed (ru HO335.out)) (by decide) hg); have _ := am (hb); have _ := am (ho); clear HO332 HB HO335; rename_i HO332 HB HO338; clear ho hb hg hat))
       go_roundg k1
       case measure => have := HK1.out; omega
       case rel => exact ⟨(y336), (wrap64 (x12_1 + 1)), ap3, H', ⟨by have := HK1.out; omega⟩, ⟨ru HO338.out⟩, ⟨beu HB.out⟩⟩
      ·rw [if_neg c9] at H
       exact absurd H (by simp)
     ·rw [if_neg c7] at H
      exact absurd H (by simp)
    ·rw [if_neg c6] at H
     exact absurd H (by simp)
   ·rw [if_neg c5] at H
    have c5b0 : decide (x12_1 < (l1.length : Int)) = false := decide_eq_false c5; clear c5; obtain rfl := Option.some.inj H; simp only [Option.some.injEq, Prod.mk.injEq] at H; obtain ⟨rfl⟩ := H
    go_wp2
    go_ret
    exact ⟨_, ap4, ru HO_5.out, beu HB.out⟩
def batch_Put.f (k : Nat) (l0 : List Int) (a1_0 : Int) (a1_1 : Int) (a1_2 : Int) (a1_3 : Int) (a1_4 : Int) (a1_5 : ByteArray) (a1_6 : ByteArray) (a1_7 : ByteArray) (l1_8 : List ByteArray) : Option (List Int) := (packet_Number.f k l0 (([IntKind.u64.wrap (a1_0), IntKind.u64.wrap (a1_3), IntKind.u64.wrap (a1_4), IntKind.u64.wrap (a1_1), IntKind.u64.wrap (a1_2)] : List Int))).bind fun t343 => ((packet_Text.f k t343 (([a1_5, a1_6, a1_7] : List ByteArray))).bind fun t349 => ((packet_Number.f k t349 (([IntKind.u64.wrap ((l1_8.length : Int))] : List Int))).bind fun t355 => ((packet_Text.f k t355 l1_8).bind fun t358 => (some t358))))
def batch_Put.T2 : Bool × List (List Nat × List Nat) := (true, [([], []), ([], []), ([1], [1]), ([2], [2]), ([], []), ([4], [4]), ([5], [5]), ([], []), ([7], [7]), ([8], [8]), ([3, 6, 9], [3, 6, 9]), ([0, 10], [0, 10]), ([], []), ([12], [12]), ([13], [13]), ([14], [14]), ([15], [15]), ([11, 16, 11], [11, 16]), ([17, 17, 0, 1, 2, 3, 4, 5, 6, 7, 8, 9, 10, 11, 12, 13, 14, 15, 16, 17], [0, 17])])
def batch_Put.B2 : List Nat := [0, 0, 2, 6, 0, 16, 48, 0, 128, 384, 1022, 2047, 0, 4096, 12288, 28672, 61440, 131071, 262143]
theorem batch_Put.tab2 : rtab .any (opsOf Tryd.f28 2) = batch_Put.T2 := by kernel_rfl
theorem batch_Put.bits2 : waitsOk batch_Put.T2.2 batch_Put.B2 = true := by kernel_rfl
set_option maxHeartbeats 8000000 in
set_option maxRecDepth 100000 in
theorem batch_Put.calls (k : Nat) (A0 : Option Addr) (c0 : Nat) (l0 : List Int) (a1_0 : Int) (a1_1 : Int) (a1_2 : Int) (a1_3 : Int) (a1_4 : Int) (a1_5 : ByteArray) (a1_6 : ByteArray) (a1_7 : ByteArray) (A1_8 : Option Addr) (c1_8 : Nat) (l1_8 : List ByteArray) (r : List Int) (w : World) (hr0 : Kd.C (Kd.int .u8) w A0 l0.length l0) (hc0 : l0.length ≤ c0) (hr1_8 : Kd.C Kd.string w A1_8 l1_8.length l1_8) (hc1_8 : l1_8.length ≤ c1_8) (h : batch_Put.f k l0 a1_0 a1_1 a1_2 a1_3 a1_4 a1_5 a1_6 a1_7 l1_8 = some r) :
  Calls Tryd.prog 28 #[.slice A0 l0.length c0, .agg #[.int .i64 a1_0, .int .i64 a1_1, .int .i64 a1_2, .int .i64 a1_3, .int .i64 a1_4, .string a1_5, .string a1_6, .string a1_7, .slice A1_8 l1_8.length c1_8]] w fun e w' => ∃ v0_ : Value, e = .returned (v0_) ∧ Kd.R (Kd.int .u8) 5 w' w.heap.size (fun _ => True) v0_ r ∧ Below w.heap.size w w' := by
 have hu31 := Tryd.underlying31; have HR0 := am hr0; have HC0 := am hc0; clear hr0 hc0; have HR1_8 := am hr1_8; have HC1_8 := am hc1_8; clear hr1_8 hc1_8; have HB := am (Below.refl w.heap.size w); have H : ((packet_Number.f k l0 (([IntKind.u64.wrap (a1_0), IntKind.u64.wrap (a1_3), IntKind.u64.wrap (a1_4), IntKind.u64.wrap (a1_1), IntKind.u64.wrap (a1_2)] : List Int))).bind fun t343 => ((packet_Text.f k t343 (([a1_5, a1_6, a1_7] : List ByteArray))).bind fun t349 => ((packet_Number.f k t349 (([IntKind.u64.wrap ((l1_8.length : Int))] : List Int))).bind fun t355 => ((packet_Text.f k t355 l1_8).bind fun t358 => (some t358))))) = some r := h; clear h; obtain ⟨y340, hy340⟩ : ∃ y_ : List Int, y_ = (([IntKind.u64.wrap (a1_0), IntKind.u64.wrap (a1_3), IntKind.u64.wrap (a1_4), IntKind.u64.wrap (a1_1), IntKind.u64.wrap (a1_2)] : List Int)) := ⟨_, rfl⟩
 replace H : ((packet_Number.f k l0 y340).bind fun t343 => ((packet_Text.f k t343 (([a1_5, a1_6, a1_7] : List ByteArray))).bind fun t349 => ((packet_Number.f k t349 (([IntKind.u64.wrap ((l1_8.length : Int))] : List Int))).bind fun t355 => ((packet_Text.f k t355 l1_8).bind fun t358 => (some t358))))) = some r := by first | (rw [hy340]; with_reducible exact H) | (have H2_ := (Option.bind_some _ _).symm.trans H; rw [hy340]; with_reducible exact H2_) | (have H2_ := (Option.bind_some _ _).symm.trans H; with_reducible exact H2_) | with_reducible exact H | (rw [hy340]; exact H) | exact H
 have Ny340 := am hy340; clear hy340; replace H := obm H; obtain ⟨t343, A30, H⟩ := H; replace H : ((packet_Text.f k t343 (([a1_5, a1_6, a1_7] : List ByteArray))).bind fun t349 => ((packet_Number.f k t349 (([IntKind.u64.wrap ((l1_8.length : Int))] : List Int))).bind fun t355 => ((packet_Text.f k t355 l1_8).bind fun t358 => (some t358)))) = some r := H; have A3 := am A30; clear A30; obtain ⟨y346, hy346⟩ : ∃ y_ : List ByteArray, y_ = (([a1_5, a1_6, a1_7] : List ByteArray)) := ⟨_, rfl⟩
 replace H : ((packet_Text.f k t343 y346).bind fun t349 => ((packet_Number.f k t349 (([IntKind.u64.wrap ((l1_8.length : Int))] : List Int))).bind fun t355 => ((packet_Text.f k t355 l1_8).bind fun t358 => (some t358)))) = some r := by first | (rw [hy346]; with_reducible exact H) | (have H2_ := (Option.bind_some _ _).symm.trans H; rw [hy346]; with_reducible exact H2_) | (have H2_ := (Option.bind_some _ _).symm.trans H; with_reducible exact H2_) | with_reducible exact H | (rw [hy346]; exact H) | exact H
 have Ny346 := am hy346; clear hy346; replace H := obm H; obtain ⟨t349, A40, H⟩ := H; replace H : ((packet_Number.f k t349 (([IntKind.u64.wrap ((l1_8.length : Int))] : List Int))).bind fun t355 => ((packet_Text.f k t355 l1_8).bind fun t358 => (some t358))) = some r := H; have A4 := am A40; clear A40; obtain ⟨y352, hy352⟩ : ∃ y_ : List Int, y_ = (([IntKind.u64.wrap ((l1_8.length : Int))] : List Int)) := ⟨_, rfl⟩
 replace H : ((packet_Number.f k t349 y352).bind fun t355 => ((packet_Text.f k t355 l1_8).bind fun t358 => (some t358))) = some r := by first | (rw [hy352]; with_reducible exact H) | (have H2_ := (Option.bind_some _ _).symm.trans H; rw [hy352]; with_reducible exact H2_) | (have H2_ := (Option.bind_some _ _).symm.trans H; with_reducible exact H2_) | with_reducible exact H | (rw [hy352]; exact H) | exact H
 have Ny352 := am hy352; clear hy352; replace H := obm H; obtain ⟨t355, A50, H⟩ := H; replace H : ((packet_Text.f k t355 l1_8).bind fun t358 => (some t358)) = some r := H; have A5 := am A50; clear A50; replace H := obm H; obtain ⟨t358, A60, H⟩ := H; replace H : (some t358) = some r := H; have A6 := am A60; clear A60; obtain rfl := Option.some.inj H; simp only [Option.some.injEq, Prod.mk.injEq] at H; obtain ⟨rfl⟩ := H
 go_enter Tryd.func28, Tryd.ntmps28
 try go_wp2_with (first | ((with_reducible refine gate_dst (N := 3) rfl ?_); refine box_event ?hg (N := 3) ?hd (cs := #[.int .i64 a1_0, .int .i64 a1_1, .int .i64 a1_2, .int .i64 a1_3, .int .i64 a1_4, .string a1_5, .string a1_6, .string a1_7, .slice A1_8 l1_8.length c1_8]) (t := 31) ?hr ?_; (case hd => rfl); (case hg => rfl); (case hr => first | (go_simp; done) | (go_simp; rfl)); intro gb339 hg w7 hbox hb; have _ := am (below_step (beu HB.out) hb); have _ := am (hbox); have _ := am ((by rw [hg]; exact (below_size (beu HB.out)) : w.heap.size ≤ gb339)); have _ := am ((by rw [hg]; exact (below_size (beu HB.out)) : w.heap.size ≤ gb339)); clear HB; rename_i HB BK339 GW339 GE339; clear hb hbox hg; obtain ⟨_, _, _, _, _, _, _, _, _⟩ := cells9 BK339.out; obtain ⟨_, _, _, _, _, _, _, _, _⟩ := frozens9 BK339.out) | ((with_reducible refine gate_dst (N := 21) rfl ?_); refine Kd.R_lit (Kd.int .u64) _ 75 ?hg (N := 21) ?hd (xs := ([IntKind.u64.wrap (a1_0), IntKind.u64.wrap (a1_3), IntKind.u64.wrap (a1_4), IntKind.u64.wrap (a1_1), IntKind.u64.wrap (a1_2)] : List Int)) (inner := [.int .u64 (IntKind.u64.wrap (a1_0)), .int .u64 (IntKind.u64.wrap (a1_3)), .int .u64 (IntKind.u64.wrap (a1_4)), .int .u64 (IntKind.u64.wrap (a1_1)), .int .u64 (IntKind.u64.wrap (a1_2))]) (ok := fun _ => True) (okp := fun _ => True) ?hr ?hp (fun _ hk => hk) trivial (Below.refl _ _) (Nat.le_refl _) (by simp) ?_; (case hd => rfl); (case hg => rfl); (case hr => first | (go_simp; done) | (go_simp; rfl)); (case hp => exact (Reps.one (show Kd.M (Kd.int .u64) _ _ _ (IntKind.u64.wrap (a1_0)) [.int .u64 (IntKind.u64.wrap (a1_0))] from rfl) (Reps.one (show Kd.M (Kd.int .u64) _ _ _ (IntKind.u64.wrap (a1_3)) [.int .u64 (IntKind.u64.wrap (a1_3))] from rfl) (Reps.one (show Kd.M (Kd.int .u64) _ _ _ (IntKind.u64.wrap (a1_4)) [.int .u64 (IntKind.u64.wrap (a1_4))] from rfl) (Reps.one (show Kd.M (Kd.int .u64) _ _ _ (IntKind.u64.wrap (a1_1)) [.int .u64 (IntKind.u64.wrap (a1_1))] from rfl) (Reps.one (show Kd.M (Kd.int .u64) _ _ _ (IntKind.u64.wrap (a1_2)) [.int .u64 (IntKind.u64.wrap (a1_2))] from rfl) (Reps.none _ _))))))); intro v341 w9 ho10 hb hg_ hnew_; clear hg_ hnew_; (first | rw [← Ny340.out] at ho10 | (simp only [Int.reduceToNat] at ho10; rw [← Ny340.out] at ho10)); have _ := am (Kd.R_lower ho10 (below_size (beu HB.out))); have _ := am (blk_below (bu BK339.out) hb); have _ := am (below_step (beu HB.out) hb); clear BK339 HB; rename_i HO342 BK339 HB; clear hb ho10; obtain ⟨Ao11, co11, eo11⟩ := Kd.R_slice HO342.out; subst eo11) | ((with_reducible refine gate_callee (f := 52) rfl ?_); refine goesL_ (some 22) rfl rfl Tryd.func52 (by kernel_rfl) rfl #[.slice A0 l0.length c0, .slice Ao11 y340.length co11] rfl ap1 ?_; (with_reducible refine (packet_Number.calls k _ _ l0 _ _ y340 t343 _ ?side1 ?side2 ?side3 ?side4 A3.out).mono ?_); (case side1 => exact cu (Kd.C_below HR0.out HB.out)); (case side2 => exact HC0.out); (case side3 => exact cu (Kd.R_reads' HO342.out).2.2); (case side4 => exact (Kd.R_reads' HO342.out).2.1); rintro e w12 ⟨v344, rfl, ho0, hb⟩; refine ⟨_, rfl, ?_⟩; have _ := am (Kd.R_below (ru HO342.out) hb); have _ := am (Kd.R_lower ho0 (below_size (beu HB.out))); have _ := am (blk_below (bu BK339.out) hb); have _ := am (below_step (beu HB.out) hb); clear HO342 BK339 HB; rename_i HO342 HO345 BK339 HB; (try clear hb); (try clear ho0); obtain ⟨Ao13, co13, eo13⟩ := Kd.R_slice HO345.out; subst eo13))
 (try (rw [drewN_self w12]; generalize hq_ : World.drewN w12 _ = w12; have _ := am (show Kd.R _ _ w12 _ _ _ _ from by rw [← hq_]; exact Kd.R_drewN HO342.out _); have _ := am (show Kd.R _ _ w12 _ _ _ _ from by rw [← hq_]; exact Kd.R_drewN HO345.out _); have _ := am (blk_at hq_ BK339.out); have _ := am (below_at hq_ HB.out); clear hq_ HO342 HO345 BK339 HB; rename_i HO342 HO345 BK339 HB))
 have n0_ := am (Kd.R_drew HO342.out); have n1_ := am (Kd.R_drew HO345.out); have n2_ := am (blk_drew BK339.out); have n3_ := am (below_drew1 HB.out); clear HO342 HO345 BK339 HB; have HO342 := n0_; have HO345 := n1_; have BK339 := n2_; have HB := n3_; clear n0_ n1_ n2_ n3_
 refine start_ (n := 19) (S := fun w' => w'.cell? ⟨gb339, 0, none⟩ = some (.int .i64 a1_0) ∧ w'.cell? ⟨gb339, 1, none⟩ = some (.int .i64 a1_1) ∧ w'.cell? ⟨gb339, 2, none⟩ = some (.int .i64 a1_2) ∧ w'.cell? ⟨gb339, 3, none⟩ = some (.int .i64 a1_3) ∧ w'.cell? ⟨gb339, 4, none⟩ = some (.int .i64 a1_4) ∧ w'.cell? ⟨gb339, 5, none⟩ = some (.string a1_5) ∧ w'.cell? ⟨gb339, 6, none⟩ = some (.string a1_6) ∧ w'.cell? ⟨gb339, 7, none⟩ = some (.string a1_7) ∧ w'.cell? ⟨gb339, 8, none⟩ = some (.slice A1_8 l1_8.length c1_8)) (ds := []) #[false, false, false, false, false, false, false, false, false, false, false, false, false, false, false, false, false, false, false] (by kernel_rfl) rfl rfl ⟨(blk_cell BK339.out 0).trans rfl, (blk_cell BK339.out 1).trans rfl, (blk_cell BK339.out 2).trans rfl, (blk_cell BK339.out 3).trans rfl, (blk_cell BK339.out 4).trans rfl, (blk_cell BK339.out 5).trans rfl, (blk_cell BK339.out 6).trans rfl, (blk_cell BK339.out 7).trans rfl, (blk_cell BK339.out 8).trans rfl⟩ (fun hHeld => ?_); refine with_tabW batch_Put.tab2 batch_Put.bits2 (fun HT_ HW_ => ?_)
 generalize w12.drew = w14 at HO342 HO345 BK339 HB hHeld ⊢; refine pure_ (i := 0) (N := some 23) (v := ?_) (a' := ?_) (bs 19 1) rfl rfl (ak HT_.out) (fun _ _ _ h => h) (Or.inl ⟨by rfl, ?_⟩) ?_ ?_; rotate_left
 ·intro w'
  go_simp
  with_reducible rfl
 rotate_left
 ·simp only [Act.put, sA, sB, sC, i64_w, i32_w]
  rfl
 refine pure_ (i := 1) (N := some 24) (v := ?_) (a' := ?_) (bs 19 3) rfl rfl (ak HT_.out) (fun _ _ _ h => h) (Or.inl ⟨by rfl, ?_⟩) ?_ ?_; rotate_left
 ·intro w'
  go_simp
  with_reducible rfl
 rotate_left
 ·simp only [Act.put, sA, sB, sC, i64_w, i32_w]
  rfl
 refine pure_ (i := 2) (N := some 25) (v := ?_) (a' := ?_) (bs 19 7) rfl rfl (ak HT_.out) (fun _ _ _ h => h) (Or.inl ⟨by rfl, ?_⟩) ?_ ?_; rotate_left
 ·intro w'
  go_simp
  with_reducible rfl
 rotate_left
 ·simp only [Act.put, sA, sB, sC, i64_w, i32_w]
  rfl
 refine pure_ (i := 4) (N := some 27) (v := ?_) (a' := ?_) (bs 19 23) rfl rfl (ak HT_.out) (fun _ _ _ h => h) (Or.inl ⟨by rfl, ?_⟩) ?_ ?_; rotate_left
 ·intro w'
  go_simp
  with_reducible rfl
 rotate_left
 ·simp only [Act.put, sA, sB, sC, i64_w, i32_w]
  rfl
 refine pure_ (i := 5) (N := some 28) (v := ?_) (a' := ?_) (bs 19 55) rfl rfl (ak HT_.out) (fun _ _ _ h => h) (Or.inl ⟨by rfl, ?_⟩) ?_ ?_; rotate_left
 ·intro w'
  go_simp
  with_reducible rfl
 rotate_left
 ·simp only [Act.put, sA, sB, sC, i64_w, i32_w]
  rfl
 refine pure_ (i := 7) (N := some 30) (v := ?_) (a' := ?_) (bs 19 183) rfl rfl (ak HT_.out) (fun _ _ _ h => h) (Or.inl ⟨by rfl, ?_⟩) ?_ ?_; rotate_left
 ·intro w'
  go_simp
  with_reducible rfl
 rotate_left
 ·simp only [Act.put, sA, sB, sC, i64_w, i32_w]
  rfl
 refine pure_ (i := 8) (N := some 31) (v := ?_) (a' := ?_) (bs 19 439) rfl rfl (ak HT_.out) (fun _ _ _ h => h) (Or.inl ⟨by rfl, ?_⟩) ?_ ?_; rotate_left
 ·intro w'
  go_simp
  with_reducible rfl
 rotate_left
 ·simp only [Act.put, sA, sB, sC, i64_w, i32_w]
  rfl
 refine pure_ (i := 12) (N := some 35) (v := ?_) (a' := ?_) (bs 19 4535) rfl rfl (ak HT_.out) (fun _ _ _ h => h) (Or.inl ⟨by rfl, ?_⟩) ?_ ?_; rotate_left
 ·intro w'
  go_simp
  with_reducible rfl
 rotate_left
 ·simp only [Act.put, sA, sB, sC, i64_w, i32_w]
  rfl
 refine take_ (i := 3) (N := some 26) (v := ?_) (a' := ?_) (bs 19 4543) rfl rfl (take_ofW HT_.out HW_.out (by kernel_rfl)) (fun _ _ _ h => h) (Or.inl ⟨by rfl, ?_⟩) hHeld ?_ ?_; rotate_left
 ·rintro w' ⟨s0, s1, s2, s3, s4, s5, s6, s7, s8⟩
  go_simp
  with_reducible rfl
 rotate_left
 ·simp only [Act.put, sA, sB, sC, i64_w, i32_w]
  rfl
 refine take_ (i := 6) (N := some 29) (v := ?_) (a' := ?_) (bs 19 4607) rfl rfl (take_ofW HT_.out HW_.out (by kernel_rfl)) (fun _ _ _ h => h) (Or.inl ⟨by rfl, ?_⟩) hHeld ?_ ?_; rotate_left
 ·rintro w' ⟨s0, s1, s2, s3, s4, s5, s6, s7, s8⟩
  go_simp
  with_reducible rfl
 rotate_left
 ·simp only [Act.put, sA, sB, sC, i64_w, i32_w]
  rfl
 refine take_ (i := 9) (N := some 32) (v := ?_) (a' := ?_) (bs 19 5119) rfl rfl (take_ofW HT_.out HW_.out (by kernel_rfl)) (fun _ _ _ h => h) (Or.inl ⟨by rfl, ?_⟩) hHeld ?_ ?_; rotate_left
 ·rintro w' ⟨s0, s1, s2, s3, s4, s5, s6, s7, s8⟩
  go_simp
  with_reducible rfl
 rotate_left
 ·simp only [Act.put, sA, sB, sC, i64_w, i32_w]
  rfl
 refine take_ (i := 13) (N := some 36) (v := ?_) (a' := ?_) (bs 19 13311) rfl rfl (take_ofW HT_.out HW_.out (by kernel_rfl)) (fun _ _ _ h => h) (Or.inl ⟨by rfl, ?_⟩) hHeld ?_ ?_; rotate_left
 ·rintro w' ⟨s0, s1, s2, s3, s4, s5, s6, s7, s8⟩
  go_simp
  with_reducible rfl
 rotate_left
 ·simp only [Act.put, sA, sB, sC, i64_w, i32_w]
  rfl
 refine pure_ (i := 14) (N := some 37) (v := ?_) (a' := ?_) (bs 19 29695) rfl rfl (ak HT_.out) (fun _ _ _ h => h) (Or.inl ⟨by rfl, ?_⟩) ?_ ?_; rotate_left
 ·intro w'
  go_simp
  with_reducible rfl
 rotate_left
 ·simp only [Act.put, sA, sB, sC, i64_w, i32_w]
  rfl
 refine pure_ (i := 15) (N := some 38) (v := ?_) (a' := ?_) (bs 19 62463) rfl rfl (ak HT_.out) (fun _ _ _ h => h) (Or.inl ⟨by rfl, ?_⟩) ?_ ?_; rotate_left
 ·intro w'
  go_simp
  with_reducible rfl
 rotate_left
 ·simp only [Act.put, sA, sB, sC, i64_w, i32_w]
  rfl
 refine join_ (σ := Value × Value × Value) 2 #[true, true, true, true, true, true, true, true, true, true, true, true, true, true, true, true, true, false, false] (fun s_ => [(33, s_.1), (34, s_.2.1), (39, s_.2.2)]) (fun s_ w' => (w'.cell? ⟨gb339, 0, none⟩ = some (.int .i64 a1_0) ∧ w'.cell? ⟨gb339, 1, none⟩ = some (.int .i64 a1_1) ∧ w'.cell? ⟨gb339, 2, none⟩ = some (.int .i64 a1_2) ∧ w'.cell? ⟨gb339, 3, none⟩ = some (.int .i64 a1_3) ∧ w'.cell? ⟨gb339, 4, none⟩ = some (.int .i64 a1_4) ∧ w'.cell? ⟨gb339, 5, none⟩ = some (.string a1_5) ∧ w'.cell? ⟨gb339, 6, none⟩ = some (.string a1_6) ∧ w'.cell? ⟨gb339, 7, none⟩ = some (.string a1_7) ∧ w'.cell? ⟨gb339, 8, none⟩ = some (.slice A1_8 l1_8.length c1_8)) ∧ (Kd.R (Kd.int .u64) 75 w' w.heap.size (fun k_ => some k_ ≠ (s_.2.2 : Value).ownBlock) (.slice Ao11 y340.length co11) y340) ∧ (Kd.R (Kd.int .u8) 5 w' w.heap.size (fun k_ => some k_ ≠ (s_.2.1 : Value).ownBlock) (.slice Ao13 t343.length co13) t343) ∧ (Kd.R Kd.string 9 w' w.heap.size (fun _ => True) s_.1 y346) ∧ (Kd.R (Kd.int .u8) 5 w' w.heap.size (fun k_ => some k_ ≠ (.slice Ao13 t343.length co13 : Value).ownBlock) s_.2.1 t349) ∧ (Kd.R (Kd.int .u64) 75 w' w.heap.size (fun k_ => some k_ ≠ (.slice Ao11 y340.length co11 : Value).ownBlock) s_.2.2 y352) ∧ (w'.heap[gb339]? = some (.cells #[.int .i64 a1_0, .int .i64 a1_1, .int .i64 a1_2, .int .i64 a1_3, .int .i64 a1_4, .string a1_5, .string a1_6, .string a1_7, .slice A1_8 l1_8.length c1_8] 31 (0, 0))) ∧ (Below w.heap.size w w')) ?_ ?_; rotate_left
 ·intro hCont
  refine two_ (i := 10) (j := 16) (Ni := some 33) (Nj := some 39) #[true, true, true, true, true, true, true, true, true, true, true, false, true, true, true, true, false, false, false] #[true, true, true, true, true, true, true, true, true, true, false, false, true, true, true, true, true, false, false] rfl rfl rfl rfl (two_of HT_.out (by kernel_rfl)) (by decide) (by decide) (fun K hK => ?_) (fun K hK => ?_)
  ·skip
   refine Kd.R_lit_step Kd.string _ 9 ?hg (N := 33) ?hd (xs := ([a1_5, a1_6, a1_7] : List ByteArray)) (inner := [.string a1_5, .string a1_6, .string a1_7]) (ok := fun _ => True) (okp := fun _ => True) ?hr ?hp (fun _ hk => hk) trivial (Below.refl _ _) (Nat.le_refl _) (by simp) ?_; (case hd => rfl); (case hg => rfl); (case hr => first | (go_simp; done) | (go_simp; rfl)); (case hp => exact (Reps.one (show Kd.M Kd.string _ _ _ a1_5 [.string a1_5] from rfl) (Reps.one (show Kd.M Kd.string _ _ _ a1_6 [.string a1_6] from rfl) (Reps.one (show Kd.M Kd.string _ _ _ a1_7 [.string a1_7] from rfl) (Reps.none _ _)))))
   intro v347 w15 ho16 hb hg_ hnew_; clear hg_ hnew_
   (first | rw [← Ny346.out] at ho16 | (simp only [Int.reduceToNat] at ho16; rw [← Ny346.out] at ho16))
   have n0_ := am (Kd.R_below (ru HO342.out) hb); have n1_ := am (Kd.R_below (ru HO345.out) hb); have n2_ := am (Kd.R_lower ho16 (below_size (beu HB.out))); have n3_ := am (blk_below (bu BK339.out) hb); have n4_ := am (below_step (beu HB.out) hb); clear HO342 HO345 BK339 HB; have HO342 := n0_; have HO345 := n1_; have HO348 := n2_; have BK339 := n3_; have HB := n4_; clear n0_ n1_ n2_ n3_ n4_ hb ho16; obtain ⟨Ao17, co17, eo17⟩ := Kd.R_slice HO348.out
   (first | subst eo17 | (injection eo17 with f1_ f2_ f3_; have f4_ := f1_.symm; have f5_ := f3_.symm; clear f1_ f2_ f3_; subst f4_; subst f5_))
   refine hK.out _ _ ⟨(blk_cell BK339.out 0).trans rfl, (blk_cell BK339.out 1).trans rfl, (blk_cell BK339.out 2).trans rfl, (blk_cell BK339.out 3).trans rfl, (blk_cell BK339.out 4).trans rfl, (blk_cell BK339.out 5).trans rfl, (blk_cell BK339.out 6).trans rfl, (blk_cell BK339.out 7).trans rfl, (blk_cell BK339.out 8).trans rfl⟩ (fun hHeld => ?_); clear hK K; refine norm_ (a' := ?_) ?_ ?_; rotate_left
   ·show Act.put _ (some 33) _ = _
    simp only [Act.put, sA, sB, sC, i64_w, i32_w]
    rfl
   refine two_ (i := 11) (j := 16) (Ni := some 34) (Nj := some 39) #[true, true, true, true, true, true, true, true, true, true, true, true, true, true, true, true, false, false, false] #[true, true, true, true, true, true, true, true, true, true, true, false, true, true, true, true, true, false, false] rfl rfl rfl rfl (two_of HT_.out (by kernel_rfl)) (by decide) (by decide) (fun K hK => ?_) (fun K hK => ?_)
   ·skip
    refine goes_ Tryd.func53 (by kernel_rfl) rfl #[.slice Ao13 t343.length co13, .slice Ao17 y346.length co17] (by rfl) rfl rfl ap1 ?_; with_reducible refine (packet_Text.calls k _ _ t343 _ _ y346 t349 _ ?side1 ?side2 ?side3 ?side4 A4.out).mono ?_
    (case side1 => exact cu (Kd.R_reads' HO345.out).2.2)
    (case side2 => exact (Kd.R_reads' HO345.out).2.1)
    (case side3 => exact cu (Kd.R_reads' HO348.out).2.2)
    (case side4 => exact (Kd.R_reads' HO348.out).2.1)
    rintro e w18 ⟨v350, rfl, ho0, hb⟩; refine ⟨_, rfl, ?_⟩; have n0_ := am (Kd.R_below (ru HO342.out) hb); have n1_ := am (Kd.R_elder' (ru HO345.out) (Kd.R_base ho0) hb); have n2_ := am (Kd.R_below (ru HO348.out) hb); have n3_ := am (Kd.R_lower (Kd.R_new' ho0 (Kd.R_lt (ru HO345.out))) (below_size (beu HB.out))); have n4_ := am (blk_below (bu BK339.out) hb); have n5_ := am (below_step (beu HB.out) hb); clear HO342 HO345 HO348 BK339 HB; have HO342 := n0_; have HO345 := n1_; have HO348 := n2_; have HO351 := n3_; have BK339 := n4_; have HB := n5_; clear n0_ n1_ n2_ n3_ n4_ n5_
    (try clear hb)
    (try clear hb2)
    (try clear hk)
    (try clear hi)
    (try clear ho0)
    refine hK.out _ _ ⟨(blk_cell BK339.out 0).trans rfl, (blk_cell BK339.out 1).trans rfl, (blk_cell BK339.out 2).trans rfl, (blk_cell BK339.out 3).trans rfl, (blk_cell BK339.out 4).trans rfl, (blk_cell BK339.out 5).trans rfl, (blk_cell BK339.out 6).trans rfl, (blk_cell BK339.out 7).trans rfl, (blk_cell BK339.out 8).trans rfl⟩ (fun hHeld => ?_); clear hK K; refine norm_ (a' := ?_) ?_ ?_; rotate_left
    ·show Act.put _ (some 34) _ = _
     simp only [Act.put, sA, sB, sC, i64_w, i32_w]
     rfl
    refine one_ (i := 16) (N := some 39) (bs 19 131071) rfl rfl (one_of HT_.out (by kernel_rfl)) (by decide) (fun K hK => ?_)
    refine Kd.R_lit_step (Kd.int .u64) _ 75 ?hg (N := 39) ?hd (xs := ([IntKind.u64.wrap ((l1_8.length : Int))] : List Int)) (inner := [.int .u64 (IntKind.u64.wrap ((l1_8.length : Int)))]) (ok := fun _ => True) (okp := fun _ => True) ?hr ?hp (fun _ hk => hk) trivial (Below.refl _ _) (Nat.le_refl _) (by simp) ?_; (case hd => rfl); (case hg => rfl); (case hr => first | (go_simp; done) | (go_simp; rfl)); (case hp => exact (Reps.one (show Kd.M (Kd.int .u64) _ _ _ (IntKind.u64.wrap ((l1_8.length : Int))) [.int .u64 (IntKind.u64.wrap ((l1_8.length : Int)))] from rfl) (Reps.none _ _)))
    intro v353 w19 ho20 hb hg_ hnew_; clear hg_ hnew_
    (first | rw [← Ny352.out] at ho20 | (simp only [Int.reduceToNat] at ho20; rw [← Ny352.out] at ho20))
    have n0_ := am (Kd.R_elder' (ru HO342.out) (Kd.R_base ho20) hb); have n1_ := am (Kd.R_below (ru HO345.out) hb); have n2_ := am (Kd.R_below (ru HO348.out) hb); have n3_ := am (Kd.R_below (ru HO351.out) hb); have n4_ := am (Kd.R_lower (Kd.R_new' ho20 (Kd.R_lt (ru HO342.out))) (below_size (beu HB.out))); have n5_ := am (blk_below (bu BK339.out) hb); have n6_ := am (below_step (beu HB.out) hb); clear HO342 HO345 HO348 HO351 BK339 HB; have HO342 := n0_; have HO345 := n1_; have HO348 := n2_; have HO351 := n3_; have HO354 := n4_; have BK339 := n5_; have HB := n6_; clear n0_ n1_ n2_ n3_ n4_ n5_ n6_ hb ho20; refine hK.out _ _ ⟨(blk_cell BK339.out 0).trans rfl, (blk_cell BK339.out 1).trans rfl, (blk_cell BK339.out 2).trans rfl, (blk_cell BK339.out 3).trans rfl, (blk_cell BK339.out 4).trans rfl, (blk_cell BK339.out 5).trans rfl, (blk_cell BK339.out 6).trans rfl, (blk_cell BK339.out 7).trans rfl, (blk_cell BK339.out 8).trans rfl⟩ (fun hHeld => ?_); clear hK K; refine norm_ (a' := ?_) ?_ ?_; rotate_left
    ·show Act.put _ (some 39) _ = _
     simp only [Act.put, sA, sB, sC, i64_w, i32_w]
     rfl
    exact norm_ (by simp only [putAll, Act.put, sA, sB, sC]) (hCont (.slice Ao17 y346.length co17, v350, v353) _ ⟨hHeld, (ru (Kd.R_mono HO342.out (fun _ hk => by first | exact hk.2 | exact trivial))), (ru (Kd.R_mono HO345.out (fun _ hk => by first | exact hk.2 | exact trivial))), (ru HO348.out), (ru (Kd.R_mono HO351.out (fun _ hk => by first | exact hk.2 | exact trivial))), (ru (Kd.R_mono HO354.out (fun _ hk => by first | exact hk.2 | exact trivial))), (bu BK339.out), (beu HB.out)⟩)
   ·skip
    refine Kd.R_lit_step (Kd.int .u64) _ 75 ?hg (N := 39) ?hd (xs := ([IntKind.u64.wrap ((l1_8.length : Int))] : List Int)) (inner := [.int .u64 (IntKind.u64.wrap ((l1_8.length : Int)))]) (ok := fun _ => True) (okp := fun _ => True) ?hr ?hp (fun _ hk => hk) trivial (Below.refl _ _) (Nat.le_refl _) (by simp) ?_; (case hd => rfl); (case hg => rfl); (case hr => first | (go_simp; done) | (go_simp; rfl)); (case hp => exact (Reps.one (show Kd.M (Kd.int .u64) _ _ _ (IntKind.u64.wrap ((l1_8.length : Int))) [.int .u64 (IntKind.u64.wrap ((l1_8.length : Int)))] from rfl) (Reps.none _ _)))
    intro v353 w17 ho18 hb hg_ hnew_; clear hg_ hnew_
    (first | rw [← Ny352.out] at ho18 | (simp only [Int.reduceToNat] at ho18; rw [← Ny352.out] at ho18))
    have n0_ := am (Kd.R_elder' (ru HO342.out) (Kd.R_base ho18) hb); have n1_ := am (Kd.R_below (ru HO345.out) hb); have n2_ := am (Kd.R_below (ru HO348.out) hb); have n3_ := am (Kd.R_lower (Kd.R_new' ho18 (Kd.R_lt (ru HO342.out))) (below_size (beu HB.out))); have n4_ := am (blk_below (bu BK339.out) hb); have n5_ := am (below_step (beu HB.out) hb); clear HO342 HO345 HO348 BK339 HB; have HO342 := n0_; have HO345 := n1_; have HO348 := n2_; have HO354 := n3_; have BK339 := n4_; have HB := n5_; clear n0_ n1_ n2_ n3_ n4_ n5_ hb ho18; obtain ⟨Ao19, co19, eo19⟩ := Kd.R_slice HO348.out
    (first | subst eo19 | (injection eo19 with f1_ f2_ f3_; have f4_ := f1_.symm; have f5_ := f3_.symm; clear f1_ f2_ f3_; subst f4_; subst f5_))
    refine hK.out _ _ ⟨(blk_cell BK339.out 0).trans rfl, (blk_cell BK339.out 1).trans rfl, (blk_cell BK339.out 2).trans rfl, (blk_cell BK339.out 3).trans rfl, (blk_cell BK339.out 4).trans rfl, (blk_cell BK339.out 5).trans rfl, (blk_cell BK339.out 6).trans rfl, (blk_cell BK339.out 7).trans rfl, (blk_cell BK339.out 8).trans rfl⟩ (fun hHeld => ?_); clear hK K; refine norm_ (a' := ?_) ?_ ?_; rotate_left
    ·show Act.put _ (some 39) _ = _
     simp only [Act.put, sA, sB, sC, i64_w, i32_w]
     rfl
    refine one_ (i := 11) (N := some 34) (bs 19 131071) rfl rfl (one_of HT_.out (by kernel_rfl)) (by decide) (fun K hK => ?_); refine goes_ Tryd.func53 (by kernel_rfl) rfl #[.slice Ao13 t343.length co13, .slice Ao19 y346.length co19] (by rfl) rfl rfl ap1 ?_; with_reducible refine (packet_Text.calls k _ _ t343 _ _ y346 t349 _ ?side1 ?side2 ?side3 ?side4 A4.out).mono ?_
    (case side1 => exact cu (Kd.R_reads' HO345.out).2.2)
    (case side2 => exact (Kd.R_reads' HO345.out).2.1)
    (case side3 => exact cu (Kd.R_reads' HO348.out).2.2)
    (case side4 => exact (Kd.R_reads' HO348.out).2.1)
    rintro e w20 ⟨v350, rfl, ho0, hb⟩; refine ⟨_, rfl, ?_⟩; have n0_ := am (Kd.R_below (ru HO342.out) hb); have n1_ := am (Kd.R_elder' (ru HO345.out) (Kd.R_base ho0) hb); have n2_ := am (Kd.R_below (ru HO348.out) hb); have n3_ := am (Kd.R_below (ru HO354.out) hb); have n4_ := am (Kd.R_lower (Kd.R_new' ho0 (Kd.R_lt (ru HO345.out))) (below_size (beu HB.out))); have n5_ := am (blk_below (bu BK339.out) hb); have n6_ := am (below_step (beu HB.out) hb); clear HO342 HO345 HO348 HO354 BK339 HB; have HO342 := n0_; have HO345 := n1_; have HO348 := n2_; have HO354 := n3_; have HO351 := n4_; have BK339 := n5_; have HB := n6_; clear n0_ n1_ n2_ n3_ n4_ n5_ n6_
    (try clear hb)
    (try clear hb2)
    (try clear hk)
    (try clear hi)
    (try clear ho0)
    refine hK.out _ _ ⟨(blk_cell BK339.out 0).trans rfl, (blk_cell BK339.out 1).trans rfl, (blk_cell BK339.out 2).trans rfl, (blk_cell BK339.out 3).trans rfl, (blk_cell BK339.out 4).trans rfl, (blk_cell BK339.out 5).trans rfl, (blk_cell BK339.out 6).trans rfl, (blk_cell BK339.out 7).trans rfl, (blk_cell BK339.out 8).trans rfl⟩ (fun hHeld => ?_); clear hK K; refine norm_ (a' := ?_) ?_ ?_; rotate_left
    ·show Act.put _ (some 34) _ = _
     simp only [Act.put, sA, sB, sC, i64_w, i32_w]
     rfl
    exact norm_ (by simp only [putAll, Act.put, sA, sB, sC]) (hCont (.slice Ao19 y346.length co19, v350, v353) _ ⟨hHeld, (ru (Kd.R_mono HO342.out (fun _ hk => by first | exact hk.2 | exact trivial))), (ru (Kd.R_mono HO345.out (fun _ hk => by first | exact hk.2 | exact trivial))), (ru HO348.out), (ru (Kd.R_mono HO351.out (fun _ hk => by first | exact hk.2 | exact trivial))), (ru (Kd.R_mono HO354.out (fun _ hk => by first | exact hk.2 | exact trivial))), (bu BK339.out), (beu HB.out)⟩)
  ·skip
   refine Kd.R_lit_step (Kd.int .u64) _ 75 ?hg (N := 39) ?hd (xs := ([IntKind.u64.wrap ((l1_8.length : Int))] : List Int)) (inner := [.int .u64 (IntKind.u64.wrap ((l1_8.length : Int)))]) (ok := fun _ => True) (okp := fun _ => True) ?hr ?hp (fun _ hk => hk) trivial (Below.refl _ _) (Nat.le_refl _) (by simp) ?_; (case hd => rfl); (case hg => rfl); (case hr => first | (go_simp; done) | (go_simp; rfl)); (case hp => exact (Reps.one (show Kd.M (Kd.int .u64) _ _ _ (IntKind.u64.wrap ((l1_8.length : Int))) [.int .u64 (IntKind.u64.wrap ((l1_8.length : Int)))] from rfl) (Reps.none _ _)))
   intro v353 w15 ho16 hb hg_ hnew_; clear hg_ hnew_
   (first | rw [← Ny352.out] at ho16 | (simp only [Int.reduceToNat] at ho16; rw [← Ny352.out] at ho16))
   have n0_ := am (Kd.R_elder' (ru HO342.out) (Kd.R_base ho16) hb); have n1_ := am (Kd.R_below (ru HO345.out) hb); have n2_ := am (Kd.R_lower (Kd.R_new' ho16 (Kd.R_lt (ru HO342.out))) (below_size (beu HB.out))); have n3_ := am (blk_below (bu BK339.out) hb); have n4_ := am (below_step (beu HB.out) hb); clear HO342 HO345 BK339 HB; have HO342 := n0_; have HO345 := n1_; have HO354 := n2_; have BK339 := n3_; have HB := n4_; clear n0_ n1_ n2_ n3_ n4_ hb ho16; refine hK.out _ _ ⟨(blk_cell BK339.out 0).trans rfl, (blk_cell BK339.out 1).trans rfl, (blk_cell BK339.out 2).trans rfl, (blk_cell BK339.out 3).trans rfl, (blk_cell BK339.out 4).trans rfl, (blk_cell BK339.out 5).trans rfl, (blk_cell BK339.out 6).trans rfl, (blk_cell BK339.out 7).trans rfl, (blk_cell BK339.out 8).trans rfl⟩ (fun hHeld => ?_); clear hK K; refine norm_ (a' := ?_) ?_ ?_; rotate_left
   ·show Act.put _ (some 39) _ = _
    simp only [Act.put, sA, sB, sC, i64_w, i32_w]
    rfl
   refine one_ (i := 10) (N := some 33) (bs 19 129023) rfl rfl (one_of HT_.out (by kernel_rfl)) (by decide) (fun K hK => ?_)
   refine Kd.R_lit_step Kd.string _ 9 ?hg (N := 33) ?hd (xs := ([a1_5, a1_6, a1_7] : List ByteArray)) (inner := [.string a1_5, .string a1_6, .string a1_7]) (ok := fun _ => True) (okp := fun _ => True) ?hr ?hp (fun _ hk => hk) trivial (Below.refl _ _) (Nat.le_refl _) (by simp) ?_; (case hd => rfl); (case hg => rfl); (case hr => first | (go_simp; done) | (go_simp; rfl)); (case hp => exact (Reps.one (show Kd.M Kd.string _ _ _ a1_5 [.string a1_5] from rfl) (Reps.one (show Kd.M Kd.string _ _ _ a1_6 [.string a1_6] from rfl) (Reps.one (show Kd.M Kd.string _ _ _ a1_7 [.string a1_7] from rfl) (Reps.none _ _)))))
   intro v347 w17 ho18 hb hg_ hnew_; clear hg_ hnew_
   (first | rw [← Ny346.out] at ho18 | (simp only [Int.reduceToNat] at ho18; rw [← Ny346.out] at ho18))
   have n0_ := am (Kd.R_below (ru HO342.out) hb); have n1_ := am (Kd.R_below (ru HO345.out) hb); have n2_ := am (Kd.R_below (ru HO354.out) hb); have n3_ := am (Kd.R_lower ho18 (below_size (beu HB.out))); have n4_ := am (blk_below (bu BK339.out) hb); have n5_ := am (below_step (beu HB.out) hb); clear HO342 HO345 HO354 BK339 HB; have HO342 := n0_; have HO345 := n1_; have HO354 := n2_; have HO348 := n3_; have BK339 := n4_; have HB := n5_; clear n0_ n1_ n2_ n3_ n4_ n5_ hb ho18; obtain ⟨Ao19, co19, eo19⟩ := Kd.R_slice HO348.out
   (first | subst eo19 | (injection eo19 with f1_ f2_ f3_; have f4_ := f1_.symm; have f5_ := f3_.symm; clear f1_ f2_ f3_; subst f4_; subst f5_))
   refine hK.out _ _ ⟨(blk_cell BK339.out 0).trans rfl, (blk_cell BK339.out 1).trans rfl, (blk_cell BK339.out 2).trans rfl, (blk_cell BK339.out 3).trans rfl, (blk_cell BK339.out 4).trans rfl, (blk_cell BK339.out 5).trans rfl, (blk_cell BK339.out 6).trans rfl, (blk_cell BK339.out 7).trans rfl, (blk_cell BK339.out 8).trans rfl⟩ (fun hHeld => ?_); clear hK K; refine norm_ (a' := ?_) ?_ ?_; rotate_left
   ·show Act.put _ (some 33) _ = _
    simp only [Act.put, sA, sB, sC, i64_w, i32_w]
    rfl
   refine one_ (i := 11) (N := some 34) (bs 19 131071) rfl rfl (one_of HT_.out (by kernel_rfl)) (by decide) (fun K hK => ?_); refine goes_ Tryd.func53 (by kernel_rfl) rfl #[.slice Ao13 t343.length co13, .slice Ao19 y346.length co19] (by rfl) rfl rfl ap1 ?_; with_reducible refine (packet_Text.calls k _ _ t343 _ _ y346 t349 _ ?side1 ?side2 ?side3 ?side4 A4.out).mono ?_
   (case side1 => exact cu (Kd.R_reads' HO345.out).2.2)
   (case side2 => exact (Kd.R_reads' HO345.out).2.1)
   (case side3 => exact cu (Kd.R_reads' HO348.out).2.2)
   (case side4 => exact (Kd.R_reads' HO348.out).2.1)
   rintro e w20 ⟨v350, rfl, ho0, hb⟩; refine ⟨_, rfl, ?_⟩; have n0_ := am (Kd.R_below (ru HO342.out) hb); have n1_ := am (Kd.R_elder' (ru HO345.out) (Kd.R_base ho0) hb); have n2_ := am (Kd.R_below (ru HO354.out) hb); have n3_ := am (Kd.R_below (ru HO348.out) hb); have n4_ := am (Kd.R_lower (Kd.R_new' ho0 (Kd.R_lt (ru HO345.out))) (below_size (beu HB.out))); have n5_ := am (blk_below (bu BK339.out) hb); have n6_ := am (below_step (beu HB.out) hb); clear HO342 HO345 HO354 HO348 BK339 HB; have HO342 := n0_; have HO345 := n1_; have HO354 := n2_; have HO348 := n3_; have HO351 := n4_; have BK339 := n5_; have HB := n6_; clear n0_ n1_ n2_ n3_ n4_ n5_ n6_
   (try clear hb)
   (try clear hb2)
   (try clear hk)
   (try clear hi)
   (try clear ho0)
   refine hK.out _ _ ⟨(blk_cell BK339.out 0).trans rfl, (blk_cell BK339.out 1).trans rfl, (blk_cell BK339.out 2).trans rfl, (blk_cell BK339.out 3).trans rfl, (blk_cell BK339.out 4).trans rfl, (blk_cell BK339.out 5).trans rfl, (blk_cell BK339.out 6).trans rfl, (blk_cell BK339.out 7).trans rfl, (blk_cell BK339.out 8).trans rfl⟩ (fun hHeld => ?_); clear hK K; refine norm_ (a' := ?_) ?_ ?_; rotate_left
   ·show Act.put _ (some 34) _ = _
    simp only [Act.put, sA, sB, sC, i64_w, i32_w]
    rfl
   exact norm_ (by simp only [putAll, Act.put, sA, sB, sC]) (hCont (.slice Ao19 y346.length co19, v350, v353) _ ⟨hHeld, (ru (Kd.R_mono HO342.out (fun _ hk => by first | exact hk.2 | exact trivial))), (ru (Kd.R_mono HO345.out (fun _ hk => by first | exact hk.2 | exact trivial))), (ru HO348.out), (ru (Kd.R_mono HO351.out (fun _ hk => by first | exact hk.2 | exact trivial))), (ru (Kd.R_mono HO354.out (fun _ hk => by first | exact hk.2 | exact trivial))), (bu BK339.out), (beu HB.out)⟩)
 rintro ⟨v347, v350, v353⟩ w21 ⟨hS_, h0_, h1_, h2_, h3_, h4_, h5_, h6_⟩; have n0_ : Aside0 (Kd.R (Kd.int .u64) 75 w21 w.heap.size (fun k_ => some k_ ≠ (v353 : Value).ownBlock) (.slice Ao11 y340.length co11) y340) := ⟨h0_⟩; have n1_ : Aside0 (Kd.R (Kd.int .u8) 5 w21 w.heap.size (fun k_ => some k_ ≠ (v350 : Value).ownBlock) (.slice Ao13 t343.length co13) t343) := ⟨h1_⟩; have n2_ : Aside0 (Kd.R Kd.string 9 w21 w.heap.size (fun _ => True) v347 y346) := ⟨h2_⟩; have n3_ : Aside0 (Kd.R (Kd.int .u8) 5 w21 w.heap.size (fun k_ => some k_ ≠ (.slice Ao13 t343.length co13 : Value).ownBlock) v350 t349) := ⟨h3_⟩; have n4_ : Aside0 (Kd.R (Kd.int .u64) 75 w21 w.heap.size (fun k_ => some k_ ≠ (.slice Ao11 y340.length co11 : Value).ownBlock) v353 y352) := ⟨h4_⟩; have n5_ : Aside0 (w21.heap[gb339]? = some (.cells #[.int .i64 a1_0, .int .i64 a1_1, .int .i64 a1_2, .int .i64 a1_3, .int .i64 a1_4, .string a1_5, .string a1_6, .string a1_7, .slice A1_8 l1_8.length c1_8] 31 (0, 0))) := ⟨h5_⟩; have n6_ : Aside0 (Below w.heap.size w w21) := ⟨h6_⟩; clear HO342 HO345 BK339 HB h0_ h1_ h2_ h3_ h4_ h5_ h6_; have HO342 := n0_; have HO345 := n1_; have HO348 := n2_; have HO351 := n3_; have HO354 := n4_; have BK339 := n5_; have HB := n6_; clear n0_ n1_ n2_ n3_ n4_ n5_ n6_; have hHeld : w21.cell? ⟨gb339, 0, none⟩ = some (.int .i64 a1_0) ∧ w21.cell? ⟨gb339, 1, none⟩ = some (.int .i64 a1_1) ∧ w21.cell? ⟨gb339, 2, none⟩ = some (.int .i64 a1_2) ∧ w21.cell? ⟨gb339, 3, none⟩ = some (.int .i64 a1_3) ∧ w21.cell? ⟨gb339, 4, none⟩ = some (.int .i64 a1_4) ∧ w21.cell? ⟨gb339, 5, none⟩ = some (.string a1_5) ∧ w21.cell? ⟨gb339, 6, none⟩ = some (.string a1_6) ∧ w21.cell? ⟨gb339, 7, none⟩ = some (.string a1_7) ∧ w21.cell? ⟨gb339, 8, none⟩ = some (.slice A1_8 l1_8.length c1_8) := hS_; obtain ⟨Ao22, co22, eo22⟩ := Kd.R_slice HO351.out
 (first | subst eo22 | (injection eo22 with f1_ f2_ f3_; have f4_ := f1_.symm; have f5_ := f3_.symm; clear f1_ f2_ f3_; subst f4_; subst f5_))
 obtain ⟨Ao23, co23, eo23⟩ := Kd.R_slice HO354.out
 (first | subst eo23 | (injection eo23 with f1_ f2_ f3_; have f4_ := f1_.symm; have f5_ := f3_.symm; clear f1_ f2_ f3_; subst f4_; subst f5_))
 refine norm_ (a' := ?_) ?_ ?_; rotate_left
 ·simp only [putAll, Act.put, sA, sB, sC]
  rfl
 refine one_ (i := 17) (N := some 40) (bs 19 262143) rfl rfl (one_of HT_.out (by kernel_rfl)) (by decide) (fun K hK => ?_); refine goes_ Tryd.func52 (by kernel_rfl) rfl #[.slice Ao22 t349.length co22, .slice Ao23 y352.length co23] (by rfl) rfl rfl ap1 ?_; with_reducible refine (packet_Number.calls k _ _ t349 _ _ y352 t355 _ ?side1 ?side2 ?side3 ?side4 A5.out).mono ?_
 (case side1 => exact cu (Kd.R_reads' HO351.out).2.2)
 (case side2 => exact (Kd.R_reads' HO351.out).2.1)
 (case side3 => exact cu (Kd.R_reads' HO354.out).2.2)
 (case side4 => exact (Kd.R_reads' HO354.out).2.1)
 rintro e w24 ⟨v356, rfl, ho0, hb⟩; refine ⟨_, rfl, ?_⟩; have n0_ := am (Kd.R_below (ru HO342.out) hb); have n1_ := am (Kd.R_elder' (ru HO345.out) (Kd.R_base ho0) hb); have n2_ := am (Kd.R_below (ru HO348.out) hb); have n3_ := am (Kd.R_elder' (ru HO351.out) (Kd.R_base ho0) hb); have n4_ := am (Kd.R_below (ru HO354.out) hb); have n5_ := am (Kd.R_lower (Kd.R_new' (Kd.R_new' ho0 (Kd.R_lt (ru HO345.out))) (Kd.R_lt (ru HO351.out))) (below_size (beu HB.out))); have n6_ := am (blk_below (bu BK339.out) hb); have n7_ := am (below_step (beu HB.out) hb); clear HO342 HO345 HO348 HO351 HO354 BK339 HB; have HO342 := n0_; have HO345 := n1_; have HO348 := n2_; have HO351 := n3_; have HO354 := n4_; have HO357 := n5_; have BK339 := n6_; have HB := n7_; clear n0_ n1_ n2_ n3_ n4_ n5_ n6_ n7_
 (try clear hb)
 (try clear hb2)
 (try clear hk)
 (try clear hi)
 (try clear ho0)
 refine hK.out _ _ ⟨(blk_cell BK339.out 0).trans rfl, (blk_cell BK339.out 1).trans rfl, (blk_cell BK339.out 2).trans rfl, (blk_cell BK339.out 3).trans rfl, (blk_cell BK339.out 4).trans rfl, (blk_cell BK339.out 5).trans rfl, (blk_cell BK339.out 6).trans rfl, (blk_cell BK339.out 7).trans rfl, (blk_cell BK339.out 8).trans rfl⟩ (fun hHeld => ?_); clear hK K; refine norm_ (a' := ?_) ?_ ?_; rotate_left
 ·show Act.put _ (some 40) _ = _
  simp only [Act.put, sA, sB, sC, i64_w, i32_w]
  rfl
 refine pure_ (i := 18) (N := some 0) (v := ?_) (a' := ?_) (bs 19 524287) rfl rfl (ak HT_.out) (fun _ _ _ h => h) (Or.inl ⟨by rfl, ?_⟩) ?_ ?_; rotate_left
 ·intro w'
  go_simp
  with_reducible rfl
 rotate_left
 ·simp only [Act.put, sA, sB, sC, i64_w, i32_w]
  rfl
 refine done_ (done_of HT_.out (by kernel_rfl)) ?_; obtain ⟨hcz25_0, hcz25_1, hcz25_2, hcz25_3, hcz25_4, hcz25_5, hcz25_6, hcz25_7, hcz25_8⟩ := cells9 BK339.out; obtain ⟨hfz25_0, hfz25_1, hfz25_2, hfz25_3, hfz25_4, hfz25_5, hfz25_6, hfz25_7, hfz25_8⟩ := frozens9 BK339.out; obtain ⟨Ao26, co26, eo26⟩ := Kd.R_slice HO357.out; subst eo26
 try go_wp2_with (first | ((with_reducible refine gate_callee (f := 53) rfl ?_); refine goesL_ (some 44) rfl rfl Tryd.func53 (by kernel_rfl) rfl #[.slice Ao26 t355.length co26, .slice A1_8 l1_8.length c1_8] rfl ap1 ?_; (with_reducible refine (packet_Text.calls k _ _ t355 _ _ l1_8 t358 _ ?side1 ?side2 ?side3 ?side4 A6.out).mono ?_); (case side1 => exact cu (Kd.R_reads' HO357.out).2.2); (case side2 => exact (Kd.R_reads' HO357.out).2.1); (case side3 => exact cu (Kd.C_below HR1_8.out HB.out)); (case side4 => exact HC1_8.out); rintro e w27 ⟨v359, rfl, ho0, hb⟩; refine ⟨_, rfl, ?_⟩; have _ := am (Kd.R_below (ru HO342.out) hb); have _ := am (Kd.R_elder' (ru HO345.out) (Kd.R_base ho0) hb); have _ := am (Kd.R_below (ru HO348.out) hb); have _ := am (Kd.R_elder' (ru HO351.out) (Kd.R_base ho0) hb); have _ := am (Kd.R_below (ru HO354.out) hb); have _ := am (Kd.R_elder' (ru HO357.out) (Kd.R_base ho0) hb); have _ := am (Kd.R_lower (Kd.R_new' (Kd.R_new' (Kd.R_new' ho0 (Kd.R_lt (ru HO345.out))) (Kd.R_lt (ru HO351.out))) (Kd.R_lt (ru HO357.out))) (below_size (beu HB.out))); have _ := am (blk_below (bu BK339.out) hb); have _ := am (below_step (beu HB.out) hb); clear HO342 HO345 HO348 HO351 HO354 HO357 BK339 HB; rename_i HO342 HO345 HO348 HO351 HO354 HO357 HO360 BK339 HB; (try clear hb); (try clear ho0)))
 go_ret
 exact ⟨_, ap4, ru (Kd.R_mono HO360.out (fun _ hk => trivial)), beu HB.out⟩
def packhorseref06_Number.l0 : Nat → Int → List Int → Option (List Int)
 | 0, _, _ => none
 | k + 1, x0, x3 => if x0 ≥ 128 then (if x3.length < 140737488355328 then (packhorseref06_Number.l0 k (IntKind.u64.wrap (Int.tdiv x0 128)) (x3 ++ [(IntKind.u64.wrap (128 + (Int.tmod x0 128))) % 256])) else (none)) else (if x3.length < 140737488355328 then (some (x3 ++ [(x0) % 256])) else (none))
def packhorseref06_Number.f (k : Nat) (a0 : Int) : Option (List Int) := packhorseref06_Number.l0 k a0 (([] : List Int))
set_option maxHeartbeats 8000000 in
set_option maxRecDepth 100000 in
theorem packhorseref06_Number.calls (k : Nat) (a0 : Int) (r : List Int) (w : World) (h : packhorseref06_Number.f k a0 = some r) :
  Calls Tryd.prog 54 #[.int .u64 a0] w fun e w' => ∃ v0_ : Value, e = .returned (v0_) ∧ Kd.R (Kd.int .u8) 5 w' w.heap.size (fun _ => True) v0_ r ∧ Below w.heap.size w w' := by
 have HB := am (Below.refl w.heap.size w); have H : (packhorseref06_Number.l0 k a0 (([] : List Int))) = some r := h; clear h; obtain ⟨y361, hy361⟩ : ∃ y_ : List Int, y_ = (([] : List Int)) := ⟨_, rfl⟩
 replace H : (packhorseref06_Number.l0 k a0 y361) = some r := by first | (rw [hy361]; with_reducible exact H) | (have H2_ := (Option.bind_some _ _).symm.trans H; rw [hy361]; with_reducible exact H2_) | (have H2_ := (Option.bind_some _ _).symm.trans H; with_reducible exact H2_) | with_reducible exact H | (rw [hy361]; exact H) | exact H
 have Ny361 := am hy361; clear hy361; have H' := am H; clear H
 go_enter Tryd.func54, Tryd.ntmps54
 go_wp2_with (first | ((with_reducible refine gate_dst (N := 4) rfl ?_); refine Kd.R_lit (Kd.int .u8) _ 5 ?hg (N := 4) ?hd (xs := ([] : List Int)) (inner := []) (ok := fun _ => True) (okp := fun _ => True) ?hr ?hp (fun _ hk => hk) trivial (Below.refl _ _) (Nat.le_refl _) (by simp) ?_; (case hd => rfl); (case hg => rfl); (case hr => first | (go_simp; done) | (go_simp; rfl)); (case hp => exact (Reps.none _ _)); intro v362 w2 ho3 hb hg_ hnew_; clear hg_ hnew_; (first | rw [← Ny361.out] at ho3 | (simp only [Int.reduceToNat] at ho3; rw [← Ny361.out] at ho3)); have _ := am (Kd.R_lower ho3 (below_size (beu HB.out))); have _ := am (below_step (beu HB.out) hb); clear HB; rename_i HO363 HB; clear hb ho3))
 go_loopg [0, 3] k (fun kq v0 v3 w' => ∃ (x0_1 : Int) (x3_1 : List Int), v0 = .int .u64 x0_1 ∧ Aside0 (packhorseref06_Number.l0 kq x0_1 x3_1 = some r) ∧ Aside0 (kq ≤ k) ∧ Aside0 (Kd.R (Kd.int .u8) 5 w' w.heap.size (fun _ => True) v3 x3_1) ∧ Aside0 (Below w.heap.size w w'))
 case atStart => exact ⟨(a0), (y361), ap3, H', ⟨Nat.le_refl _⟩, ⟨ru HO363.out⟩, ⟨beu HB.out⟩⟩
 case round =>
  clear H'; (try clear p2); obtain ⟨x0_1, x3_1, rfl, HA, HK1, HO_3, HB⟩ := hrel
  cases gk with
  | zero => exact absurd HA.out (by simp [packhorseref06_Number.l0])
  | succ k1 =>
   have H := HA.out; clear HA; simp only [packhorseref06_Number.l0] at H
   by_cases c4 : x0_1 ≥ 128
   ·rw [if_pos c4] at H
    have c4b0 : decide (128 ≤ x0_1) = true := decide_eq_true c4; clear c4
    by_cases c5 : x3_1.length < 140737488355328
    ·rw [if_pos c5] at H
     have LMc5 := am c5; clear c5; obtain ⟨y364, hy364⟩ : ∃ y_ : List Int, y_ = (x3_1 ++ [(IntKind.u64.wrap (128 + (Int.tmod x0_1 128))) % 256]) := ⟨_, rfl⟩
     replace H : (packhorseref06_Number.l0 k1 (IntKind.u64.wrap (Int.tdiv x0_1 128)) y364) = some r := by first | (rw [hy364]; with_reducible exact H) | (have H2_ := (Option.bind_some _ _).symm.trans H; rw [hy364]; with_reducible exact H2_) | (have H2_ := (Option.bind_some _ _).symm.trans H; with_reducible exact H2_) | with_reducible exact H | (rw [hy364]; exact H) | exact H
     have Ny364 := am hy364; clear hy364; have H' := am H; clear H
     go_wp2_with (first | ((with_reducible refine gate_builtin (b := .append) (xs := #[.tmp 7, .tmp 12]) rfl ?_); at_builtin; refine Kd.R_append (Kd.int .u8) (w0 := w) w.heap.size rfl (.tmp 7) (.tmp 12) 52 5 (.int .u8 0) 1 rfl Tryd.underlying52 info5 rfl (by decide) (by omega) u3 x3_1 ((IntKind.u64.wrap (128 + (Int.tmod x0_1 128))) % 256) [.int .u8 ((IntKind.u64.wrap (128 + (Int.tmod x0_1 128))) % 256)] (fun _ => True) (fun _ => False) rfl rfl ?aP (fun _ hk => hk.elim) ?aF ?aO ?aB ?aS ?aL ?_; (case aP => exact rfl); (case aB => exact (beu HB.out)); (case aF => exact (fun _ _ => trivial)); (case aO => exact (ru HO_3.out)); (case aS => exact (below_size (beu HB.out))); (case aL => have := LMc5.out; omega); intro v365 w6 ho hb hg hat; rw [← Ny364.out] at ho; have _ := am (hb); have _ := am (ho); clear HB HO_3; rename_i HB HO366; clear ho hb hg hat))
     go_roundg k1
     case measure => have := HK1.out; omega
     case rel => exact ⟨(IntKind.u64.wrap (Int.tdiv x0_1 128)), (y364), ap3, H', ⟨by have := HK1.out; omega⟩, ⟨ru HO366.out⟩, ⟨beu HB.out⟩⟩
    ·rw [if_neg c5] at H
     exact absurd H (by simp)
   ·rw [if_neg c4] at H
    have c4b0 : decide (128 ≤ x0_1) = false := decide_eq_false c4; clear c4
    by_cases c7 : x3_1.length < 140737488355328
    ·rw [if_pos c7] at H
     have LMc7 := am c7; clear c7; obtain ⟨y367, hy367⟩ : ∃ y_ : List Int, y_ = (x3_1 ++ [(x0_1) % 256]) := ⟨_, rfl⟩
     replace H : (some y367) = some r := by first | (rw [hy367]; with_reducible exact H) | (have H2_ := (Option.bind_some _ _).symm.trans H; rw [hy367]; with_reducible exact H2_) | (have H2_ := (Option.bind_some _ _).symm.trans H; with_reducible exact H2_) | with_reducible exact H | (rw [hy367]; exact H) | exact H
     have Ny367 := am hy367; clear hy367; obtain rfl := Option.some.inj H; simp only [Option.some.injEq, Prod.mk.injEq] at H; obtain ⟨rfl⟩ := H
     go_wp2_with (first | ((with_reducible refine gate_builtin (b := .append) (xs := #[.tmp 16, .tmp 19]) rfl ?_); at_builtin; refine Kd.R_append (Kd.int .u8) (w0 := w) w.heap.size rfl (.tmp 16) (.tmp 19) 52 5 (.int .u8 0) 1 rfl Tryd.underlying52 info5 rfl (by decide) (by omega) u3 x3_1 ((x0_1) % 256) [.int .u8 ((x0_1) % 256)] (fun _ => True) (fun _ => False) rfl rfl ?aP (fun _ hk => hk.elim) ?aF ?aO ?aB ?aS ?aL ?_; (case aP => exact rfl); (case aB => exact (beu HB.out)); (case aF => exact (fun _ _ => trivial)); (case aO => exact (ru HO_3.out)); (case aS => exact (below_size (beu HB.out))); (case aL => have := LMc7.out; omega); intro v368 w8 ho hb hg hat; rw [← Ny367.out] at ho; have _ := am (hb); have _ := am (ho); clear HB HO_3; rename_i HB HO369; clear ho hb hg hat))
     go_ret
     exact ⟨_, ap4, ru HO369.out, beu HB.out⟩
    ·rw [if_neg c7] at H
     exact absurd H (by simp)
def packhorseref06_Text.f (k : Nat) (a0 : ByteArray) : Option (List Int) := (packhorseref06_Number.f k (IntKind.u64.wrap ((a0.size : Int)))).bind fun t370 => (if t370.length + a0.size < 140737488355328 then (some (t370 ++ bytesOf a0)) else (none))
set_option maxHeartbeats 8000000 in
set_option maxRecDepth 100000 in
theorem packhorseref06_Text.calls (k : Nat) (a0 : ByteArray) (r : List Int) (w : World) (h : packhorseref06_Text.f k a0 = some r) :
  Calls Tryd.prog 55 #[.string a0] w fun e w' => ∃ v0_ : Value, e = .returned (v0_) ∧ Kd.R (Kd.int .u8) 5 w' w.heap.size (fun _ => True) v0_ r ∧ Below w.heap.size w w' := by
 have HB := am (Below.refl w.heap.size w); have H : ((packhorseref06_Number.f k (IntKind.u64.wrap ((a0.size : Int)))).bind fun t370 => (if t370.length + a0.size < 140737488355328 then (some (t370 ++ bytesOf a0)) else (none))) = some r := h; clear h; replace H := obm H; obtain ⟨t370, A20, H⟩ := H; replace H : (if t370.length + a0.size < 140737488355328 then (some (t370 ++ bytesOf a0)) else (none)) = some r := H; have A2 := am A20; clear A20
 by_cases c3 : t370.length + a0.size < 140737488355328
 ·rw [if_pos c3] at H
  have LMc3 := am c3; clear c3; obtain ⟨y373, hy373⟩ : ∃ y_ : List Int, y_ = (t370 ++ bytesOf a0) := ⟨_, rfl⟩
  replace H : (some y373) = some r := by first | (rw [hy373]; with_reducible exact H) | (have H2_ := (Option.bind_some _ _).symm.trans H; rw [hy373]; with_reducible exact H2_) | (have H2_ := (Option.bind_some _ _).symm.trans H; with_reducible exact H2_) | with_reducible exact H | (rw [hy373]; exact H) | exact H
  have Ny373 := am hy373; clear hy373; obtain rfl := Option.some.inj H; simp only [Option.some.injEq, Prod.mk.injEq] at H; obtain ⟨rfl⟩ := H
  go_enter Tryd.func55, Tryd.ntmps55
  go_wp2_with (first | ((with_reducible refine gate_callee (f := 54) rfl ?_); refine goesL_ (some 6) rfl rfl Tryd.func54 (by kernel_rfl) rfl #[.int .u64 (IntKind.u64.wrap ((a0.size : Int)))] rfl ap1 ?_; (with_reducible refine (packhorseref06_Number.calls k (IntKind.u64.wrap ((a0.size : Int))) t370 _ A2.out).mono ?_); rintro e w4 ⟨v371, rfl, ho0, hb⟩; refine ⟨_, rfl, ?_⟩; have _ := am (Kd.R_lower ho0 (below_size (beu HB.out))); have _ := am (below_step (beu HB.out) hb); clear HB; rename_i HO372 HB; (try clear hb); (try clear ho0)) | (at_builtin; refine print_append_str (w0 := w) w.heap.size rfl (.tmp 6) _ 52 9 5 rfl Tryd.underlying52 Tryd.underlying9 info5 v371 t370 a0 rfl rfl ?aO ?aB ?aS ?aL ?_; (case aB => exact (beu HB.out)); (case aO => exact (Kd.own_of_R (ru HO372.out))); (case aS => exact (below_size (beu HB.out))); (case aL => have := LMc3.out; omega); intro v374 w5 ho0 hb hg; have ho := Kd.R_of_own (h1 := fun _ => rfl) (ok := fun _ => True) ho0 (fun _ _ => trivial); clear ho0; have hat := True.intro; rw [← Ny373.out] at ho; change Kd.R (Kd.int .u8) 5 w5 w.heap.size (fun _ => True) v374 y373 at ho; have _ := am (hb); have _ := am (ho); clear HB HO372; rename_i HB HO375; clear ho hb hg hat))
  go_ret
  exact ⟨_, ap4, ru HO375.out, beu HB.out⟩
 ·rw [if_neg c3] at H
  exact absurd H (by simp)
end Go.Proofs.YtapfpdjcbeiibaaDoor.PByt
