
import Derived.Test.YtmcdbjcbfjnfoaaDoorQOrderNamesPNamx0
import Derived.Test.YtmcdbjcbfjnfoaaDoorQOrderNamesPNamx6
namespace Go.Proofs.YtmcdbjcbfjnfoaaDoor.PNam
open Go.RowKit Go.Proofs.YtmcdbjcbfjnfoaaDoorW.PrintWords Go.Proofs.YtmcdbjcbfjnfoaaDoorW.PrintLast Go.Proofs.YtmcdbjcbfjnfoaaDoorW.PrintMore
attribute [local go_sem] max2_int max_two
set_option linter.unusedVariables false
set_option linter.unusedSimpArgs false
def order_Undoing.f (a0 : Int) : Option (Bool) := if a0 = 9 then (some true) else (some (a0 == 10))
set_option maxHeartbeats 8000000 in
set_option maxRecDepth 100000 in
theorem order_Undoing.calls (a0 : Int) (r : Bool) (w : World) (h : order_Undoing.f a0 = some r) :
  Calls Tryd.prog 25 #[.int .i64 a0] w fun e w' => e = .returned (.bool r) ∧ Drawn0 w w' := by
 have H : (if a0 = 9 then (some true) else (some (a0 == 10))) = some r := h; clear h
 by_cases c2 : a0 = 9
 ·rw [if_pos c2] at H
  have c2b0 : (a0 == 9) = true := beq_iff_eq.mpr c2; have c2b1 : (a0 != 9) = false := bne_eq_false_iff_eq.mpr c2; clear c2; obtain rfl := Option.some.inj H; simp only [Option.some.injEq, Prod.mk.injEq] at H; obtain ⟨rfl⟩ := H
  go_enter Tryd.func25, Tryd.ntmps25
  go_wp2
  go_ret
  exact ⟨ap3, ap5⟩
 ·rw [if_neg c2] at H
  have c2b0 : (a0 == 9) = false := beq_eq_false_iff_ne.mpr c2; have c2b1 : (a0 != 9) = true := bne_iff_ne.mpr c2; obtain rfl := Option.some.inj H; simp only [Option.some.injEq, Prod.mk.injEq] at H; obtain ⟨rfl⟩ := H
  go_enter Tryd.func25, Tryd.ntmps25
  go_wp2
  go_ret
  exact ⟨ap3, ap5⟩
mutual
def packhorselaw10_OrderNames.l0 : Nat → List ByteArray → Int → Option (Bool)
 | 0, _, _ => none
 | k + 1, x1, x2 => if x2 < 15 then (if x2 ≥ 0 then (packhorselaw10_OrderNames.j1 k x1 x2 ⟨#[]⟩ (decide (x2 < (x1.length : Int)))) else (packhorselaw10_OrderNames.j1 k x1 x2 ⟨#[]⟩ false)) else ((packhorselaw10_orderAlive.f k).bind fun t259 => (if t259 = true then (some true) else (some false)))
def packhorselaw10_OrderNames.j1 : Nat → List ByteArray → Int → ByteArray → Bool → Option (Bool)
 | 0, _, _, _, _ => none
 | k + 1, x1, x2, x3, x16 => if x16 = true then (if 0 ≤ x2 then (if x2 < (x1.length : Int) then (packhorselaw10_OrderNames.j2 k x1 x2 (rdOf ByteArray.empty x1 x2)) else (none)) else (none)) else (packhorselaw10_OrderNames.j2 k x1 x2 x3)
def packhorselaw10_OrderNames.j2 : Nat → List ByteArray → Int → ByteArray → Option (Bool)
 | 0, _, _, _ => none
 | k + 1, x1, x2, x3 => (order_Phase.f x2).bind fun t261 => (if t261.toList = x3.toList then ((order_Over.f x2).bind fun t262 => (if x2 = 8 then (if (t262 != true) = true then (some false) else ((order_Undoing.f x2).bind fun t263 => (if x2 = 9 then (if (t263 != true) = true then (some false) else (packhorselaw10_OrderNames.l0 k x1 (wrap64 (x2 + 1)))) else (if (t263 != (x2 == 10)) = true then (some false) else (packhorselaw10_OrderNames.l0 k x1 (wrap64 (x2 + 1))))))) else (if x2 = 11 then (if (t262 != true) = true then (some false) else ((order_Undoing.f x2).bind fun t264 => (if x2 = 9 then (if (t264 != true) = true then (some false) else (packhorselaw10_OrderNames.l0 k x1 (wrap64 (x2 + 1)))) else (if (t264 != (x2 == 10)) = true then (some false) else (packhorselaw10_OrderNames.l0 k x1 (wrap64 (x2 + 1))))))) else (if (t262 != (x2 == 12)) = true then (some false) else ((order_Undoing.f x2).bind fun t265 => (if x2 = 9 then (if (t265 != true) = true then (some false) else (packhorselaw10_OrderNames.l0 k x1 (wrap64 (x2 + 1)))) else (if (t265 != (x2 == 10)) = true then (some false) else (packhorselaw10_OrderNames.l0 k x1 (wrap64 (x2 + 1)))))))))) else (some false))
end
def packhorselaw10_OrderNames.f (k : Nat)  : Option (Bool) := (packhorseref10_Names.f).bind fun t256 => (packhorselaw10_OrderNames.l0 k t256 (-1))
set_option maxHeartbeats 8000000 in
set_option maxRecDepth 100000 in
theorem packhorselaw10_OrderNames.calls (k : Nat)  (r : Bool) (w : World) (hT : Tabs w) (h : packhorselaw10_OrderNames.f k  = some r) (hr_ : r = true) :
  Calls Tryd.prog 8 #[] w fun e w' => e = .returned (.bool r) ∧ Below w.heap.size w w' := by
 have HRT := Aside0.mk hr_; clear hr_; have HT := Aside0.mk hT; clear hT; have HB := Aside0.mk (Below.refl w.heap.size w); have H : ((packhorseref10_Names.f).bind fun t256 => (packhorselaw10_OrderNames.l0 k t256 (-1))) = some r := h; clear h; replace H := obm H; obtain ⟨t256, A10, H⟩ := H; replace H : (packhorselaw10_OrderNames.l0 k t256 (-1)) = some r := H; have A1 := Aside0.mk A10; clear A10; have H' := Aside0.mk H; clear H
 go_enter Tryd.func8, Tryd.ntmps8
 go_wp2_with (first | ((with_reducible refine gate_callee (f := 22) rfl ?_); refine goesL_ (some 4) rfl rfl Tryd.func22 (by kernel_rfl) rfl #[] rfl ap1 ?_; (with_reducible refine (packhorseref10_Names.calls  t256 _ A1.out).mono ?_); rintro e w2 ⟨v257, rfl, ho0, hb⟩; refine ⟨_, rfl, ?_⟩; have _ := Aside0.mk (Kd.R_lower ho0 (below_size (beu HB.out))); have _ := Aside0.mk (below_step (beu HB.out) hb); clear HB; rename_i HO258 HB; (try clear hb); (try clear hb2); (try clear hk); (try clear hi); (try clear ho0)))
 go_loopg [2] k (fun kq v2 w' => ∃ (x2_1 : Int), v2 = .int .i64 x2_1 ∧ Aside0 (packhorselaw10_OrderNames.l0 kq t256 x2_1 = some r) ∧ Aside0 (kq ≤ k) ∧ Aside0 (Kd.R Kd.string 9 w' w.heap.size (fun _ => True) v257 t256) ∧ Aside0 (Below w.heap.size w w'))
 case atStart => exact ⟨((-1)), ap3, H', ⟨Nat.le_refl _⟩, ⟨ru HO258.out⟩, ⟨beu HB.out⟩⟩
 case round =>
  clear H'; (try clear c2); (try clear p2); obtain ⟨x2_1, rfl, HA, HK1, HO_1, HB⟩ := hrel
  cases gk with
  | zero => exact absurd HA.out (by simp [packhorselaw10_OrderNames.l0])
  | succ k1 =>
   have H := HA.out; clear HA; simp only [packhorselaw10_OrderNames.l0] at H
   by_cases c3 : x2_1 < 15
   ·rw [if_pos c3] at H
    have c3b0 : decide (x2_1 < 15) = true := decide_eq_true c3; clear c3; have HC4 := Aside0.mk H; clear H
    go_upto_region 6 with (fail)
    go_cut [16] (fun v16 wc => ∃ (kq : Nat) (x16_3 : Bool), v16 = .bool x16_3 ∧ Aside0 (packhorselaw10_OrderNames.j1 kq t256 x2_1 ⟨#[]⟩ x16_3 = some r) ∧ Aside0 (kq ≤ k1) ∧ Aside0 (Kd.R Kd.string 9 wc w.heap.size (fun _ => True) v257 t256) ∧ Aside0 (Below w.heap.size w wc))
    case first =>
     have H := HC4.out; clear HC4
     by_cases c5 : x2_1 ≥ 0
     ·rw [if_pos c5] at H
      have c5b0 : decide (0 ≤ x2_1) = true := decide_eq_true c5; clear c5
      (first | rw [c5b0] | (simp only [i64_w, i32_w]; rw [c5b0]) | skip)
      have H' := Aside0.mk H; clear H; obtain ⟨Ao6, co6, eo6⟩ := Kd.R_slice HO_1.out; subst eo6
      go_wp2
      go_meet
      case rel => exact ⟨_, (decide (x2_1 < (t256.length : Int))), ap3, H', ⟨by have := HK1.out; first | omega | exact Nat.le_refl _⟩, ⟨ru HO_1.out⟩, ⟨beu HB.out⟩⟩
     ·rw [if_neg c5] at H
      have c5b0 : decide (0 ≤ x2_1) = false := decide_eq_false c5; clear c5
      (first | rw [c5b0] | (simp only [i64_w, i32_w]; rw [c5b0]) | skip)
      have H' := Aside0.mk H; clear H
      go_wp2
      go_meet
      case rel => exact ⟨_, (false), ap3, H', ⟨by have := HK1.out; first | omega | exact Nat.le_refl _⟩, ⟨ru HO_1.out⟩, ⟨beu HB.out⟩⟩
    case rest =>
     clear HC4; (try clear c2); (try clear p2); (try clear c3); (try clear c3b0); (try clear c5); (try clear c5b0); (try clear p2); obtain ⟨kq, x16_3, rfl, HA, HJ3, HO_1, HB⟩ := hcut
     cases kq with
     | zero => exact absurd HA.out (by simp [packhorselaw10_OrderNames.j1])
     | succ kj3 =>
      have H := HA.out; clear HA; simp only [packhorselaw10_OrderNames.j1] at H; have HC7 := Aside0.mk H; clear H
      go_upto_if 16 with (fail)
      go_cut [3] (fun v3 wc => ∃ (kq : Nat) (x3_6 : ByteArray), v3 = .string x3_6 ∧ Aside0 (packhorselaw10_OrderNames.j2 kq t256 x2_1 x3_6 = some r) ∧ Aside0 (kq ≤ kj3) ∧ Aside0 (Kd.R Kd.string 9 wc w.heap.size (fun _ => True) v257 t256) ∧ Aside0 (Below w.heap.size w wc))
      case first =>
       have H := HC7.out; clear HC7
       by_cases c8 : x16_3 = true
       ·subst c8
        have H1 : (if 0 ≤ x2_1 then (if x2_1 < (t256.length : Int) then (packhorselaw10_OrderNames.j2 kj3 t256 x2_1 (rdOf ByteArray.empty t256 x2_1)) else (none)) else (none)) = some r := by rw [if_pos rfl] at H; exact H
        clear H; have H := H1; clear H1
        by_cases c9 : 0 ≤ x2_1
        ·rw [if_pos c9] at H
         have c9b0 : decide (0 ≤ x2_1) = true := decide_eq_true c9; clear c9
         (first | rw [c9b0] | (simp only [i64_w, i32_w]; rw [c9b0]) | skip)
         by_cases c10 : x2_1 < (t256.length : Int)
         ·rw [if_pos c10] at H
          have c10b0 : decide (x2_1 < (t256.length : Int)) = true := decide_eq_true c10; clear c10; have H' := Aside0.mk H; clear H; obtain ⟨Ao11, co11, eo11⟩ := Kd.R_slice HO_1.out; subst eo11; have p260 : 0 ≤ (x2_1 : Int) := of_decide_eq_true ap2; have q260 : x2_1 < (t256.length : Int) := of_decide_eq_true ap2; obtain ⟨ad260, e260, hx260_0⟩ := Kd.at_string (Kd.R_reads' HO_1.out).2.2 x2_1 p260 q260
          cases e260
          replace p260 := eq_true p260; replace q260 := eq_true q260
          go_wp2
          go_meet
          case rel => exact ⟨_, (rdOf ByteArray.empty t256 x2_1), ap3, H', ⟨by have := HK1.out; have := HJ3.out; first | omega | exact Nat.le_refl _⟩, ⟨ru HO_1.out⟩, ⟨beu HB.out⟩⟩
         ·rw [if_neg c10] at H
          exact absurd H (by simp)
        ·rw [if_neg c9] at H
         exact absurd H (by simp)
       ·replace c8 := Bool.eq_false_iff.mpr c8
        subst c8
        have H1 : (packhorselaw10_OrderNames.j2 kj3 t256 x2_1 ⟨#[]⟩) = some r := by rw [if_neg (show ¬ (false = true) by decide)] at H; exact H
        clear H; have H := H1; clear H1; have H' := Aside0.mk H; clear H
        go_wp2
        go_meet
        case rel => exact ⟨_, (⟨#[]⟩), ap3, H', ⟨by have := HK1.out; have := HJ3.out; first | omega | exact Nat.le_refl _⟩, ⟨ru HO_1.out⟩, ⟨beu HB.out⟩⟩
      case rest =>
       clear HC7; (try clear c1); (try clear c2); (try clear p2); (try clear q2); (try clear hx2); (try clear c3); (try clear c3b0); (try clear c5); (try clear c5b0); (try clear c8); (try clear c9); (try clear c9b0); (try clear c10); (try clear c10b0); (try clear hx260_0); (try clear p2); (try clear p260); (try clear q260); obtain ⟨kq, x3_6, rfl, HA, HJ6, HO_1, HB⟩ := hcut
       cases kq with
       | zero => exact absurd HA.out (by simp [packhorselaw10_OrderNames.j2])
       | succ kj6 =>
        have H := HA.out; clear HA; simp only [packhorselaw10_OrderNames.j2] at H; replace H := obm H; obtain ⟨t261, A120, H⟩ := H; replace H : (if t261.toList = x3_6.toList then ((order_Over.f x2_1).bind fun t262 => (if x2_1 = 8 then (if (t262 != true) = true then (some false) else ((order_Undoing.f x2_1).bind fun t263 => (if x2_1 = 9 then (if (t263 != true) = true then (some false) else (packhorselaw10_OrderNames.l0 kj6 t256 (wrap64 (x2_1 + 1)))) else (if (t263 != (x2_1 == 10)) = true then (some false) else (packhorselaw10_OrderNames.l0 kj6 t256 (wrap64 (x2_1 + 1))))))) else (if x2_1 = 11 then (if (t262 != true) = true then (some false) else ((order_Undoing.f x2_1).bind fun t264 => (if x2_1 = 9 then (if (t264 != true) = true then (some false) else (packhorselaw10_OrderNames.l0 kj6 t256 (wrap64 (x2_1 + 1)))) else (if (t264 != (x2_1 == 10)) = true then (some false) else (packhorselaw10_OrderNames.l0 kj6 t256 (wrap64 (x2_1 + 1))))))) else (if (t262 != (x2_1 == 12)) = true then (some false) else ((order_Undoing.f x2_1).bind fun t265 => (if x2_1 = 9 then (if (t265 != true) = true then (some false) else (packhorselaw10_OrderNames.l0 kj6 t256 (wrap64 (x2_1 + 1)))) else (if (t265 != (x2_1 == 10)) = true then (some false) else (packhorselaw10_OrderNames.l0 kj6 t256 (wrap64 (x2_1 + 1)))))))))) else (some false)) = some r := H; have A12 := Aside0.mk A120; clear A120
        by_cases c13 : t261.toList = x3_6.toList
        ·rw [if_pos c13] at H
         have c13b0 : (t261.toList == x3_6.toList) = true := beq_iff_eq.mpr c13; have c13b1 : (t261.toList != x3_6.toList) = false := bne_eq_false_iff_eq.mpr c13; clear c13; replace H := obm H; obtain ⟨t262, A140, H⟩ := H; replace H : (if x2_1 = 8 then (if (t262 != true) = true then (some false) else ((order_Undoing.f x2_1).bind fun t263 => (if x2_1 = 9 then (if (t263 != true) = true then (some false) else (packhorselaw10_OrderNames.l0 kj6 t256 (wrap64 (x2_1 + 1)))) else (if (t263 != (x2_1 == 10)) = true then (some false) else (packhorselaw10_OrderNames.l0 kj6 t256 (wrap64 (x2_1 + 1))))))) else (if x2_1 = 11 then (if (t262 != true) = true then (some false) else ((order_Undoing.f x2_1).bind fun t264 => (if x2_1 = 9 then (if (t264 != true) = true then (some false) else (packhorselaw10_OrderNames.l0 kj6 t256 (wrap64 (x2_1 + 1)))) else (if (t264 != (x2_1 == 10)) = true then (some false) else (packhorselaw10_OrderNames.l0 kj6 t256 (wrap64 (x2_1 + 1))))))) else (if (t262 != (x2_1 == 12)) = true then (some false) else ((order_Undoing.f x2_1).bind fun t265 => (if x2_1 = 9 then (if (t265 != true) = true then (some false) else (packhorselaw10_OrderNames.l0 kj6 t256 (wrap64 (x2_1 + 1)))) else (if (t265 != (x2_1 == 10)) = true then (some false) else (packhorselaw10_OrderNames.l0 kj6 t256 (wrap64 (x2_1 + 1))))))))) = some r := H; have A14 := Aside0.mk A140; clear A140
         by_cases c15 : x2_1 = 8
         ·rw [if_pos c15] at H
          have c15b0 : (x2_1 == 8) = true := beq_iff_eq.mpr c15; have c15b1 : (x2_1 != 8) = false := bne_eq_false_iff_eq.mpr c15; clear c15
          by_cases c16 : (t262 != true) = true
          ·rw [if_pos c16] at H
           have c16b0 : (t262 != true) = true := c16
           (try (have c16b1 : decide (t262 = true) = false := by simpa using c16))
           (try (have c16b2 : (t262 == true) = false := by simpa using c16))
           (try (have c16b3 : ¬ (t262 = true) := by simpa using c16))
           clear c16; obtain rfl := Option.some.inj H
           exact absurd HRT.out (by decide)
          ·rw [if_neg c16] at H
           have c16b0 : (t262 != true) = false := by simpa using c16
           (try (have c16b1 : decide (t262 = true) = true := by simpa using c16))
           (try (have c16b2 : (t262 == true) = true := by simpa using c16))
           clear c16; replace H := obm H; obtain ⟨t263, A170, H⟩ := H; replace H : (if x2_1 = 9 then (if (t263 != true) = true then (some false) else (packhorselaw10_OrderNames.l0 kj6 t256 (wrap64 (x2_1 + 1)))) else (if (t263 != (x2_1 == 10)) = true then (some false) else (packhorselaw10_OrderNames.l0 kj6 t256 (wrap64 (x2_1 + 1))))) = some r := H; have A17 := Aside0.mk A170; clear A170
           by_cases c18 : x2_1 = 9
           ·rw [if_pos c18] at H
            have c18b0 : (x2_1 == 9) = true := beq_iff_eq.mpr c18; have c18b1 : (x2_1 != 9) = false := bne_eq_false_iff_eq.mpr c18; clear c18
            by_cases c19 : (t263 != true) = true
            ·rw [if_pos c19] at H
             have c19b0 : (t263 != true) = true := c19
             (try (have c19b1 : decide (t263 = true) = false := by simpa using c19))
             (try (have c19b2 : (t263 == true) = false := by simpa using c19))
             (try (have c19b3 : ¬ (t263 = true) := by simpa using c19))
             clear c19; obtain rfl := Option.some.inj H
             exact absurd HRT.out (by decide)
            ·rw [if_neg c19] at H
             have c19b0 : (t263 != true) = false := by simpa using c19
             (try (have c19b1 : decide (t263 = true) = true := by simpa using c19))
             (try (have c19b2 : (t263 == true) = true := by simpa using c19))
             clear c19; have H' := Aside0.mk H; clear H
             go_wp2_with (first | ((with_reducible refine gate_callee (f := 23) rfl ?_); refine goesL_ (some 22) rfl rfl Tryd.func23 (by kernel_rfl) rfl #[.int .i64 x2_1] rfl ap1 ?_; (with_reducible refine (order_Phase.calls x2_1 t261 _ A12.out).mono ?_); rintro e w20 ⟨rfl, hb⟩; refine ⟨_, rfl, ?_⟩; have _ := Aside0.mk (Kd.R_below (ru HO_1.out) hb); have _ := Aside0.mk (below_step (beu HB.out) hb); clear HO_1 HB; rename_i HO_1 HB; (try clear hb); (try clear hb2); (try clear hk); (try clear hi)) | (go_at_call 24; (with_reducible refine (order_Over.calls x2_1 t262 _ A14.out).mono ?_); rintro e w' ⟨rfl, ⟨nd, rfl⟩⟩) | (go_at_call 25; (with_reducible refine (order_Undoing.calls x2_1 t263 _ A17.out).mono ?_); rintro e w' ⟨rfl, ⟨nd, rfl⟩⟩))
             go_roundg kj6
             case measure => have := HK1.out; have := HJ3.out; have := HJ6.out; omega
             case rel => exact ⟨(wrap64 (x2_1 + 1)), ap3, H', ⟨by have := HK1.out; have := HJ3.out; have := HJ6.out; omega⟩, ⟨ru HO_1.out⟩, ⟨beu HB.out⟩⟩
           ·rw [if_neg c18] at H
            have c18b0 : (x2_1 == 9) = false := beq_eq_false_iff_ne.mpr c18; have c18b1 : (x2_1 != 9) = true := bne_iff_ne.mpr c18
            by_cases c21 : (t263 != (x2_1 == 10)) = true
            ·rw [if_pos c21] at H
             have c21b0 : (t263 != (x2_1 == 10)) = true := c21
             (try (have c21b1 : decide (t263 = (x2_1 == 10)) = false := by simpa using c21))
             (try (have c21b2 : (t263 == (x2_1 == 10)) = false := by simpa using c21))
             (try (have c21b3 : ¬ (t263 = (x2_1 == 10)) := by simpa using c21))
             clear c21; obtain rfl := Option.some.inj H
             exact absurd HRT.out (by decide)
            ·rw [if_neg c21] at H
             have c21b0 : (t263 != (x2_1 == 10)) = false := by simpa using c21
             (try (have c21b1 : decide (t263 = (x2_1 == 10)) = true := by simpa using c21))
             (try (have c21b2 : (t263 == (x2_1 == 10)) = true := by simpa using c21))
             clear c21; have H' := Aside0.mk H; clear H
             go_wp2_with (first | ((with_reducible refine gate_callee (f := 23) rfl ?_); refine goesL_ (some 22) rfl rfl Tryd.func23 (by kernel_rfl) rfl #[.int .i64 x2_1] rfl ap1 ?_; (with_reducible refine (order_Phase.calls x2_1 t261 _ A12.out).mono ?_); rintro e w22 ⟨rfl, hb⟩; refine ⟨_, rfl, ?_⟩; have _ := Aside0.mk (Kd.R_below (ru HO_1.out) hb); have _ := Aside0.mk (below_step (beu HB.out) hb); clear HO_1 HB; rename_i HO_1 HB; (try clear hb); (try clear hb2); (try clear hk); (try clear hi)) | (go_at_call 24; (with_reducible refine (order_Over.calls x2_1 t262 _ A14.out).mono ?_); rintro e w' ⟨rfl, ⟨nd, rfl⟩⟩) | (go_at_call 25; (with_reducible refine (order_Undoing.calls x2_1 t263 _ A17.out).mono ?_); rintro e w' ⟨rfl, ⟨nd, rfl⟩⟩))
             go_roundg kj6
             case measure => have := HK1.out; have := HJ3.out; have := HJ6.out; omega
             case rel => exact ⟨(wrap64 (x2_1 + 1)), ap3, H', ⟨by have := HK1.out; have := HJ3.out; have := HJ6.out; omega⟩, ⟨ru HO_1.out⟩, ⟨beu HB.out⟩⟩
         ·rw [if_neg c15] at H
          have c15b0 : (x2_1 == 8) = false := beq_eq_false_iff_ne.mpr c15; have c15b1 : (x2_1 != 8) = true := bne_iff_ne.mpr c15
          by_cases c23 : x2_1 = 11
          ·rw [if_pos c23] at H
           have c23b0 : (x2_1 == 11) = true := beq_iff_eq.mpr c23; have c23b1 : (x2_1 != 11) = false := bne_eq_false_iff_eq.mpr c23; clear c23
           by_cases c24 : (t262 != true) = true
           ·rw [if_pos c24] at H
            have c24b0 : (t262 != true) = true := c24
            (try (have c24b1 : decide (t262 = true) = false := by simpa using c24))
            (try (have c24b2 : (t262 == true) = false := by simpa using c24))
            (try (have c24b3 : ¬ (t262 = true) := by simpa using c24))
            clear c24; obtain rfl := Option.some.inj H
            exact absurd HRT.out (by decide)
           ·rw [if_neg c24] at H
            have c24b0 : (t262 != true) = false := by simpa using c24
            (try (have c24b1 : decide (t262 = true) = true := by simpa using c24))
            (try (have c24b2 : (t262 == true) = true := by simpa using c24))
            clear c24; replace H := obm H; obtain ⟨t264, A250, H⟩ := H; replace H : (if x2_1 = 9 then (if (t264 != true) = true then (some false) else (packhorselaw10_OrderNames.l0 kj6 t256 (wrap64 (x2_1 + 1)))) else (if (t264 != (x2_1 == 10)) = true then (some false) else (packhorselaw10_OrderNames.l0 kj6 t256 (wrap64 (x2_1 + 1))))) = some r := H; have A25 := Aside0.mk A250; clear A250
            by_cases c26 : x2_1 = 9
            ·rw [if_pos c26] at H
             have c26b0 : (x2_1 == 9) = true := beq_iff_eq.mpr c26; have c26b1 : (x2_1 != 9) = false := bne_eq_false_iff_eq.mpr c26; clear c26
             by_cases c27 : (t264 != true) = true
             ·rw [if_pos c27] at H
              have c27b0 : (t264 != true) = true := c27
              (try (have c27b1 : decide (t264 = true) = false := by simpa using c27))
              (try (have c27b2 : (t264 == true) = false := by simpa using c27))
              (try (have c27b3 : ¬ (t264 = true) := by simpa using c27))
              clear c27; obtain rfl := Option.some.inj H
              exact absurd HRT.out (by decide)
             ·rw [if_neg c27] at H
              have c27b0 : (t264 != true) = false := by simpa using c27
              (try (have c27b1 : decide (t264 = true) = true := by simpa using c27))
              (try (have c27b2 : (t264 == true) = true := by simpa using c27))
              clear c27; have H' := Aside0.mk H; clear H
              go_wp2_with (first | ((with_reducible refine gate_callee (f := 23) rfl ?_); refine goesL_ (some 22) rfl rfl Tryd.func23 (by kernel_rfl) rfl #[.int .i64 x2_1] rfl ap1 ?_; (with_reducible refine (order_Phase.calls x2_1 t261 _ A12.out).mono ?_); rintro e w28 ⟨rfl, hb⟩; refine ⟨_, rfl, ?_⟩; have _ := Aside0.mk (Kd.R_below (ru HO_1.out) hb); have _ := Aside0.mk (below_step (beu HB.out) hb); clear HO_1 HB; rename_i HO_1 HB; (try clear hb); (try clear hb2); (try clear hk); (try clear hi)) | (go_at_call 24; (with_reducible refine (order_Over.calls x2_1 t262 _ A14.out).mono ?_); rintro e w' ⟨rfl, ⟨nd, rfl⟩⟩) | (go_at_call 25; (with_reducible refine (order_Undoing.calls x2_1 t264 _ A25.out).mono ?_); rintro e w' ⟨rfl, ⟨nd, rfl⟩⟩))
              go_roundg kj6
              case measure => have := HK1.out; have := HJ3.out; have := HJ6.out; omega
              case rel => exact ⟨(wrap64 (x2_1 + 1)), ap3, H', ⟨by have := HK1.out; have := HJ3.out; have := HJ6.out; omega⟩, ⟨ru HO_1.out⟩, ⟨beu HB.out⟩⟩
            ·rw [if_neg c26] at H
             have c26b0 : (x2_1 == 9) = false := beq_eq_false_iff_ne.mpr c26; have c26b1 : (x2_1 != 9) = true := bne_iff_ne.mpr c26
             by_cases c29 : (t264 != (x2_1 == 10)) = true
             ·rw [if_pos c29] at H
              have c29b0 : (t264 != (x2_1 == 10)) = true := c29
              (try (have c29b1 : decide (t264 = (x2_1 == 10)) = false := by simpa using c29))
              (try (have c29b2 : (t264 == (x2_1 == 10)) = false := by simpa using c29))
              (try (have c29b3 : ¬ (t264 = (x2_1 == 10)) := by simpa using c29))
              clear c29; obtain rfl := Option.some.inj H
              exact absurd HRT.out (by decide)
             ·rw [if_neg c29] at H
              have c29b0 : (t264 != (x2_1 == 10)) = false := by simpa using c29
              (try (have c29b1 : decide (t264 = (x2_1 == 10)) = true := by simpa using c29))
              (try (have c29b2 : (t264 == (x2_1 == 10)) = true := by simpa using c29))
              clear c29; have H' := Aside0.mk H; clear H
              go_wp2_with (first | ((with_reducible refine gate_callee (f := 23) rfl ?_); refine goesL_ (some 22) rfl rfl Tryd.func23 (by kernel_rfl) rfl #[.int .i64 x2_1] rfl ap1 ?_; (with_reducible refine (order_Phase.calls x2_1 t261 _ A12.out).mono ?_); rintro e w30 ⟨rfl, hb⟩; refine ⟨_, rfl, ?_⟩; have _ := Aside0.mk (Kd.R_below (ru HO_1.out) hb); have _ := Aside0.mk (below_step (beu HB.out) hb); clear HO_1 HB; rename_i HO_1 HB; (try clear hb); (try clear hb2); (try clear hk); (try clear hi)) | (go_at_call 24; (with_reducible refine (order_Over.calls x2_1 t262 _ A14.out).mono ?_); rintro e w' ⟨rfl, ⟨nd, rfl⟩⟩) | (go_at_call 25; (with_reducible refine (order_Undoing.calls x2_1 t264 _ A25.out).mono ?_); rintro e w' ⟨rfl, ⟨nd, rfl⟩⟩))
              go_roundg kj6
              case measure => have := HK1.out; have := HJ3.out; have := HJ6.out; omega
              case rel => exact ⟨(wrap64 (x2_1 + 1)), ap3, H', ⟨by have := HK1.out; have := HJ3.out; have := HJ6.out; omega⟩, ⟨ru HO_1.out⟩, ⟨beu HB.out⟩⟩
          ·rw [if_neg c23] at H
           have c23b0 : (x2_1 == 11) = false := beq_eq_false_iff_ne.mpr c23; have c23b1 : (x2_1 != 11) = true := bne_iff_ne.mpr c23
           by_cases c31 : (t262 != (x2_1 == 12)) = true
           ·rw [if_pos c31] at H
            have c31b0 : (t262 != (x2_1 == 12)) = true := c31
            (try (have c31b1 : decide (t262 = (x2_1 == 12)) = false := by simpa using c31))
            (try (have c31b2 : (t262 == (x2_1 == 12)) = false := by simpa using c31))
            (try (have c31b3 : ¬ (t262 = (x2_1 == 12)) := by simpa using c31))
            clear c31; obtain rfl := Option.some.inj H
            exact absurd HRT.out (by decide)
           ·rw [if_neg c31] at H
            have c31b0 : (t262 != (x2_1 == 12)) = false := by simpa using c31
            (try (have c31b1 : decide (t262 = (x2_1 == 12)) = true := by simpa using c31))
            (try (have c31b2 : (t262 == (x2_1 == 12)) = true := by simpa using c31))
            clear c31; replace H := obm H; obtain ⟨t265, A320, H⟩ := H; replace H : (if x2_1 = 9 then (if (t265 != true) = true then (some false) else (packhorselaw10_OrderNames.l0 kj6 t256 (wrap64 (x2_1 + 1)))) else (if (t265 != (x2_1 == 10)) = true then (some false) else (packhorselaw10_OrderNames.l0 kj6 t256 (wrap64 (x2_1 + 1))))) = some r := H; have A32 := Aside0.mk A320; clear A320
            by_cases c33 : x2_1 = 9
            ·rw [if_pos c33] at H
             have c33b0 : (x2_1 == 9) = true := beq_iff_eq.mpr c33; have c33b1 : (x2_1 != 9) = false := bne_eq_false_iff_eq.mpr c33; clear c33
             by_cases c34 : (t265 != true) = true
             ·rw [if_pos c34] at H
              have c34b0 : (t265 != true) = true := c34
              (try (have c34b1 : decide (t265 = true) = false := by simpa using c34))
              (try (have c34b2 : (t265 == true) = false := by simpa using c34))
              (try (have c34b3 : ¬ (t265 = true) := by simpa using c34))
              clear c34; obtain rfl := Option.some.inj H
              exact absurd HRT.out (by decide)
             ·rw [if_neg c34] at H
              have c34b0 : (t265 != true) = false := by simpa using c34
              (try (have c34b1 : decide (t265 = true) = true := by simpa using c34))
              (try (have c34b2 : (t265 == true) = true := by simpa using c34))
              clear c34; have H' := Aside0.mk H; clear H
              go_wp2_with (first | ((with_reducible refine gate_callee (f := 23) rfl ?_); refine goesL_ (some 22) rfl rfl Tryd.func23 (by kernel_rfl) rfl #[.int .i64 x2_1] rfl ap1 ?_; (with_reducible refine (order_Phase.calls x2_1 t261 _ A12.out).mono ?_); rintro e w35 ⟨rfl, hb⟩; refine ⟨_, rfl, ?_⟩; have _ := Aside0.mk (Kd.R_below (ru HO_1.out) hb); have _ := Aside0.mk (below_step (beu HB.out) hb); clear HO_1 HB; rename_i HO_1 HB; (try clear hb); (try clear hb2); (try clear hk); (try clear hi)) | (go_at_call 24; (with_reducible refine (order_Over.calls x2_1 t262 _ A14.out).mono ?_); rintro e w' ⟨rfl, ⟨nd, rfl⟩⟩) | (go_at_call 25; (with_reducible refine (order_Undoing.calls x2_1 t265 _ A32.out).mono ?_); rintro e w' ⟨rfl, ⟨nd, rfl⟩⟩))
              go_roundg kj6
              case measure => have := HK1.out; have := HJ3.out; have := HJ6.out; omega
              case rel => exact ⟨(wrap64 (x2_1 + 1)), ap3, H', ⟨by have := HK1.out; have := HJ3.out; have := HJ6.out; omega⟩, ⟨ru HO_1.out⟩, ⟨beu HB.out⟩⟩
            ·rw [if_neg c33] at H
             have c33b0 : (x2_1 == 9) = false := beq_eq_false_iff_ne.mpr c33; have c33b1 : (x2_1 != 9) = true := bne_iff_ne.mpr c33
             by_cases c36 : (t265 != (x2_1 == 10)) = true
             ·rw [if_pos c36] at H
              have c36b0 : (t265 != (x2_1 == 10)) = true := c36
              (try (have c36b1 : decide (t265 = (x2_1 == 10)) = false := by simpa using c36))
              (try (have c36b2 : (t265 == (x2_1 == 10)) = false := by simpa using c36))
              (try (have c36b3 : ¬ (t265 = (x2_1 == 10)) := by simpa using c36))
              clear c36; obtain rfl := Option.some.inj H
              exact absurd HRT.out (by decide)
             ·rw [if_neg c36] at H
              have c36b0 : (t265 != (x2_1 == 10)) = false := by simpa using c36
              (try (have c36b1 : decide (t265 = (x2_1 == 10)) = true := by simpa using c36))
              (try (have c36b2 : (t265 == (x2_1 == 10)) = true := by simpa using c36))
              clear c36; have H' := Aside0.mk H; clear H
              go_wp2_with (first | ((with_reducible refine gate_callee (f := 23) rfl ?_); refine goesL_ (some 22) rfl rfl Tryd.func23 (by kernel_rfl) rfl #[.int .i64 x2_1] rfl ap1 ?_; (with_reducible refine (order_Phase.calls x2_1 t261 _ A12.out).mono ?_); rintro e w37 ⟨rfl, hb⟩; refine ⟨_, rfl, ?_⟩; have _ := Aside0.mk (Kd.R_below (ru HO_1.out) hb); have _ := Aside0.mk (below_step (beu HB.out) hb); clear HO_1 HB; rename_i HO_1 HB; (try clear hb); (try clear hb2); (try clear hk); (try clear hi)) | (go_at_call 24; (with_reducible refine (order_Over.calls x2_1 t262 _ A14.out).mono ?_); rintro e w' ⟨rfl, ⟨nd, rfl⟩⟩) | (go_at_call 25; (with_reducible refine (order_Undoing.calls x2_1 t265 _ A32.out).mono ?_); rintro e w' ⟨rfl, ⟨nd, rfl⟩⟩))
              go_roundg kj6
              case measure => have := HK1.out; have := HJ3.out; have := HJ6.out; omega
              case rel => exact ⟨(wrap64 (x2_1 + 1)), ap3, H', ⟨by have := HK1.out; have := HJ3.out; have := HJ6.out; omega⟩, ⟨ru HO_1.out⟩, ⟨beu HB.out⟩⟩
        ·rw [if_neg c13] at H
         have c13b0 : (t261.toList == x3_6.toList) = false := beq_eq_false_iff_ne.mpr c13; have c13b1 : (t261.toList != x3_6.toList) = true := bne_iff_ne.mpr c13; obtain rfl := Option.some.inj H
         exact absurd HRT.out (by decide)
   ·rw [if_neg c3] at H
    have c3b0 : decide (x2_1 < 15) = false := decide_eq_false c3; clear c3; replace H := obm H; obtain ⟨t259, A380, H⟩ := H; replace H : (if t259 = true then (some true) else (some false)) = some r := H; have A38 := Aside0.mk A380; clear A380
    by_cases c39 : t259 = true
    ·subst c39
     have H1 : (some true) = some r := by rw [if_pos rfl] at H; exact H
     clear H; have H := H1; clear H1; obtain rfl := Option.some.inj H; simp only [Option.some.injEq, Prod.mk.injEq] at H; obtain ⟨rfl⟩ := H
     go_wp2_with (first | ((with_reducible refine gate_callee (f := 9) rfl ?_); refine goesL_ (some 51) rfl rfl Tryd.func9 (by kernel_rfl) rfl #[] rfl ap1 ?_; (with_reducible refine (packhorselaw10_orderAlive.calls k1  true _ ?side1 A38.out rfl).mono ?_); (case side1 => first | exact HT.out | exact Tabs.below HT.out (beu HB.out)); rintro e w40 ⟨rfl, hb⟩; refine ⟨_, rfl, ?_⟩; have _ := Aside0.mk (Kd.R_below (ru HO_1.out) hb); have _ := Aside0.mk (below_step (beu HB.out) hb); clear HO_1 HB; rename_i HO_1 HB; (try clear hb); (try clear hb2); (try clear hk); (try clear hi)))
     go_ret
     exact ⟨ap4, beu HB.out⟩
    ·replace c39 := Bool.eq_false_iff.mpr c39
     subst c39
     have H1 : (some false) = some r := by rw [if_neg (show ¬ (false = true) by decide)] at H; exact H
     clear H; have H := H1; clear H1; obtain rfl := Option.some.inj H
     exact absurd HRT.out (by decide)
end Go.Proofs.YtmcdbjcbfjnfoaaDoor.PNam
