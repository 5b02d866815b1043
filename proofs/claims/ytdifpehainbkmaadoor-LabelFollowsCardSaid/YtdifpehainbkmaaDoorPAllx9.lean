-- Made by a program of this session (wip/gen)
import Derived.Test.YtdifpehainbkmaaDoorPAllx0
import Derived.Test.YtdifpehainbkmaaDoorPAllx8
namespace Go.Proofs.YtdifpehainbkmaaDoor.PAll
open Go.RowKit Go.Proofs.YtdifpehainbkmaaDoorW.PrintWords Go.Proofs.YtdifpehainbkmaaDoorW.PrintLast Go.Proofs.YtdifpehainbkmaaDoorW.PrintMore
attribute [local go_sem] max2_int min2_int max_two min_two max_three min_three max_four min_four   -- for this text's walks alone
set_option linter.unusedVariables false
set_option linter.unusedSimpArgs false

/-- A literal text's size. -/
theorem szlit (a : Array UInt8) : (⟨a⟩ : ByteArray).size = a.size := rfl

/-! ### packhorseref01_Next: function 14 -/
mutual
def packhorseref01_Next.j1 : Nat → ByteArray → Int → Option (ByteArray × Int)
  | 0, _, _ => none
  | k + 1, x0, x4 => if 0 ≤ (wrap64 ((x0.size : Int) - x4)) then (if (wrap64 ((x0.size : Int) - x4)) ≤ (x0.size : Int) then (packhorseref01_Next.l1 k x0 x4 (x0.extract 0 ((wrap64 ((x0.size : Int) - x4)) : Int).toNat) (⟨#[]⟩ : ByteArray) 1 (wrap64 ((x0.size : Int) - 1))) else (none)) else (none)
def packhorseref01_Next.l1 : Nat → ByteArray → Int → ByteArray → ByteArray → Int → Int → Option (ByteArray × Int)
  | 0, _, _, _, _, _, _ => none
  | k + 1, x0, x4, x5, x6, x7, x8 => if x8 ≥ (x5.size : Int) then (if 0 ≤ x8 then (if x8 < (x0.size : Int) then (if 0 ≤ (Int.tmod (wrap64 ((((bt x0 x8) - 48) % 256) + x7)) 10) then (if (Int.tmod (wrap64 ((((bt x0 x8) - 48) % 256) + x7)) 10) ≤ (wrap64 ((Int.tmod (wrap64 ((((bt x0 x8) - 48) % 256) + x7)) 10) + 1)) then (if (wrap64 ((Int.tmod (wrap64 ((((bt x0 x8) - 48) % 256) + x7)) 10) + 1)) ≤ 10 then (if ((⟨#[48, 49, 50, 51, 52, 53, 54, 55, 56, 57]⟩ : ByteArray).extract ((Int.tmod (wrap64 ((((bt x0 x8) - 48) % 256) + x7)) 10) : Int).toNat ((wrap64 ((Int.tmod (wrap64 ((((bt x0 x8) - 48) % 256) + x7)) 10) + 1)) : Int).toNat).size + x6.size ≤ 9223372036854775807 then (packhorseref01_Next.l1 k x0 x4 x5 (((⟨#[48, 49, 50, 51, 52, 53, 54, 55, 56, 57]⟩ : ByteArray).extract ((Int.tmod (wrap64 ((((bt x0 x8) - 48) % 256) + x7)) 10) : Int).toNat ((wrap64 ((Int.tmod (wrap64 ((((bt x0 x8) - 48) % 256) + x7)) 10) + 1)) : Int).toNat) ++ x6) (wrap64 (Int.tdiv (wrap64 ((((bt x0 x8) - 48) % 256) + x7)) 10)) (wrap64 (x8 - 1))) else (none)) else (none)) else (none)) else (none)) else (none)) else (none)) else (if x4 = 0 then (if x5.size + 1 ≤ 9223372036854775807 then ((packhorseref01_Right.f k (x5 ++ (⟨#[48]⟩ : ByteArray))).bind fun t142 => (if t142 = true then (some (x5 ++ (⟨#[48]⟩ : ByteArray), 0)) else (some ((⟨#[]⟩ : ByteArray), 11)))) else (none)) else (if x7 = 1 then (if 1 + x6.size ≤ 9223372036854775807 then (if x5.size + ((⟨#[49]⟩ : ByteArray) ++ x6).size ≤ 9223372036854775807 then ((packhorseref01_Right.f k (x5 ++ ((⟨#[49]⟩ : ByteArray) ++ x6))).bind fun t143 => (if t143 = true then (some (x5 ++ ((⟨#[49]⟩ : ByteArray) ++ x6), 0)) else (some ((⟨#[]⟩ : ByteArray), 11)))) else (none)) else (none)) else (if x5.size + x6.size ≤ 9223372036854775807 then ((packhorseref01_Right.f k (x5 ++ x6)).bind fun t144 => (if t144 = true then (some (x5 ++ x6, 0)) else (some ((⟨#[]⟩ : ByteArray), 11)))) else (none))))
def packhorseref01_Next.l0 : Nat → ByteArray → Int → Option (ByteArray × Int)
  | 0, _, _ => none
  | k + 1, x0, x4 => if x4 < (x0.size : Int) then (if 0 ≤ (wrap64 ((wrap64 ((x0.size : Int) - 1)) - x4)) then (if (wrap64 ((wrap64 ((x0.size : Int) - 1)) - x4)) < (x0.size : Int) then (if (bt x0 (wrap64 ((wrap64 ((x0.size : Int) - 1)) - x4))) ≥ 48 then (if (bt x0 (wrap64 ((wrap64 ((x0.size : Int) - 1)) - x4))) ≤ 57 then (packhorseref01_Next.l0 k x0 (wrap64 (x4 + 1))) else (packhorseref01_Next.j1 k x0 x4)) else (packhorseref01_Next.j1 k x0 x4)) else (none)) else (none)) else (packhorseref01_Next.j1 k x0 x4)
end
def packhorseref01_Next.f (k : Nat) (a0 : ByteArray) : Option (ByteArray × Int) := (packhorseref01_Right.f k a0).bind fun t141 => (if t141 = true then (packhorseref01_Next.l0 k a0 0) else (some ((⟨#[]⟩ : ByteArray), 11)))
theorem packhorseref01_Next.mono_l : ∀ k, (∀ y0 y1, LeO (packhorseref01_Next.j1 k y0 y1) (packhorseref01_Next.j1 (k + 1) y0 y1)) ∧ (∀ y0 y1 y2 y3 y4 y5, LeO (packhorseref01_Next.l1 k y0 y1 y2 y3 y4 y5) (packhorseref01_Next.l1 (k + 1) y0 y1 y2 y3 y4 y5)) ∧ (∀ y0 y1, LeO (packhorseref01_Next.l0 k y0 y1) (packhorseref01_Next.l0 (k + 1) y0 y1))
  | 0 => ⟨fun _ _ r h => by simp [packhorseref01_Next.j1] at h, fun _ _ _ _ _ _ r h => by simp [packhorseref01_Next.l1] at h, fun _ _ r h => by simp [packhorseref01_Next.l0] at h⟩
  | k + 1 => by
    obtain ⟨ih0, ih1, ih2⟩ := packhorseref01_Next.mono_l k
    refine ⟨?_, ?_, ?_⟩
    · intro y0 y1
      unfold packhorseref01_Next.j1
      repeat' first
      | (with_reducible exact ih0 _ _)
      | (with_reducible exact ih1 _ _ _ _ _ _)
      | (with_reducible exact ih2 _ _)
      | (with_reducible exact packhorseref01_Right.mono _ _)
      | (with_reducible exact LeO.refl _)
      | (with_reducible exact LeO.none _)
      | (with_reducible refine LeO.ite ?_ ?_)
      | (with_reducible refine LeO.bind ?_ (fun _ => ?_))
      | exact ih0 _ _
      | exact ih1 _ _ _ _ _ _
      | exact ih2 _ _
      | exact packhorseref01_Right.mono _ _
      | exact LeO.none _
      | refine LeO.ite ?_ ?_
      | refine LeO.bind ?_ (fun _ => ?_)
    · intro y0 y1 y2 y3 y4 y5
      unfold packhorseref01_Next.l1
      repeat' first
      | (with_reducible exact ih0 _ _)
      | (with_reducible exact ih1 _ _ _ _ _ _)
      | (with_reducible exact ih2 _ _)
      | (with_reducible exact packhorseref01_Right.mono _ _)
      | (with_reducible exact LeO.refl _)
      | (with_reducible exact LeO.none _)
      | (with_reducible refine LeO.ite ?_ ?_)
      | (with_reducible refine LeO.bind ?_ (fun _ => ?_))
      | exact ih0 _ _
      | exact ih1 _ _ _ _ _ _
      | exact ih2 _ _
      | exact packhorseref01_Right.mono _ _
      | exact LeO.none _
      | refine LeO.ite ?_ ?_
      | refine LeO.bind ?_ (fun _ => ?_)
    · intro y0 y1
      unfold packhorseref01_Next.l0
      repeat' first
      | (with_reducible exact ih0 _ _)
      | (with_reducible exact ih1 _ _ _ _ _ _)
      | (with_reducible exact ih2 _ _)
      | (with_reducible exact packhorseref01_Right.mono _ _)
      | (with_reducible exact LeO.refl _)
      | (with_reducible exact LeO.none _)
      | (with_reducible refine LeO.ite ?_ ?_)
      | (with_reducible refine LeO.bind ?_ (fun _ => ?_))
      | exact ih0 _ _
      | exact ih1 _ _ _ _ _ _
      | exact ih2 _ _
      | exact packhorseref01_Right.mono _ _
      | exact LeO.none _
      | refine LeO.ite ?_ ?_
      | refine LeO.bind ?_ (fun _ => ?_)
theorem packhorseref01_Next.mono : ∀ a0 k, LeO (packhorseref01_Next.f k a0) (packhorseref01_Next.f (k + 1) a0) := by
  intro a0 k
  obtain ⟨ih0, ih1, ih2⟩ := packhorseref01_Next.mono_l k
  unfold packhorseref01_Next.f
  repeat' first
      | (with_reducible exact ih0 _ _)
      | (with_reducible exact ih1 _ _ _ _ _ _)
      | (with_reducible exact ih2 _ _)
      | (with_reducible exact packhorseref01_Right.mono _ _)
      | (with_reducible exact LeO.refl _)
      | (with_reducible exact LeO.none _)
      | (with_reducible refine LeO.ite ?_ ?_)
      | (with_reducible refine LeO.bind ?_ (fun _ => ?_))
      | exact ih0 _ _
      | exact ih1 _ _ _ _ _ _
      | exact ih2 _ _
      | exact packhorseref01_Right.mono _ _
      | exact LeO.none _
      | refine LeO.ite ?_ ?_
      | refine LeO.bind ?_ (fun _ => ?_)
set_option maxHeartbeats 8000000 in
set_option maxRecDepth 100000 in
theorem packhorseref01_Next.calls (k : Nat) (a0 : ByteArray) (r1 : ByteArray) (r2 : Int) (w : World) (h : packhorseref01_Next.f k a0 = some (r1, r2)) :
    Calls Tryd.prog 14 #[.string a0] w fun e w' => e = .returned (.tuple #[.string r1, .int .i64 r2]) ∧ Below w.heap.size w w' := by
  have HB := Aside0.mk (Below.refl w.heap.size w)
  have H : ((packhorseref01_Right.f k a0).bind fun t141 => (if t141 = true then (packhorseref01_Next.l0 k a0 0) else (some ((⟨#[]⟩ : ByteArray), 11)))) = some (r1, r2) := h
  clear h
  replace H := Option.bind_eq_some_iff.mp H
  obtain ⟨t141, A20, H⟩ := H
  replace H : (if t141 = true then (packhorseref01_Next.l0 k a0 0) else (some ((⟨#[]⟩ : ByteArray), 11))) = some (r1, r2) := H
  have A2 := Aside0.mk A20
  clear A20
  by_cases c3 : t141 = true
  · subst c3
    have H1 : (packhorseref01_Next.l0 k a0 0) = some (r1, r2) := by rw [if_pos rfl] at H; exact H
    clear H
    have H := H1
    clear H1
    have HC4 := Aside0.mk H
    clear H
    go_enter Tryd.func14, Tryd.ntmps14
    go_upto_block 0 with (first | ((with_reducible refine gate_callee (f := 16) rfl ?_); refine goesL_ (some 11) rfl rfl Tryd.func16 (by kernel_rfl) rfl #[.string a0] rfl (by (try simp only [List.map_toArray, List.map_cons, List.map_nil]); first | done | rfl | (simp only [List.length_drop, List.length_take]; rfl)) ?_; (with_reducible refine (packhorseref01_Right.calls k a0 true _ A2.out).mono ?_); rintro e w5 ⟨rfl, hb⟩; refine ⟨_, rfl, ?_⟩; have n0_ := Aside0.mk (below_step (by repeat (first | (with_reducible first | exact HB.out | apply below_alloc | apply pw_below_drewN | apply below_drew1) | exact HB.out)) hb); clear HB; have HB := n0_; clear n0_; (try clear hb); (try clear hb2); (try clear hk); (try clear hi)))
    (try simp only [Act.put, List.setIfInBounds_toArray, List.set_cons_zero, List.set_cons_succ])
    go_cut [4] (fun v4 wc => ∃ (kq : Nat) (x4_3 : Int), v4 = .int .i64 x4_3 ∧ Aside0 (packhorseref01_Next.j1 kq a0 x4_3 = some (r1, r2)) ∧ Aside0 (kq ≤ k) ∧ Aside0 (Below w.heap.size w wc))
    case first =>
      have H := HC4.out
      clear HC4
      have H' := Aside0.mk H
      clear H
      go_wp2
      go_loopg [4] k (fun kq v4 w' => ∃ (x4_1 : Int), v4 = .int .i64 x4_1 ∧ Aside0 (packhorseref01_Next.l0 kq a0 x4_1 = some (r1, r2)) ∧ Aside0 (kq ≤ k) ∧ Aside0 (Below w.heap.size w w'))
      case atStart => exact ⟨(0), (by first | rfl | (simp; done) | (simp [*]; done)), H', ⟨Nat.le_refl _⟩, ⟨by repeat (first | (with_reducible first | exact HB.out | apply below_alloc | apply pw_below_drewN | apply below_drew1) | exact HB.out)⟩⟩
      case round =>
        clear H'
        try clear c1
        try clear p2
        try clear c3
        obtain ⟨x4_1, rfl, HA, HK1, HB⟩ := hrel
        cases gk with
        | zero => exact absurd HA.out (by simp [packhorseref01_Next.l0])
        | succ k1 =>
          have H := HA.out
          clear HA
          simp only [packhorseref01_Next.l0] at H
          by_cases c6 : x4_1 < (a0.size : Int)
          · rw [if_pos c6] at H
            have c6b0 : decide (x4_1 < (a0.size : Int)) = true := decide_eq_true c6
            clear c6
            (first | rw [c6b0] | (simp only [i64_w, i32_w]; rw [c6b0]) | skip)
            obtain ⟨ji7, hji7⟩ : ∃ j_ : Int, (wrap64 ((wrap64 ((a0.size : Int) - 1)) - x4_1)) = j_ := ⟨_, rfl⟩
            replace H : (if 0 ≤ (ji7) then (if (ji7) < (a0.size : Int) then (if (bt a0 (ji7)) ≥ 48 then (if (bt a0 (ji7)) ≤ 57 then (packhorseref01_Next.l0 k1 a0 (wrap64 (x4_1 + 1))) else (packhorseref01_Next.j1 k1 a0 x4_1)) else (packhorseref01_Next.j1 k1 a0 x4_1)) else (none)) else (none)) = some (r1, r2) := by first | (rw [hji7] at H; exact H) | (simp only [hji7] at H ⊢; exact H)
            have hji7w : (IntKind.i64.wrap ((wrap64 ((a0.size : Int) - 1)) - x4_1)) = ji7 := (i64_w _).trans hji7
            by_cases c8 : 0 ≤ (ji7)
            · rw [if_pos c8] at H
              have c8b0 : decide (0 ≤ (ji7)) = true := decide_eq_true c8
              clear c8
              by_cases c9 : (ji7) < (a0.size : Int)
              · rw [if_pos c9] at H
                have c9b0 : decide ((ji7) < (a0.size : Int)) = true := decide_eq_true c9
                clear c9
                by_cases c11 : (bt a0 (ji7)) ≥ 48
                · rw [if_pos c11] at H
                  have c11b0 : decide (48 ≤ (bt a0 (ji7))) = true := decide_eq_true c11
                  clear c11
                  by_cases c13 : (bt a0 (ji7)) ≤ 57
                  · rw [if_pos c13] at H
                    have c13b0 : decide ((bt a0 (ji7)) ≤ 57) = true := decide_eq_true c13
                    clear c13
                    have H' := Aside0.mk H
                    clear H
                    have p10 : 0 ≤ ((ji7) : Int) := of_decide_eq_true (by first | (with_reducible assumption) | assumption)
                    have q10 : (ji7) < (a0.size : Int) := of_decide_eq_true (by first | (with_reducible assumption) | assumption)
                    have hx10 := bt_at a0 (ji7)
                    replace p10 := eq_true p10
                    replace q10 := eq_true q10
                    have p12 : 0 ≤ ((ji7) : Int) := of_decide_eq_true (by first | (with_reducible assumption) | assumption)
                    have q12 : (ji7) < (a0.size : Int) := of_decide_eq_true (by first | (with_reducible assumption) | assumption)
                    have hx12 := bt_at a0 (ji7)
                    replace p12 := eq_true p12
                    replace q12 := eq_true q12
                    go_wp2
                    go_roundg k1
                    case measure => have := HK1.out; omega
                    case rel => exact ⟨(wrap64 (x4_1 + 1)), (by first | rfl | (simp; done) | (simp [*]; done)), H', ⟨by have := HK1.out; omega⟩, ⟨by repeat (first | (with_reducible first | exact HB.out | apply below_alloc | apply pw_below_drewN | apply below_drew1) | exact HB.out)⟩⟩
                  · rw [if_neg c13] at H
                    have c13b0 : decide ((bt a0 (ji7)) ≤ 57) = false := decide_eq_false c13
                    clear c13
                    have H' := Aside0.mk H
                    clear H
                    have p10 : 0 ≤ ((ji7) : Int) := of_decide_eq_true (by first | (with_reducible assumption) | assumption)
                    have q10 : (ji7) < (a0.size : Int) := of_decide_eq_true (by first | (with_reducible assumption) | assumption)
                    have hx10 := bt_at a0 (ji7)
                    replace p10 := eq_true p10
                    replace q10 := eq_true q10
                    have p12 : 0 ≤ ((ji7) : Int) := of_decide_eq_true (by first | (with_reducible assumption) | assumption)
                    have q12 : (ji7) < (a0.size : Int) := of_decide_eq_true (by first | (with_reducible assumption) | assumption)
                    have hx12 := bt_at a0 (ji7)
                    replace p12 := eq_true p12
                    replace q12 := eq_true q12
                    go_wp2
                    go_meet
                    case rel => exact ⟨_, (x4_1), (by first | rfl | (simp; done) | (simp [*]; done)), H', ⟨by have := HK1.out; first | omega | exact Nat.le_refl _⟩, ⟨by repeat (first | (with_reducible first | exact HB.out | apply below_alloc | apply pw_below_drewN | apply below_drew1) | exact HB.out)⟩⟩
                · rw [if_neg c11] at H
                  have c11b0 : decide (48 ≤ (bt a0 (ji7))) = false := decide_eq_false c11
                  clear c11
                  have H' := Aside0.mk H
                  clear H
                  have p10 : 0 ≤ ((ji7) : Int) := of_decide_eq_true (by first | (with_reducible assumption) | assumption)
                  have q10 : (ji7) < (a0.size : Int) := of_decide_eq_true (by first | (with_reducible assumption) | assumption)
                  have hx10 := bt_at a0 (ji7)
                  replace p10 := eq_true p10
                  replace q10 := eq_true q10
                  go_wp2
                  go_meet
                  case rel => exact ⟨_, (x4_1), (by first | rfl | (simp; done) | (simp [*]; done)), H', ⟨by have := HK1.out; first | omega | exact Nat.le_refl _⟩, ⟨by repeat (first | (with_reducible first | exact HB.out | apply below_alloc | apply pw_below_drewN | apply below_drew1) | exact HB.out)⟩⟩
              · rw [if_neg c9] at H
                exact absurd H (by simp)
            · rw [if_neg c8] at H
              exact absurd H (by simp)
          · rw [if_neg c6] at H
            have c6b0 : decide (x4_1 < (a0.size : Int)) = false := decide_eq_false c6
            clear c6
            (first | rw [c6b0] | (simp only [i64_w, i32_w]; rw [c6b0]) | skip)
            have H' := Aside0.mk H
            clear H
            go_wp2
            go_meet
            case rel => exact ⟨_, (x4_1), (by first | rfl | (simp; done) | (simp [*]; done)), H', ⟨by have := HK1.out; first | omega | exact Nat.le_refl _⟩, ⟨by repeat (first | (with_reducible first | exact HB.out | apply below_alloc | apply pw_below_drewN | apply below_drew1) | exact HB.out)⟩⟩
    case rest =>
      clear HC4
      try clear c1
      try clear p1
      try clear q1
      try clear hx1
      try clear p2
      try clear c3
      try clear c6
      try clear c6b0
      try clear p6
      try clear c8
      try clear c8b0
      try clear c9
      try clear c9b0
      try clear p10
      try clear q10
      try clear hx10
      try clear c11
      try clear c11b0
      try clear p12
      try clear q12
      try clear hx12
      try clear c13
      try clear c13b0
      try clear p10
      try clear p12
      try clear p2
      try clear q10
      try clear q12
      obtain ⟨kq, x4_3, rfl, HA, HJ3, HB⟩ := hcut
      cases kq with
      | zero => exact absurd HA.out (by simp [packhorseref01_Next.j1])
      | succ kj3 =>
        have H := HA.out
        clear HA
        simp only [packhorseref01_Next.j1] at H
        obtain ⟨ji14, hji14⟩ : ∃ j_ : Int, (wrap64 ((a0.size : Int) - x4_3)) = j_ := ⟨_, rfl⟩
        replace H : (if 0 ≤ (ji14) then (if (ji14) ≤ (a0.size : Int) then (packhorseref01_Next.l1 kj3 a0 x4_3 (a0.extract 0 ((ji14) : Int).toNat) (⟨#[]⟩ : ByteArray) 1 (wrap64 ((a0.size : Int) - 1))) else (none)) else (none)) = some (r1, r2) := by first | (rw [hji14] at H; exact H) | (simp only [hji14] at H ⊢; exact H)
        have hji14w : (IntKind.i64.wrap ((a0.size : Int) - x4_3)) = ji14 := (i64_w _).trans hji14
        by_cases c15 : 0 ≤ (ji14)
        · rw [if_pos c15] at H
          have c15b0 := eq_true c15
          have c15b1 : decide (0 ≤ (ji14)) = true := decide_eq_true c15
          clear c15
          by_cases c16 : (ji14) ≤ (a0.size : Int)
          · rw [if_pos c16] at H
            have c16b0 := eq_true c16
            have c16b1 : decide ((ji14) ≤ (a0.size : Int)) = true := decide_eq_true c16
            clear c16
            have H' := Aside0.mk H
            clear H
            go_wp2
            go_loopg [6, 7, 8] kj3 (fun kq v6 v7 v8 w' => ∃ (x6_2 : ByteArray) (x7_2 : Int) (x8_2 : Int), v6 = .string x6_2 ∧ v7 = .int .i64 x7_2 ∧ v8 = .int .i64 x8_2 ∧ Aside0 (packhorseref01_Next.l1 kq a0 x4_3 (a0.extract 0 ((ji14) : Int).toNat) x6_2 x7_2 x8_2 = some (r1, r2)) ∧ Aside0 (kq ≤ kj3) ∧ Aside0 (Below w.heap.size w w'))
            case atStart => exact ⟨((⟨#[]⟩ : ByteArray)), (1), (wrap64 ((a0.size : Int) - 1)), (by first | rfl | (simp; done) | (simp [*]; done)), (by first | rfl | (simp; done) | (simp [*]; done)), (by first | rfl | (simp; done) | (simp [*]; done)), H', ⟨Nat.le_refl _⟩, ⟨by repeat (first | (with_reducible first | exact HB.out | apply below_alloc | apply pw_below_drewN | apply below_drew1) | exact HB.out)⟩⟩
            case round =>
              clear H'
              try clear c1
              try clear p1
              try clear q1
              try clear hx1
              try clear p2
              try clear c3
              try clear c6
              try clear c6b0
              try clear p6
              try clear c8
              try clear c8b0
              try clear c9
              try clear c9b0
              try clear p10
              try clear q10
              try clear hx10
              try clear c11
              try clear c11b0
              try clear p12
              try clear q12
              try clear hx12
              try clear c13
              try clear c13b0
              try clear c14
              try clear c15
              try clear c15b0
              try clear c15b1
              try clear c16
              try clear c16b0
              try clear c16b1
              try clear p1
              try clear p10
              try clear p12
              try clear p2
              try clear p6
              try clear q1
              try clear q10
              try clear q12
              obtain ⟨x6_2, x7_2, x8_2, rfl, rfl, rfl, HA, HK2, HB⟩ := hrel
              cases gk with
              | zero => exact absurd HA.out (by simp [packhorseref01_Next.l1])
              | succ k2 =>
                have H := HA.out
                clear HA
                simp only [packhorseref01_Next.l1] at H
                by_cases c17 : x8_2 ≥ ((a0.extract 0 ((ji14) : Int).toNat).size : Int)
                · rw [if_pos c17] at H
                  have c17b0 : decide (((a0.extract 0 ((ji14) : Int).toNat).size : Int) ≤ x8_2) = true := decide_eq_true c17
                  try (have c17b0_ := c17b0; rw [ByteArray.size_extract, Nat.sub_zero] at c17b0_)
                  clear c17
                  by_cases c18 : 0 ≤ x8_2
                  · rw [if_pos c18] at H
                    have c18b0 : decide (0 ≤ x8_2) = true := decide_eq_true c18
                    clear c18
                    by_cases c19 : x8_2 < (a0.size : Int)
                    · rw [if_pos c19] at H
                      have c19b0 : decide (x8_2 < (a0.size : Int)) = true := decide_eq_true c19
                      clear c19
                      obtain ⟨ji21, hji21⟩ : ∃ j_ : Int, (Int.tmod (wrap64 ((((bt a0 x8_2) - 48) % 256) + x7_2)) 10) = j_ := ⟨_, rfl⟩
                      replace H : (if 0 ≤ (ji21) then (if (ji21) ≤ (wrap64 ((ji21) + 1)) then (if (wrap64 ((ji21) + 1)) ≤ 10 then (if ((⟨#[48, 49, 50, 51, 52, 53, 54, 55, 56, 57]⟩ : ByteArray).extract ((ji21) : Int).toNat ((wrap64 ((ji21) + 1)) : Int).toNat).size + x6_2.size ≤ 9223372036854775807 then (packhorseref01_Next.l1 k2 a0 x4_3 (a0.extract 0 ((ji14) : Int).toNat) (((⟨#[48, 49, 50, 51, 52, 53, 54, 55, 56, 57]⟩ : ByteArray).extract ((ji21) : Int).toNat ((wrap64 ((ji21) + 1)) : Int).toNat) ++ x6_2) (wrap64 (Int.tdiv (wrap64 ((((bt a0 x8_2) - 48) % 256) + x7_2)) 10)) (wrap64 (x8_2 - 1))) else (none)) else (none)) else (none)) else (none)) = some (r1, r2) := by first | (rw [hji21] at H; exact H) | (simp only [hji21] at H ⊢; exact H)
                      by_cases c22 : 0 ≤ (ji21)
                      · rw [if_pos c22] at H
                        have c22b0 := eq_true c22
                        have c22b1 : decide (0 ≤ (ji21)) = true := decide_eq_true c22
                        clear c22
                        by_cases c23 : (ji21) ≤ (wrap64 ((ji21) + 1))
                        · rw [if_pos c23] at H
                          have c23b0 := eq_true c23
                          have c23b1 : decide ((ji21) ≤ (wrap64 ((ji21) + 1))) = true := decide_eq_true c23
                          by_cases c24 : (wrap64 ((ji21) + 1)) ≤ 10
                          · rw [if_pos c24] at H
                            have c24b0 := eq_true c24
                            have c24b1 : decide ((wrap64 ((ji21) + 1)) ≤ 10) = true := decide_eq_true c24
                            by_cases c25 : ((⟨#[48, 49, 50, 51, 52, 53, 54, 55, 56, 57]⟩ : ByteArray).extract ((ji21) : Int).toNat ((wrap64 ((ji21) + 1)) : Int).toNat).size + x6_2.size ≤ 9223372036854775807
                            · rw [if_pos c25] at H
                              have c25b0 := eq_true c25
                              have c25b1 : decide (((⟨#[48, 49, 50, 51, 52, 53, 54, 55, 56, 57]⟩ : ByteArray).extract ((ji21) : Int).toNat ((wrap64 ((ji21) + 1)) : Int).toNat).size + x6_2.size ≤ 9223372036854775807) = true := decide_eq_true c25
                              try have c25b2 : (9223372036854775807 < ((⟨#[48, 49, 50, 51, 52, 53, 54, 55, 56, 57]⟩ : ByteArray).extract ((ji21) : Int).toNat ((wrap64 ((ji21) + 1)) : Int).toNat).size + x6_2.size) = False := eq_false (Nat.not_lt.2 c25)
                              try have c25b4 : (9223372036854775807 < 1 + x6_2.size) = False := eq_false (by have h_ := c25; simp only [decide_eq_true_eq, eq_iff_iff, iff_true, ByteArray.size_append, ByteArray.size_extract, szlit, List.size_toArray, List.length_cons, List.length_nil] at *; first | omega | (obtain ⟨j_, hj_⟩ : ∃ j_ : Int, j_ = ji21 := ⟨_, rfl⟩; rw [← hj_] at *; have w_ : wrap64 (j_ + 1) = j_ + 1 := (by unfold wrap64; omega); rw [w_] at h_; omega))
                              have H' := Aside0.mk H
                              clear H
                              have p20 : 0 ≤ (x8_2 : Int) := of_decide_eq_true (by first | (with_reducible assumption) | assumption)
                              have q20 : x8_2 < (a0.size : Int) := of_decide_eq_true (by first | (with_reducible assumption) | assumption)
                              have hx20 := bt_at a0 x8_2
                              replace p20 := eq_true p20
                              replace q20 := eq_true q20
                              go_wp2
                              go_roundg k2
                              case measure => have := HJ3.out; have := HK2.out; omega
                              case rel => exact ⟨(((⟨#[48, 49, 50, 51, 52, 53, 54, 55, 56, 57]⟩ : ByteArray).extract ((ji21) : Int).toNat ((wrap64 ((ji21) + 1)) : Int).toNat) ++ x6_2), (wrap64 (Int.tdiv (wrap64 ((((bt a0 x8_2) - 48) % 256) + x7_2)) 10)), (wrap64 (x8_2 - 1)), (by first | rfl | (simp; done) | (simp only [← hji21] <;> (first | rfl | simp)) | (simp [*]; done)), (by first | rfl | (simp; done) | (simp [*]; done)), (by first | rfl | (simp; done) | (simp [*]; done)), H', ⟨by have := HJ3.out; have := HK2.out; omega⟩, ⟨by repeat (first | (with_reducible first | exact HB.out | apply below_alloc | apply pw_below_drewN | apply below_drew1) | exact HB.out)⟩⟩
                            · rw [if_neg c25] at H
                              exact absurd H (by simp)
                          · rw [if_neg c24] at H
                            exact absurd H (by simp)
                        · rw [if_neg c23] at H
                          exact absurd H (by simp)
                      · rw [if_neg c22] at H
                        exact absurd H (by simp)
                    · rw [if_neg c19] at H
                      exact absurd H (by simp)
                  · rw [if_neg c18] at H
                    exact absurd H (by simp)
                · rw [if_neg c17] at H
                  have c17b0 : decide (((a0.extract 0 ((ji14) : Int).toNat).size : Int) ≤ x8_2) = false := decide_eq_false c17
                  try (have c17b0_ := c17b0; rw [ByteArray.size_extract, Nat.sub_zero] at c17b0_)
                  clear c17
                  by_cases c26 : x4_3 = 0
                  · rw [if_pos c26] at H
                    have c26b0 : (x4_3 == 0) = true := beq_iff_eq.mpr c26
                    have c26b1 : (x4_3 != 0) = false := bne_eq_false_iff_eq.mpr c26
                    clear c26
                    by_cases c27 : (a0.extract 0 ((ji14) : Int).toNat).size + 1 ≤ 9223372036854775807
                    · rw [if_pos c27] at H
                      have c27b0 := eq_true c27
                      have c27b1 : decide ((a0.extract 0 ((ji14) : Int).toNat).size + 1 ≤ 9223372036854775807) = true := decide_eq_true c27
                      try have c27b2 : (9223372036854775807 < (a0.extract 0 ((ji14) : Int).toNat).size + 1) = False := eq_false (Nat.not_lt.2 c27)
                      try have c27b4 : (9223372036854775807 < min ji14.toNat a0.size + 1) = False := eq_false (by have h_ := c27; simp only [decide_eq_true_eq, eq_iff_iff, iff_true, ByteArray.size_append, ByteArray.size_extract, szlit, List.size_toArray, List.length_cons, List.length_nil] at *; first | omega | (obtain ⟨j_, hj_⟩ : ∃ j_ : Int, j_ = 0 := ⟨_, rfl⟩; rw [← hj_] at *; have w_ : wrap64 (j_ + 1) = j_ + 1 := (by unfold wrap64; omega); rw [w_] at h_; omega))
                      try have c27b5 : (9223372036854775807 < ji14.toNat + 1) = False := eq_false (by have h_ := c27; simp only [decide_eq_true_eq, eq_iff_iff, iff_true, ByteArray.size_append, ByteArray.size_extract, szlit, List.size_toArray, List.length_cons, List.length_nil] at *; first | omega | (obtain ⟨j_, hj_⟩ : ∃ j_ : Int, j_ = 0 := ⟨_, rfl⟩; rw [← hj_] at *; have w_ : wrap64 (j_ + 1) = j_ + 1 := (by unfold wrap64; omega); rw [w_] at h_; omega))
                      replace H := Option.bind_eq_some_iff.mp H
                      obtain ⟨t142, A280, H⟩ := H
                      replace H : (if t142 = true then (some ((a0.extract 0 ((ji14) : Int).toNat) ++ (⟨#[48]⟩ : ByteArray), 0)) else (some ((⟨#[]⟩ : ByteArray), 11))) = some (r1, r2) := H
                      have A28 := Aside0.mk A280
                      clear A280
                      by_cases c29 : t142 = true
                      · subst c29
                        have H1 : (some ((a0.extract 0 ((ji14) : Int).toNat) ++ (⟨#[48]⟩ : ByteArray), 0)) = some (r1, r2) := by rw [if_pos rfl] at H; exact H
                        clear H
                        have H := H1
                        clear H1
                        simp only [Option.some.injEq, Prod.mk.injEq] at H
                        obtain ⟨rfl, rfl⟩ := H
                        go_wp2_with (first | ((with_reducible refine gate_callee (f := 16) rfl ?_); refine goesL_ (some 80) rfl rfl Tryd.func16 (by kernel_rfl) rfl #[.string ((a0.extract 0 ((ji14) : Int).toNat) ++ (⟨#[48]⟩ : ByteArray))] rfl (by (try simp only [List.map_toArray, List.map_cons, List.map_nil]); first | done | (simp only [hji14]; rfl) | rfl | (simp only [List.length_drop, List.length_take]; rfl)) ?_; (with_reducible refine (packhorseref01_Right.calls k2 ((a0.extract 0 ((ji14) : Int).toNat) ++ (⟨#[48]⟩ : ByteArray)) true _ A28.out).mono ?_); rintro e w30 ⟨rfl, hb⟩; refine ⟨_, rfl, ?_⟩; have n0_ := Aside0.mk (below_step (by repeat (first | (with_reducible first | exact HB.out | apply below_alloc | apply pw_below_drewN | apply below_drew1) | exact HB.out)) hb); clear HB; have HB := n0_; clear n0_; (try clear hb); (try clear hb2); (try clear hk); (try clear hi)))
                        go_ret2
                        exact ⟨by first | rfl | (simp [errW_none, errW_some] <;> rfl) | (simp only [← hji14]; first | rfl | (simp [errW_none, errW_some] <;> rfl)) | (simp [*, errW_none, errW_some] <;> rfl), by repeat (first | (with_reducible first | exact HB.out | apply below_alloc | apply pw_below_drewN | apply below_drew1) | exact HB.out)⟩
                      · replace c29 := Bool.eq_false_iff.mpr c29
                        subst c29
                        have H1 : (some ((⟨#[]⟩ : ByteArray), 11)) = some (r1, r2) := by rw [if_neg (show ¬ (false = true) by decide)] at H; exact H
                        clear H
                        have H := H1
                        clear H1
                        simp only [Option.some.injEq, Prod.mk.injEq] at H
                        obtain ⟨rfl, rfl⟩ := H
                        go_wp2_with (first | ((with_reducible refine gate_callee (f := 16) rfl ?_); refine goesL_ (some 80) rfl rfl Tryd.func16 (by kernel_rfl) rfl #[.string ((a0.extract 0 ((ji14) : Int).toNat) ++ (⟨#[48]⟩ : ByteArray))] rfl (by (try simp only [List.map_toArray, List.map_cons, List.map_nil]); first | done | (simp only [hji14]; rfl) | rfl | (simp only [List.length_drop, List.length_take]; rfl)) ?_; (with_reducible refine (packhorseref01_Right.calls k2 ((a0.extract 0 ((ji14) : Int).toNat) ++ (⟨#[48]⟩ : ByteArray)) false _ A28.out).mono ?_); rintro e w31 ⟨rfl, hb⟩; refine ⟨_, rfl, ?_⟩; have n0_ := Aside0.mk (below_step (by repeat (first | (with_reducible first | exact HB.out | apply below_alloc | apply pw_below_drewN | apply below_drew1) | exact HB.out)) hb); clear HB; have HB := n0_; clear n0_; (try clear hb); (try clear hb2); (try clear hk); (try clear hi)))
                        go_ret2
                        exact ⟨by first | rfl | (simp [errW_none, errW_some] <;> rfl) | (simp only [← hji14]; first | rfl | (simp [errW_none, errW_some] <;> rfl)) | (simp [*, errW_none, errW_some] <;> rfl), by repeat (first | (with_reducible first | exact HB.out | apply below_alloc | apply pw_below_drewN | apply below_drew1) | exact HB.out)⟩
                    · rw [if_neg c27] at H
                      exact absurd H (by simp)
                  · rw [if_neg c26] at H
                    have c26b0 : (x4_3 == 0) = false := beq_eq_false_iff_ne.mpr c26
                    have c26b1 : (x4_3 != 0) = true := bne_iff_ne.mpr c26
                    by_cases c32 : x7_2 = 1
                    · rw [if_pos c32] at H
                      have c32b0 : (x7_2 == 1) = true := beq_iff_eq.mpr c32
                      have c32b1 : (x7_2 != 1) = false := bne_eq_false_iff_eq.mpr c32
                      clear c32
                      by_cases c33 : 1 + x6_2.size ≤ 9223372036854775807
                      · rw [if_pos c33] at H
                        have c33b0 := eq_true c33
                        have c33b1 : decide (1 + x6_2.size ≤ 9223372036854775807) = true := decide_eq_true c33
                        try have c33b2 : (9223372036854775807 < 1 + x6_2.size) = False := eq_false (Nat.not_lt.2 c33)
                        by_cases c34 : (a0.extract 0 ((ji14) : Int).toNat).size + ((⟨#[49]⟩ : ByteArray) ++ x6_2).size ≤ 9223372036854775807
                        · rw [if_pos c34] at H
                          have c34b0 := eq_true c34
                          have c34b1 : decide ((a0.extract 0 ((ji14) : Int).toNat).size + ((⟨#[49]⟩ : ByteArray) ++ x6_2).size ≤ 9223372036854775807) = true := decide_eq_true c34
                          try have c34b2 : (9223372036854775807 < (a0.extract 0 ((ji14) : Int).toNat).size + ((⟨#[49]⟩ : ByteArray) ++ x6_2).size) = False := eq_false (Nat.not_lt.2 c34)
                          try have c34b4 : (9223372036854775807 < (a0.extract 0 ((ji14) : Int).toNat).size + (1 + x6_2.size)) = False := eq_false (by have h_ := c34; simp only [decide_eq_true_eq, eq_iff_iff, iff_true, ByteArray.size_append, ByteArray.size_extract, szlit, List.size_toArray, List.length_cons, List.length_nil] at *; first | omega | (obtain ⟨j_, hj_⟩ : ∃ j_ : Int, j_ = 0 := ⟨_, rfl⟩; rw [← hj_] at *; have w_ : wrap64 (j_ + 1) = j_ + 1 := (by unfold wrap64; omega); rw [w_] at h_; omega))
                          try have c34b5 : (9223372036854775807 < min ji14.toNat a0.size + (1 + x6_2.size)) = False := eq_false (by have h_ := c34; simp only [decide_eq_true_eq, eq_iff_iff, iff_true, ByteArray.size_append, ByteArray.size_extract, szlit, List.size_toArray, List.length_cons, List.length_nil] at *; first | omega | (obtain ⟨j_, hj_⟩ : ∃ j_ : Int, j_ = 0 := ⟨_, rfl⟩; rw [← hj_] at *; have w_ : wrap64 (j_ + 1) = j_ + 1 := (by unfold wrap64; omega); rw [w_] at h_; omega))
                          try have c34b6 : (9223372036854775807 < ji14.toNat + (1 + x6_2.size)) = False := eq_false (by have h_ := c34; simp only [decide_eq_true_eq, eq_iff_iff, iff_true, ByteArray.size_append, ByteArray.size_extract, szlit, List.size_toArray, List.length_cons, List.length_nil] at *; first | omega | (obtain ⟨j_, hj_⟩ : ∃ j_ : Int, j_ = 0 := ⟨_, rfl⟩; rw [← hj_] at *; have w_ : wrap64 (j_ + 1) = j_ + 1 := (by unfold wrap64; omega); rw [w_] at h_; omega))
                          replace H := Option.bind_eq_some_iff.mp H
                          obtain ⟨t143, A350, H⟩ := H
                          replace H : (if t143 = true then (some ((a0.extract 0 ((ji14) : Int).toNat) ++ ((⟨#[49]⟩ : ByteArray) ++ x6_2), 0)) else (some ((⟨#[]⟩ : ByteArray), 11))) = some (r1, r2) := H
                          have A35 := Aside0.mk A350
                          clear A350
                          by_cases c36 : t143 = true
                          · subst c36
                            have H1 : (some ((a0.extract 0 ((ji14) : Int).toNat) ++ ((⟨#[49]⟩ : ByteArray) ++ x6_2), 0)) = some (r1, r2) := by rw [if_pos rfl] at H; exact H
                            clear H
                            have H := H1
                            clear H1
                            simp only [Option.some.injEq, Prod.mk.injEq] at H
                            obtain ⟨rfl, rfl⟩ := H
                            go_wp2_with (first | ((with_reducible refine gate_callee (f := 16) rfl ?_); refine goesL_ (some 80) rfl rfl Tryd.func16 (by kernel_rfl) rfl #[.string ((a0.extract 0 ((ji14) : Int).toNat) ++ ((⟨#[49]⟩ : ByteArray) ++ x6_2))] rfl (by (try simp only [List.map_toArray, List.map_cons, List.map_nil]); first | done | (simp only [hji14]; rfl) | rfl | (simp only [List.length_drop, List.length_take]; rfl)) ?_; (with_reducible refine (packhorseref01_Right.calls k2 ((a0.extract 0 ((ji14) : Int).toNat) ++ ((⟨#[49]⟩ : ByteArray) ++ x6_2)) true _ A35.out).mono ?_); rintro e w37 ⟨rfl, hb⟩; refine ⟨_, rfl, ?_⟩; have n0_ := Aside0.mk (below_step (by repeat (first | (with_reducible first | exact HB.out | apply below_alloc | apply pw_below_drewN | apply below_drew1) | exact HB.out)) hb); clear HB; have HB := n0_; clear n0_; (try clear hb); (try clear hb2); (try clear hk); (try clear hi)))
                            go_ret2
                            exact ⟨by first | rfl | (simp [errW_none, errW_some] <;> rfl) | (simp only [← hji14]; first | rfl | (simp [errW_none, errW_some] <;> rfl)) | (simp [*, errW_none, errW_some] <;> rfl), by repeat (first | (with_reducible first | exact HB.out | apply below_alloc | apply pw_below_drewN | apply below_drew1) | exact HB.out)⟩
                          · replace c36 := Bool.eq_false_iff.mpr c36
                            subst c36
                            have H1 : (some ((⟨#[]⟩ : ByteArray), 11)) = some (r1, r2) := by rw [if_neg (show ¬ (false = true) by decide)] at H; exact H
                            clear H
                            have H := H1
                            clear H1
                            simp only [Option.some.injEq, Prod.mk.injEq] at H
                            obtain ⟨rfl, rfl⟩ := H
                            go_wp2_with (first | ((with_reducible refine gate_callee (f := 16) rfl ?_); refine goesL_ (some 80) rfl rfl Tryd.func16 (by kernel_rfl) rfl #[.string ((a0.extract 0 ((ji14) : Int).toNat) ++ ((⟨#[49]⟩ : ByteArray) ++ x6_2))] rfl (by (try simp only [List.map_toArray, List.map_cons, List.map_nil]); first | done | (simp only [hji14]; rfl) | rfl | (simp only [List.length_drop, List.length_take]; rfl)) ?_; (with_reducible refine (packhorseref01_Right.calls k2 ((a0.extract 0 ((ji14) : Int).toNat) ++ ((⟨#[49]⟩ : ByteArray) ++ x6_2)) false _ A35.out).mono ?_); rintro e w38 ⟨rfl, hb⟩; refine ⟨_, rfl, ?_⟩; have n0_ := Aside0.mk (below_step (by repeat (first | (with_reducible first | exact HB.out | apply below_alloc | apply pw_below_drewN | apply below_drew1) | exact HB.out)) hb); clear HB; have HB := n0_; clear n0_; (try clear hb); (try clear hb2); (try clear hk); (try clear hi)))
                            go_ret2
                            exact ⟨by first | rfl | (simp [errW_none, errW_some] <;> rfl) | (simp only [← hji14]; first | rfl | (simp [errW_none, errW_some] <;> rfl)) | (simp [*, errW_none, errW_some] <;> rfl), by repeat (first | (with_reducible first | exact HB.out | apply below_alloc | apply pw_below_drewN | apply below_drew1) | exact HB.out)⟩
                        · rw [if_neg c34] at H
                          exact absurd H (by simp)
                      · rw [if_neg c33] at H
                        exact absurd H (by simp)
                    · rw [if_neg c32] at H
                      have c32b0 : (x7_2 == 1) = false := beq_eq_false_iff_ne.mpr c32
                      have c32b1 : (x7_2 != 1) = true := bne_iff_ne.mpr c32
                      by_cases c39 : (a0.extract 0 ((ji14) : Int).toNat).size + x6_2.size ≤ 9223372036854775807
                      · rw [if_pos c39] at H
                        have c39b0 := eq_true c39
                        have c39b1 : decide ((a0.extract 0 ((ji14) : Int).toNat).size + x6_2.size ≤ 9223372036854775807) = true := decide_eq_true c39
                        try have c39b2 : (9223372036854775807 < (a0.extract 0 ((ji14) : Int).toNat).size + x6_2.size) = False := eq_false (Nat.not_lt.2 c39)
                        try have c39b4 : (9223372036854775807 < min ji14.toNat a0.size + x6_2.size) = False := eq_false (by have h_ := c39; simp only [decide_eq_true_eq, eq_iff_iff, iff_true, ByteArray.size_append, ByteArray.size_extract, szlit, List.size_toArray, List.length_cons, List.length_nil] at *; first | omega | (obtain ⟨j_, hj_⟩ : ∃ j_ : Int, j_ = 0 := ⟨_, rfl⟩; rw [← hj_] at *; have w_ : wrap64 (j_ + 1) = j_ + 1 := (by unfold wrap64; omega); rw [w_] at h_; omega))
                        try have c39b5 : (9223372036854775807 < ji14.toNat + x6_2.size) = False := eq_false (by have h_ := c39; simp only [decide_eq_true_eq, eq_iff_iff, iff_true, ByteArray.size_append, ByteArray.size_extract, szlit, List.size_toArray, List.length_cons, List.length_nil] at *; first | omega | (obtain ⟨j_, hj_⟩ : ∃ j_ : Int, j_ = 0 := ⟨_, rfl⟩; rw [← hj_] at *; have w_ : wrap64 (j_ + 1) = j_ + 1 := (by unfold wrap64; omega); rw [w_] at h_; omega))
                        replace H := Option.bind_eq_some_iff.mp H
                        obtain ⟨t144, A400, H⟩ := H
                        replace H : (if t144 = true then (some ((a0.extract 0 ((ji14) : Int).toNat) ++ x6_2, 0)) else (some ((⟨#[]⟩ : ByteArray), 11))) = some (r1, r2) := H
                        have A40 := Aside0.mk A400
                        clear A400
                        by_cases c41 : t144 = true
                        · subst c41
                          have H1 : (some ((a0.extract 0 ((ji14) : Int).toNat) ++ x6_2, 0)) = some (r1, r2) := by rw [if_pos rfl] at H; exact H
                          clear H
                          have H := H1
                          clear H1
                          simp only [Option.some.injEq, Prod.mk.injEq] at H
                          obtain ⟨rfl, rfl⟩ := H
                          go_wp2_with (first | ((with_reducible refine gate_callee (f := 16) rfl ?_); refine goesL_ (some 80) rfl rfl Tryd.func16 (by kernel_rfl) rfl #[.string ((a0.extract 0 ((ji14) : Int).toNat) ++ x6_2)] rfl (by (try simp only [List.map_toArray, List.map_cons, List.map_nil]); first | done | (simp only [hji14]; rfl) | rfl | (simp only [List.length_drop, List.length_take]; rfl)) ?_; (with_reducible refine (packhorseref01_Right.calls k2 ((a0.extract 0 ((ji14) : Int).toNat) ++ x6_2) true _ A40.out).mono ?_); rintro e w42 ⟨rfl, hb⟩; refine ⟨_, rfl, ?_⟩; have n0_ := Aside0.mk (below_step (by repeat (first | (with_reducible first | exact HB.out | apply below_alloc | apply pw_below_drewN | apply below_drew1) | exact HB.out)) hb); clear HB; have HB := n0_; clear n0_; (try clear hb); (try clear hb2); (try clear hk); (try clear hi)))
                          go_ret2
                          exact ⟨by first | rfl | (simp [errW_none, errW_some] <;> rfl) | (simp only [← hji14]; first | rfl | (simp [errW_none, errW_some] <;> rfl)) | (simp [*, errW_none, errW_some] <;> rfl), by repeat (first | (with_reducible first | exact HB.out | apply below_alloc | apply pw_below_drewN | apply below_drew1) | exact HB.out)⟩
                        · replace c41 := Bool.eq_false_iff.mpr c41
                          subst c41
                          have H1 : (some ((⟨#[]⟩ : ByteArray), 11)) = some (r1, r2) := by rw [if_neg (show ¬ (false = true) by decide)] at H; exact H
                          clear H
                          have H := H1
                          clear H1
                          simp only [Option.some.injEq, Prod.mk.injEq] at H
                          obtain ⟨rfl, rfl⟩ := H
                          go_wp2_with (first | ((with_reducible refine gate_callee (f := 16) rfl ?_); refine goesL_ (some 80) rfl rfl Tryd.func16 (by kernel_rfl) rfl #[.string ((a0.extract 0 ((ji14) : Int).toNat) ++ x6_2)] rfl (by (try simp only [List.map_toArray, List.map_cons, List.map_nil]); first | done | (simp only [hji14]; rfl) | rfl | (simp only [List.length_drop, List.length_take]; rfl)) ?_; (with_reducible refine (packhorseref01_Right.calls k2 ((a0.extract 0 ((ji14) : Int).toNat) ++ x6_2) false _ A40.out).mono ?_); rintro e w43 ⟨rfl, hb⟩; refine ⟨_, rfl, ?_⟩; have n0_ := Aside0.mk (below_step (by repeat (first | (with_reducible first | exact HB.out | apply below_alloc | apply pw_below_drewN | apply below_drew1) | exact HB.out)) hb); clear HB; have HB := n0_; clear n0_; (try clear hb); (try clear hb2); (try clear hk); (try clear hi)))
                          go_ret2
                          exact ⟨by first | rfl | (simp [errW_none, errW_some] <;> rfl) | (simp only [← hji14]; first | rfl | (simp [errW_none, errW_some] <;> rfl)) | (simp [*, errW_none, errW_some] <;> rfl), by repeat (first | (with_reducible first | exact HB.out | apply below_alloc | apply pw_below_drewN | apply below_drew1) | exact HB.out)⟩
                      · rw [if_neg c39] at H
                        exact absurd H (by simp)
          · rw [if_neg c16] at H
            exact absurd H (by simp)
        · rw [if_neg c15] at H
          exact absurd H (by simp)
  · replace c3 := Bool.eq_false_iff.mpr c3
    subst c3
    have H1 : (some ((⟨#[]⟩ : ByteArray), 11)) = some (r1, r2) := by rw [if_neg (show ¬ (false = true) by decide)] at H; exact H
    clear H
    have H := H1
    clear H1
    simp only [Option.some.injEq, Prod.mk.injEq] at H
    obtain ⟨rfl, rfl⟩ := H
    go_enter Tryd.func14, Tryd.ntmps14
    go_wp2_with (first | ((with_reducible refine gate_callee (f := 16) rfl ?_); refine goesL_ (some 11) rfl rfl Tryd.func16 (by kernel_rfl) rfl #[.string a0] rfl (by (try simp only [List.map_toArray, List.map_cons, List.map_nil]); first | done | rfl | (simp only [List.length_drop, List.length_take]; rfl)) ?_; (with_reducible refine (packhorseref01_Right.calls k a0 false _ A2.out).mono ?_); rintro e w44 ⟨rfl, hb⟩; refine ⟨_, rfl, ?_⟩; have n0_ := Aside0.mk (below_step (by repeat (first | (with_reducible first | exact HB.out | apply below_alloc | apply pw_below_drewN | apply below_drew1) | exact HB.out)) hb); clear HB; have HB := n0_; clear n0_; (try clear hb); (try clear hb2); (try clear hk); (try clear hi)))
    go_ret2
    exact ⟨by first | rfl | (simp [errW_none, errW_some] <;> rfl) | (simp [*, errW_none, errW_some] <;> rfl), by repeat (first | (with_reducible first | exact HB.out | apply below_alloc | apply pw_below_drewN | apply below_drew1) | exact HB.out)⟩

end Go.Proofs.YtdifpehainbkmaaDoor.PAll
