
import Derived.Test.YtdfnpjmebnlfbaaQHalvesBoundPAllx0
import Derived.Test.YtdfnpjmebnlfbaaQHalvesBoundPAllx6
namespace Go.Proofs.YtdfnpjmebnlfbaaW.PrintMore
end Go.Proofs.YtdfnpjmebnlfbaaW.PrintMore
namespace Go.Proofs.Ytdfnpjmebnlfbaa.PAll
open Go.RowKit Go.Proofs.YtdfnpjmebnlfbaaW.PrintWords Go.Proofs.YtdfnpjmebnlfbaaW.PrintLast Go.Proofs.YtdfnpjmebnlfbaaW.PrintMore
set_option linter.unusedVariables false
set_option linter.unusedSimpArgs false
def halves_Bound.f (k : Nat) (a0 : Int) (a1 : Int) : Option (Int) := if a0 < 1 then (some 0) else (if a1 < 0 then (some 0) else (if a1 > a0 then (some 0) else ((bits_Len.f k (IntKind.u64.wrap (wrap64 (a0 - 1)))).bind fun t160 => (some (wrap64 ((wrap64 ((wrap64 (2 * a1)) * (wrap64 (t160 + 1)))) + 1))))))
set_option maxHeartbeats 8000000 in
set_option maxRecDepth 100000 in
theorem halves_Bound.calls (k : Nat) (a0 : Int) (a1 : Int) (r : Int) (w : World) (h : halves_Bound.f k a0 a1 = some r) :
    Calls Try.prog 21 #[.int .i64 a0, .int .i64 a1] w fun e w' => e = .returned (.int .i64 r) ∧ Drawn0 w w' := by
  have H : (if a0 < 1 then (some 0) else (if a1 < 0 then (some 0) else (if a1 > a0 then (some 0) else ((bits_Len.f k (IntKind.u64.wrap (wrap64 (a0 - 1)))).bind fun t160 => (some (wrap64 ((wrap64 ((wrap64 (2 * a1)) * (wrap64 (t160 + 1)))) + 1))))))) = some r := h
  clear h
  by_cases c3 : a0 < 1
  · rw [if_pos c3] at H
    have c3b0 : decide (a0 < 1) = true := decide_eq_true c3
    clear c3
    obtain rfl := Option.some.inj H
    simp only [Option.some.injEq, Prod.mk.injEq] at H
    obtain ⟨rfl⟩ := H
    go_enter Try.func21, Try.ntmps21
    go_wp2
    go_ret
    exact ⟨by first | rfl | (simp; done) | (simp [*]; done), by repeat (first | exact Drawn0.refl _ | apply Drawn0.step)⟩
  · rw [if_neg c3] at H
    have c3b0 : decide (a0 < 1) = false := decide_eq_false c3
    clear c3
    by_cases c4 : a1 < 0
    · rw [if_pos c4] at H
      have c4b0 : decide (a1 < 0) = true := decide_eq_true c4
      clear c4
      obtain rfl := Option.some.inj H
      simp only [Option.some.injEq, Prod.mk.injEq] at H
      obtain ⟨rfl⟩ := H
      go_enter Try.func21, Try.ntmps21
      go_wp2
      go_ret
      exact ⟨by first | rfl | (simp; done) | (simp [*]; done), by repeat (first | exact Drawn0.refl _ | apply Drawn0.step)⟩
    · rw [if_neg c4] at H
      have c4b0 : decide (a1 < 0) = false := decide_eq_false c4
      clear c4
      by_cases c5 : a1 > a0
      · rw [if_pos c5] at H
        have c5b0 : decide (a0 < a1) = true := decide_eq_true c5
        clear c5
        obtain rfl := Option.some.inj H
        simp only [Option.some.injEq, Prod.mk.injEq] at H
        obtain ⟨rfl⟩ := H
        go_enter Try.func21, Try.ntmps21
        go_wp2
        go_ret
        exact ⟨by first | rfl | (simp; done) | (simp [*]; done), by repeat (first | exact Drawn0.refl _ | apply Drawn0.step)⟩
      · rw [if_neg c5] at H
        have c5b0 : decide (a0 < a1) = false := decide_eq_false c5
        clear c5
        replace H := Option.bind_eq_some_iff.mp H
        obtain ⟨t160, A60, H⟩ := H
        replace H : (some (wrap64 ((wrap64 ((wrap64 (2 * a1)) * (wrap64 (t160 + 1)))) + 1))) = some r := H
        have A6 := Aside0.mk A60
        clear A60
        obtain rfl := Option.some.inj H
        simp only [Option.some.injEq, Prod.mk.injEq] at H
        obtain ⟨rfl⟩ := H
        go_enter Try.func21, Try.ntmps21
        go_wp2_with (first | ((with_reducible refine gate_callee (f := 24) rfl ?_); refine goesL_ (some 21) rfl rfl Try.func24 (by kernel_rfl) rfl #[.int .u64 (IntKind.u64.wrap (wrap64 (a0 - 1)))] rfl (by (try simp only [List.map_toArray, List.map_cons, List.map_nil]); first | done | rfl | (simp only [List.length_drop, List.length_take]; rfl)) ?_; (with_reducible refine (bits_Len.calls k (IntKind.u64.wrap (wrap64 (a0 - 1))) t160 _ A6.out).mono ?_); rintro e w' ⟨rfl, ⟨nd, rfl⟩⟩; refine ⟨_, rfl, ?_⟩))
        go_ret
        exact ⟨by first | rfl | (simp; done) | (simp [*]; done), by repeat (first | exact Drawn0.refl _ | apply Drawn0.step)⟩
mutual
def packhorseref12_Bound.j0 : Nat → Int → Int → Bool → Option (Int)
  | 0, _, _, _ => none
  | k + 1, x0, x1, x17 => if x17 = true then (some 0) else (packhorseref12_Bound.l0 k x0 x1 0 1)
def packhorseref12_Bound.l0 : Nat → Int → Int → Int → Int → Option (Int)
  | 0, _, _, _, _ => none
  | k + 1, x0, x1, x5, x6 => if x6 < x0 then (packhorseref12_Bound.l0 k x0 x1 (wrap64 (x5 + 1)) (wrap64 (2 * x6))) else (some (wrap64 ((wrap64 ((wrap64 (2 * x1)) * (wrap64 (x5 + 1)))) + 1)))
end
def packhorseref12_Bound.f (k : Nat) (a0 : Int) (a1 : Int) : Option (Int) := if a0 < 1 then (packhorseref12_Bound.j0 k a0 a1 true) else (if a1 < 0 then (packhorseref12_Bound.j0 k a0 a1 true) else (packhorseref12_Bound.j0 k a0 a1 (decide (a1 > a0))))
set_option maxHeartbeats 8000000 in
set_option maxRecDepth 100000 in
theorem packhorseref12_Bound.calls (k : Nat) (a0 : Int) (a1 : Int) (r : Int) (w : World) (h : packhorseref12_Bound.f k a0 a1 = some r) :
    Calls Try.prog 22 #[.int .i64 a0, .int .i64 a1] w fun e w' => e = .returned (.int .i64 r) ∧ Drawn0 w w' := by
  have H : (if a0 < 1 then (packhorseref12_Bound.j0 k a0 a1 true) else (if a1 < 0 then (packhorseref12_Bound.j0 k a0 a1 true) else (packhorseref12_Bound.j0 k a0 a1 (decide (a1 > a0))))) = some r := h
  clear h
  have HC3 := Aside0.mk H
  clear H
  go_enter Try.func22, Try.ntmps22
  go_upto_region 1 with (fail)
  go_cut [17] (fun v17 wc => ∃ (kq : Nat) (x17_2 : Bool), v17 = .bool x17_2 ∧ Aside0 (packhorseref12_Bound.j0 kq a0 a1 x17_2 = some r) ∧ Aside0 (kq ≤ k) ∧ Drawn0 w wc)
  case first =>
    have H := HC3.out
    clear HC3
    by_cases c4 : a0 < 1
    · rw [if_pos c4] at H
      have c4b0 : decide (a0 < 1) = true := decide_eq_true c4
      clear c4
      (first | rw [c4b0] | (simp only [i64_w, i32_w]; rw [c4b0]) | skip)
      have H' := Aside0.mk H
      clear H
      go_wp2
      go_meet
      case rel => exact ⟨_, (true), (by first | rfl | (simp; done) | (simp [*]; done)), H', ⟨by first | omega | exact Nat.le_refl _⟩, by repeat (first | exact Drawn0.refl _ | apply Drawn0.step)⟩
    · rw [if_neg c4] at H
      have c4b0 : decide (a0 < 1) = false := decide_eq_false c4
      clear c4
      (first | rw [c4b0] | (simp only [i64_w, i32_w]; rw [c4b0]) | skip)
      by_cases c5 : a1 < 0
      · rw [if_pos c5] at H
        have c5b0 : decide (a1 < 0) = true := decide_eq_true c5
        clear c5
        have H' := Aside0.mk H
        clear H
        go_wp2
        go_meet
        case rel => exact ⟨_, (true), (by first | rfl | (simp; done) | (simp [*]; done)), H', ⟨by first | omega | exact Nat.le_refl _⟩, by repeat (first | exact Drawn0.refl _ | apply Drawn0.step)⟩
      · rw [if_neg c5] at H
        have c5b0 : decide (a1 < 0) = false := decide_eq_false c5
        clear c5
        have H' := Aside0.mk H
        clear H
        go_wp2
        go_meet
        case rel => exact ⟨_, (decide (a1 > a0)), (by first | rfl | (simp; done) | (simp [*]; done)), H', ⟨by first | omega | exact Nat.le_refl _⟩, by repeat (first | exact Drawn0.refl _ | apply Drawn0.step)⟩
  case rest =>
    clear HC3
    try clear c2
    try clear p2
    try clear c4
    try clear c4b0
    try clear c5
    try clear c5b0
    obtain ⟨kq, x17_2, rfl, HA, HJ2, ⟨mc2, rfl⟩⟩ := hcut
    cases kq with
    | zero => exact absurd HA.out (by simp [packhorseref12_Bound.j0])
    | succ kj2 =>
      have H := HA.out
      clear HA
      simp only [packhorseref12_Bound.j0] at H
      by_cases c6 : x17_2 = true
      · subst c6
        have H1 : (some 0) = some r := by rw [if_pos rfl] at H; exact H
        clear H
        have H := H1
        clear H1
        obtain rfl := Option.some.inj H
        simp only [Option.some.injEq, Prod.mk.injEq] at H
        obtain ⟨rfl⟩ := H
        go_wp2
        go_ret
        exact ⟨by first | rfl | (simp; done) | (simp [*]; done), by repeat (first | exact Drawn0.refl _ | apply Drawn0.step)⟩
      · replace c6 := Bool.eq_false_iff.mpr c6
        subst c6
        have H1 : (packhorseref12_Bound.l0 kj2 a0 a1 0 1) = some r := by rw [if_neg (show ¬ (false = true) by decide)] at H; exact H
        clear H
        have H := H1
        clear H1
        have H' := Aside0.mk H
        clear H
        go_wp2
        go_loopg [5, 6] kj2 (fun kq v5 v6 w' => ∃ (x5_2 : Int) (x6_2 : Int), v5 = .int .i64 x5_2 ∧ v6 = .int .i64 x6_2 ∧ Aside0 (packhorseref12_Bound.l0 kq a0 a1 x5_2 x6_2 = some r) ∧ Aside0 (kq ≤ kj2) ∧ Drawn0 w w')
        case atStart => exact ⟨(0), (1), (by first | rfl | (simp; done) | (simp [*]; done)), (by first | rfl | (simp; done) | (simp [*]; done)), H', ⟨Nat.le_refl _⟩, by repeat (first | exact Drawn0.refl _ | apply Drawn0.step)⟩
        case round =>
          clear H'
          try clear c2
          try clear p2
          try clear c4
          try clear c4b0
          try clear c5
          try clear c5b0
          try clear c6
          try clear p2
          obtain ⟨x5_2, x6_2, rfl, rfl, HA, HK2, ⟨m2, rfl⟩⟩ := hrel
          cases gk with
          | zero => exact absurd HA.out (by simp [packhorseref12_Bound.l0])
          | succ k2 =>
            have H := HA.out
            clear HA
            simp only [packhorseref12_Bound.l0] at H
            by_cases c7 : x6_2 < a0
            · rw [if_pos c7] at H
              have c7b0 : decide (x6_2 < a0) = true := decide_eq_true c7
              clear c7
              have H' := Aside0.mk H
              clear H
              go_wp2
              go_roundg k2
              case measure => have := HJ2.out; have := HK2.out; omega
              case rel => exact ⟨(wrap64 (x5_2 + 1)), (wrap64 (2 * x6_2)), (by first | rfl | (simp; done) | (simp [*]; done)), (by first | rfl | (simp; done) | (simp [*]; done)), H', ⟨by have := HJ2.out; have := HK2.out; omega⟩, by repeat (first | exact Drawn0.refl _ | apply Drawn0.step)⟩
            · rw [if_neg c7] at H
              have c7b0 : decide (x6_2 < a0) = false := decide_eq_false c7
              clear c7
              obtain rfl := Option.some.inj H
              simp only [Option.some.injEq, Prod.mk.injEq] at H
              obtain ⟨rfl⟩ := H
              go_wp2
              go_ret
              exact ⟨by first | rfl | (simp; done) | (simp [*]; done), by repeat (first | exact Drawn0.refl _ | apply Drawn0.step)⟩
end Go.Proofs.Ytdfnpjmebnlfbaa.PAll
