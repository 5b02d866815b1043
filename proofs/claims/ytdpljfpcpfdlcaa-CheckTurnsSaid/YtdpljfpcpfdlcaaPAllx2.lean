-- Made by a program of this session (wip/gen)
import Derived.Test.YtdpljfpcpfdlcaaPAllx0
import Derived.Test.YtdpljfpcpfdlcaaPAllx1
namespace Go.Proofs.Ytdpljfpcpfdlcaa.PAll
open Go.RowKit Go.Proofs.YtdpljfpcpfdlcaaW.PrintWords Go.Proofs.YtdpljfpcpfdlcaaW.PrintLast Go.Proofs.YtdpljfpcpfdlcaaW.PrintMore
attribute [local go_sem] max2_int min2_int max_two min_two max_three min_three max_four min_four   -- for this text's walks alone
set_option linter.unusedVariables false
set_option linter.unusedSimpArgs false

/-! ### packhorselaw05_checkAlive: function 9 -/
/-- A block of numbers, read as they stand. -/
theorem reads_cells (W : World) (g : Nat) (cs : Array Value) (t : TypeId) (fr : Nat × Nat) (hb : W.heap[g]? = some (.cells cs t fr)) (k : IntKind) (xs : List Int) (hcs : cs = (xs.map (Value.int k)).toArray) (hl : xs.length ≤ 9223372036854775807) :
    Kd.C (Kd.int k) W (some ⟨g, 0, none⟩) xs.length xs := by
  subst hcs
  refine ⟨rfl, hl, fun _ => ⟨_, rfl, fun j p hj => ⟨[.int k p], rfl, rfl, fun i u hu => ?_⟩⟩⟩
  cases i with
  | zero =>
    obtain rfl : Value.int k p = u := by simpa using hu
    rw [add_plain]
    show W.cell? ⟨g, j * 1 + 0, none⟩ = _
    rw [Nat.mul_one, Nat.add_zero, cell_of_row W g j _ t fr hb]
    simp [hj]
  | succ i => simp at hu
def packhorselaw05_checkAlive.f : Option (Bool) := some true
set_option maxHeartbeats 8000000 in
set_option maxRecDepth 100000 in
theorem packhorselaw05_checkAlive.calls (r : Bool) (w : World) (h : packhorselaw05_checkAlive.f = some r) (hr_ : r = true) :
    Calls Try.prog 9 #[] w fun e w' => e = .returned (.bool r) ∧ Below w.heap.size w w' := by
  clear hr_
  obtain rfl := Option.some.inj h
  have kc := fun (w : World) (C : Array Value) (n c : Nat) => Lib.run_convert_bytes_const (P := Try.prog) w 22 5 C n c Try.underlying22 Try.underlying5
  have ho := Aside0.mk (show check_Of.f 40 [[49, 50, 51, 52, 53, 54, 55, 56, 57]] = some 3808858755 by decide +kernel)
  go_enter Try.func9, Try.ntmps9
  go_wp2_with fail
  refine (check_Of.calls 40 _ _ [[49, 50, 51, 52, 53, 54, 55, 56, 57]] 3808858755 _ ?hr ?hc ho.out).mono ?_
  case hr =>
    refine ⟨rfl, by decide, fun _ => ⟨_, rfl, fun j p hj => ?_⟩⟩
    obtain ⟨rfl, rfl⟩ : j = 0 ∧ [49, 50, 51, 52, 53, 54, 55, 56, 57] = p := by
      cases j with
      | zero => exact ⟨rfl, by simpa using hj⟩
      | succ j => simp at hj
    refine ⟨[.slice (some ⟨w.heap.size, 0, none⟩) 9 9], rfl, ⟨some ⟨w.heap.size, 0, none⟩, 9, rfl, Nat.le_refl _, ?_⟩, fun i u hu => ?_⟩
    · exact reads_cells _ _ _ _ _ (blk_alloc (blk_new w _) _) .u8 [49, 50, 51, 52, 53, 54, 55, 56, 57] rfl (by decide)
    · cases i with
      | zero =>
        obtain rfl : Value.slice (some ⟨w.heap.size, 0, none⟩) 9 9 = u := by simpa using hu
        rw [add_plain]
        show World.cell? _ ⟨w.heap.size + 1, 0, none⟩ = _
        rw [World.cell?_alloc_at _ _ _ _ (by rw [World.size_alloc])]
        rfl
      | succ i => simp at hu
  case hc => exact Nat.le_refl _
  rintro e w' ⟨rfl, ⟨nd, rfl⟩⟩
  go_wp2
  go_ret
  refine ⟨by simp, ?_⟩
  exact pw_below_drewN (below_alloc (below_alloc (Below.refl _ _) _) _) _

/-! ### packhorseref05_step: function 16 -/
def packhorseref05_step.f (a0 : Int) : Option (Int) := if (Int.tmod a0 2) = 1 then (some (Go.bits .xor .u64 (IntKind.u64.wrap (Int.tdiv a0 2)) 2197175160)) else (some (IntKind.u64.wrap (Int.tdiv a0 2)))
set_option maxHeartbeats 8000000 in
set_option maxRecDepth 100000 in
theorem packhorseref05_step.calls (a0 : Int) (r : Int) (w : World) (h : packhorseref05_step.f a0 = some r) :
    Calls Try.prog 16 #[.int .u64 a0] w fun e w' => e = .returned (.int .u64 r) ∧ Drawn0 w w' := by
  have H : (if (Int.tmod a0 2) = 1 then (some (Go.bits .xor .u64 (IntKind.u64.wrap (Int.tdiv a0 2)) 2197175160)) else (some (IntKind.u64.wrap (Int.tdiv a0 2)))) = some r := h
  clear h
  by_cases c2 : (Int.tmod a0 2) = 1
  · rw [if_pos c2] at H
    have c2b0 : ((Int.tmod a0 2) == 1) = true := beq_iff_eq.mpr c2
    have c2b1 : ((Int.tmod a0 2) != 1) = false := bne_eq_false_iff_eq.mpr c2
    clear c2
    obtain rfl := Option.some.inj H
    simp only [Option.some.injEq, Prod.mk.injEq] at H
    obtain ⟨rfl⟩ := H
    go_enter Try.func16, Try.ntmps16
    go_wp2
    go_ret
    exact ⟨by first | rfl | (simp; done) | (simp [*]; done), by repeat (first | exact Drawn0.refl _ | apply Drawn0.step)⟩
  · rw [if_neg c2] at H
    have c2b0 : ((Int.tmod a0 2) == 1) = false := beq_eq_false_iff_ne.mpr c2
    have c2b1 : ((Int.tmod a0 2) != 1) = true := bne_iff_ne.mpr c2
    obtain rfl := Option.some.inj H
    simp only [Option.some.injEq, Prod.mk.injEq] at H
    obtain ⟨rfl⟩ := H
    go_enter Try.func16, Try.ntmps16
    go_wp2
    go_ret
    exact ⟨by first | rfl | (simp; done) | (simp [*]; done), by repeat (first | exact Drawn0.refl _ | apply Drawn0.step)⟩

/-! ### packhorseref05_Of: function 11 -/
mutual
def packhorseref05_Of.l0 : Nat → Int → List Int → Int → Int → Option (Int)
  | 0, _, _, _, _ => none
  | k + 1, x3, x7, x8, x9 => if x9 < x8 then (if 0 ≤ x9 then (if x9 < (x7.length : Int) then (packhorseref05_Of.l1 k (Go.bits .xor .u64 x3 (IntKind.u64.wrap (rd x7 x9))) 0 x7 x8 x9) else (none)) else (none)) else (some ((IntKind.u64.wrap (4294967295 - x3)) % 4294967296))
def packhorseref05_Of.l1 : Nat → Int → Int → List Int → Int → Int → Option (Int)
  | 0, _, _, _, _, _ => none
  | k + 1, x3, x6, x7, x8, x9 => if x6 < 8 then ((packhorseref05_step.f x3).bind fun t105 => (packhorseref05_Of.l1 k t105 (wrap64 (x6 + 1)) x7 x8 x9)) else (packhorseref05_Of.l0 k x3 x7 x8 (wrap64 (x9 + 1)))
end
def packhorseref05_Of.f (k : Nat) (l0 : List Int) : Option (Int) := packhorseref05_Of.l0 k 4294967295 l0 (l0.length : Int) 0
theorem packhorseref05_Of.mono_l : ∀ k, (∀ y0 y1 y2 y3, LeO (packhorseref05_Of.l0 k y0 y1 y2 y3) (packhorseref05_Of.l0 (k + 1) y0 y1 y2 y3)) ∧ (∀ y0 y1 y2 y3 y4, LeO (packhorseref05_Of.l1 k y0 y1 y2 y3 y4) (packhorseref05_Of.l1 (k + 1) y0 y1 y2 y3 y4))
  | 0 => ⟨fun _ _ _ _ r h => by simp [packhorseref05_Of.l0] at h, fun _ _ _ _ _ r h => by simp [packhorseref05_Of.l1] at h⟩
  | k + 1 => by
    obtain ⟨ih0, ih1⟩ := packhorseref05_Of.mono_l k
    refine ⟨?_, ?_⟩
    · intro y0 y1 y2 y3
      unfold packhorseref05_Of.l0
      repeat' first
      | (with_reducible exact ih0 _ _ _ _)
      | (with_reducible exact ih1 _ _ _ _ _)
      | (with_reducible exact LeO.refl _)
      | (with_reducible exact LeO.none _)
      | (with_reducible refine LeO.ite ?_ ?_)
      | (with_reducible refine LeO.bind ?_ (fun _ => ?_))
      | exact ih0 _ _ _ _
      | exact ih1 _ _ _ _ _
      | exact LeO.none _
      | refine LeO.ite ?_ ?_
      | refine LeO.bind ?_ (fun _ => ?_)
    · intro y0 y1 y2 y3 y4
      unfold packhorseref05_Of.l1
      repeat' first
      | (with_reducible exact ih0 _ _ _ _)
      | (with_reducible exact ih1 _ _ _ _ _)
      | (with_reducible exact LeO.refl _)
      | (with_reducible exact LeO.none _)
      | (with_reducible refine LeO.ite ?_ ?_)
      | (with_reducible refine LeO.bind ?_ (fun _ => ?_))
      | exact ih0 _ _ _ _
      | exact ih1 _ _ _ _ _
      | exact LeO.none _
      | refine LeO.ite ?_ ?_
      | refine LeO.bind ?_ (fun _ => ?_)
theorem packhorseref05_Of.mono : ∀ a0 k, LeO (packhorseref05_Of.f k a0) (packhorseref05_Of.f (k + 1) a0) := by
  intro a0 k
  obtain ⟨ih0, ih1⟩ := packhorseref05_Of.mono_l k
  unfold packhorseref05_Of.f
  repeat' first
      | (with_reducible exact ih0 _ _ _ _)
      | (with_reducible exact ih1 _ _ _ _ _)
      | (with_reducible exact LeO.refl _)
      | (with_reducible exact LeO.none _)
      | (with_reducible refine LeO.ite ?_ ?_)
      | (with_reducible refine LeO.bind ?_ (fun _ => ?_))
      | exact ih0 _ _ _ _
      | exact ih1 _ _ _ _ _
      | exact LeO.none _
      | refine LeO.ite ?_ ?_
      | refine LeO.bind ?_ (fun _ => ?_)
set_option maxHeartbeats 8000000 in
set_option maxRecDepth 100000 in
theorem packhorseref05_Of.calls (k : Nat) (A0 : Option Addr) (c0 : Nat) (l0 : List Int) (r : Int) (w : World) (hr0 : Kd.C (Kd.int .u8) w A0 l0.length l0) (hc0 : l0.length ≤ c0) (h : packhorseref05_Of.f k l0 = some r) :
    Calls Try.prog 11 #[.slice A0 l0.length c0] w fun e w' => e = .returned (.int .u32 r) ∧ Drawn0 w w' := by
  have HR0 := Aside0.mk hr0
  have HC0 := Aside0.mk hc0
  clear hr0 hc0
  have H : (packhorseref05_Of.l0 k 4294967295 l0 (l0.length : Int) 0) = some r := h
  clear h
  have H' := Aside0.mk H
  clear H
  go_enter Try.func11, Try.ntmps11
  go_wp2
  go_loopg [3, 9] k (fun kq v3 v9 w' => ∃ (x3_1 : Int) (x9_1 : Int), v3 = .int .u64 x3_1 ∧ v9 = .int .i64 x9_1 ∧ Aside0 (packhorseref05_Of.l0 kq x3_1 l0 (l0.length : Int) x9_1 = some r) ∧ Aside0 (kq ≤ k) ∧ Drawn0 w w')
  case atStart => exact ⟨(4294967295), (0), (by first | rfl | (simp; done) | (simp [*]; done)), (by first | rfl | (simp; done) | (simp [*]; done)), H', ⟨Nat.le_refl _⟩, by repeat (first | exact Drawn0.refl _ | apply Drawn0.step)⟩
  case round =>
    clear H'
    try clear c1
    obtain ⟨x3_1, x9_1, rfl, rfl, HA, HK1, ⟨m1, rfl⟩⟩ := hrel
    cases gk with
    | zero => exact absurd HA.out (by simp [packhorseref05_Of.l0])
    | succ k1 =>
      have H := HA.out
      clear HA
      simp only [packhorseref05_Of.l0] at H
      by_cases c2 : x9_1 < (l0.length : Int)
      · rw [if_pos c2] at H
        have c2b0 : decide (x9_1 < (l0.length : Int)) = true := decide_eq_true c2
        clear c2
        by_cases c3 : 0 ≤ x9_1
        · rw [if_pos c3] at H
          have c3b0 : decide (0 ≤ x9_1) = true := decide_eq_true c3
          clear c3
          by_cases c4 : x9_1 < (l0.length : Int)
          · rw [if_pos c4] at H
            have c4b0 : decide (x9_1 < (l0.length : Int)) = true := decide_eq_true c4
            clear c4
            have H' := Aside0.mk H
            clear H
            have p104 : 0 ≤ (x9_1 : Int) := of_decide_eq_true (by first | (with_reducible assumption) | assumption)
            have q104 : x9_1 < (l0.length : Int) := of_decide_eq_true (by first | (with_reducible assumption) | assumption)
            obtain ⟨ad104, e104, hx104_0⟩ := Kd.at_int HR0.out x9_1 p104 q104
            cases e104
            replace p104 := eq_true p104
            replace q104 := eq_true q104
            go_wp2
            go_loopg [3, 6] k1 (fun kq v3 v6 w' => ∃ (x3_2 : Int) (x6_2 : Int), v3 = .int .u64 x3_2 ∧ v6 = .int .i64 x6_2 ∧ Aside0 (packhorseref05_Of.l1 kq x3_2 x6_2 l0 (l0.length : Int) x9_1 = some r) ∧ Aside0 (kq ≤ k1) ∧ Drawn0 w w')
            case atStart => exact ⟨(Go.bits .xor .u64 x3_1 (IntKind.u64.wrap (rd l0 x9_1))), (0), (by first | rfl | (simp; done) | (simp [*]; done)), (by first | rfl | (simp; done) | (simp [*]; done)), H', ⟨Nat.le_refl _⟩, by repeat (first | exact Drawn0.refl _ | apply Drawn0.step)⟩
            case round =>
              clear H'
              try clear c1
              try clear p1
              try clear q1
              try clear hx1
              try clear c2
              try clear c2b0
              try clear p2
              try clear c3
              try clear c3b0
              try clear c4
              try clear c4b0
              try clear hx104_0
              try clear p104
              try clear q104
              obtain ⟨x3_2, x6_2, rfl, rfl, HA, HK2, ⟨m2, rfl⟩⟩ := hrel
              cases gk with
              | zero => exact absurd HA.out (by simp [packhorseref05_Of.l1])
              | succ k2 =>
                have H := HA.out
                clear HA
                simp only [packhorseref05_Of.l1] at H
                by_cases c5 : x6_2 < 8
                · rw [if_pos c5] at H
                  have c5b0 : decide (x6_2 < 8) = true := decide_eq_true c5
                  clear c5
                  replace H := Option.bind_eq_some_iff.mp H
                  obtain ⟨t105, A60, H⟩ := H
                  replace H : (packhorseref05_Of.l1 k2 t105 (wrap64 (x6_2 + 1)) l0 (l0.length : Int) x9_1) = some r := H
                  have A6 := Aside0.mk A60
                  clear A60
                  have H' := Aside0.mk H
                  clear H
                  go_wp2_with (first | ((with_reducible refine gate_callee (f := 16) rfl ?_); refine goesL_ (some 22) rfl rfl Try.func16 (by kernel_rfl) rfl #[.int .u64 x3_2] rfl (by (try simp only [List.map_toArray, List.map_cons, List.map_nil]); first | done | rfl | (simp only [List.length_drop, List.length_take]; rfl)) ?_; (with_reducible refine (packhorseref05_step.calls x3_2 t105 _ A6.out).mono ?_); rintro e w' ⟨rfl, ⟨nd, rfl⟩⟩; refine ⟨_, rfl, ?_⟩))
                  go_roundg k2
                  case measure => have := HK1.out; have := HK2.out; omega
                  case rel => exact ⟨(t105), (wrap64 (x6_2 + 1)), (by first | rfl | (simp; done) | (simp [*]; done)), (by first | rfl | (simp; done) | (simp [*]; done)), H', ⟨by have := HK1.out; have := HK2.out; omega⟩, by repeat (first | exact Drawn0.refl _ | apply Drawn0.step)⟩
                · rw [if_neg c5] at H
                  have c5b0 : decide (x6_2 < 8) = false := decide_eq_false c5
                  clear c5
                  have H' := Aside0.mk H
                  clear H
                  go_wp2
                  go_roundg k2
                  case measure => have := HK1.out; have := HK2.out; omega
                  case rel => exact ⟨(x3_2), (wrap64 (x9_1 + 1)), (by first | rfl | (simp; done) | (simp [*]; done)), (by first | rfl | (simp; done) | (simp [*]; done)), H', ⟨by have := HK1.out; have := HK2.out; omega⟩, by repeat (first | exact Drawn0.refl _ | apply Drawn0.step)⟩
          · rw [if_neg c4] at H
            exact absurd H (by simp)
        · rw [if_neg c3] at H
          exact absurd H (by simp)
      · rw [if_neg c2] at H
        have c2b0 : decide (x9_1 < (l0.length : Int)) = false := decide_eq_false c2
        clear c2
        obtain rfl := Option.some.inj H
        simp only [Option.some.injEq, Prod.mk.injEq] at H
        obtain ⟨rfl⟩ := H
        go_wp2
        go_ret
        exact ⟨by first | rfl | (simp; done) | (simp [*]; done), by repeat (first | exact Drawn0.refl _ | apply Drawn0.step)⟩

end Go.Proofs.Ytdpljfpcpfdlcaa.PAll
