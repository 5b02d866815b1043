-- Made by a program of this session (wip/gen)
import Derived.Test.YtdpljfpcpfdlcaaPAllx0
import Derived.Test.YtdpljfpcpfdlcaaPAllx1
import Derived.Test.YtdpljfpcpfdlcaaPAllx2
import Derived.Test.YtdpljfpcpfdlcaaPAllx6
namespace Go.Proofs.Ytdpljfpcpfdlcaa.PAll
open Go.RowKit Go.Proofs.YtdpljfpcpfdlcaaW.PrintWords Go.Proofs.YtdpljfpcpfdlcaaW.PrintLast Go.Proofs.YtdpljfpcpfdlcaaW.PrintMore
attribute [local go_sem] max2_int min2_int max_two min_two max_three min_three max_four min_four   -- for this text's walks alone
set_option linter.unusedVariables false
set_option linter.unusedSimpArgs false

/-! ### check_Join: function 12 -/
def check_Join.f (a0 : Int) (a1 : Int) (a2 : Int) : Option (Int) := (check_on.f a0 a2).bind fun t169 => (some (Go.bits .xor .u32 t169 a1))
set_option maxHeartbeats 8000000 in
set_option maxRecDepth 100000 in
theorem check_Join.calls (a0 : Int) (a1 : Int) (a2 : Int) (r : Int) (w : World) (h : check_Join.f a0 a1 a2 = some r) :
    Calls Try.prog 12 #[.int .u32 a0, .int .u32 a1, .int .i64 a2] w fun e w' => e = .returned (.int .u32 r) ∧ Below w.heap.size w w' := by
  have HB := Aside0.mk (Below.refl w.heap.size w)
  have H : ((check_on.f a0 a2).bind fun t169 => (some (Go.bits .xor .u32 t169 a1))) = some r := h
  clear h
  replace H := Option.bind_eq_some_iff.mp H
  obtain ⟨t169, A40, H⟩ := H
  replace H : (some (Go.bits .xor .u32 t169 a1)) = some r := H
  have A4 := Aside0.mk A40
  clear A40
  obtain rfl := Option.some.inj H
  simp only [Option.some.injEq, Prod.mk.injEq] at H
  obtain ⟨rfl⟩ := H
  go_enter Try.func12, Try.ntmps12
  go_wp2_with (first | ((with_reducible refine gate_callee (f := 17) rfl ?_); refine goesL_ (some 9) rfl rfl Try.func17 (by kernel_rfl) rfl #[.int .u32 a0, .int .i64 a2] rfl (by (try simp only [List.map_toArray, List.map_cons, List.map_nil]); first | done | rfl | (simp only [List.length_drop, List.length_take]; rfl)) ?_; (with_reducible refine (check_on.calls a0 a2 t169 _ A4.out).mono ?_); rintro e w5 ⟨rfl, hb⟩; refine ⟨_, rfl, ?_⟩; have n0_ := Aside0.mk (below_step (by repeat (first | (with_reducible first | exact HB.out | apply below_alloc | apply pw_below_drewN | apply below_drew1) | exact HB.out)) hb); clear HB; have HB := n0_; clear n0_; (try clear hb); (try clear hb2); (try clear hk); (try clear hi)))
  go_ret
  exact ⟨by first | rfl | (simp [errW_none, errW_some] <;> rfl) | (simp [*, errW_none, errW_some] <;> rfl), by repeat (first | (with_reducible first | exact HB.out | apply below_alloc | apply pw_below_drewN | apply below_drew1) | exact HB.out)⟩

/-! ### packhorselaw05_CheckPieces: function 5 -/
def packhorselaw05_CheckPieces.j0 : Nat → List Int → List Int → List Int → Bool → Option (Bool)
  | 0, _, _, _, _ => none
  | k + 1, x0, x1, x2, x26 => if x26 = true then (some true) else ((check_Of.f k (([x0] : List (List Int)))).bind fun t174 => ((check_Of.f k (([x1] : List (List Int)))).bind fun t178 => ((check_Of.f k (([x2] : List (List Int)))).bind fun t182 => ((check_Join.f t174 t178 (x1.length : Int)).bind fun t183 => ((check_Join.f t183 t182 (x2.length : Int)).bind fun t184 => ((check_Join.f t178 t182 (x2.length : Int)).bind fun t185 => ((check_Join.f t174 t185 (wrap64 ((x1.length : Int) + (x2.length : Int)))).bind fun t186 => (if t184 = t186 then ((check_Of.f k (([x0, x1, x2] : List (List Int)))).bind fun t190 => (some (t184 == t190))) else (some false)))))))))
def packhorselaw05_CheckPieces.f (k : Nat) (l0 : List Int) (l1 : List Int) (l2 : List Int) : Option (Bool) := (packhorselaw05_checkAlive.f).bind fun t170 => (if t170 = true then (if (l0.length : Int) > 1000 then (packhorselaw05_CheckPieces.j0 k l0 l1 l2 true) else (if (l1.length : Int) > 1000 then (packhorselaw05_CheckPieces.j0 k l0 l1 l2 true) else (packhorselaw05_CheckPieces.j0 k l0 l1 l2 (decide ((l2.length : Int) > 1000))))) else (some false))
theorem packhorselaw05_CheckPieces.mono_l : ∀ k, (∀ y0 y1 y2 y3, LeO (packhorselaw05_CheckPieces.j0 k y0 y1 y2 y3) (packhorselaw05_CheckPieces.j0 (k + 1) y0 y1 y2 y3))
  | 0 => fun _ _ _ _ r h => by simp [packhorselaw05_CheckPieces.j0] at h
  | k + 1 => by
    have ih0 := packhorselaw05_CheckPieces.mono_l k
    · intro y0 y1 y2 y3
      unfold packhorselaw05_CheckPieces.j0
      repeat' first
      | (with_reducible exact ih0 _ _ _ _)
      | (with_reducible exact check_Of.mono _ _)
      | (with_reducible exact LeO.refl _)
      | (with_reducible exact LeO.none _)
      | (with_reducible refine LeO.ite ?_ ?_)
      | (with_reducible refine LeO.bind ?_ (fun _ => ?_))
      | exact ih0 _ _ _ _
      | exact check_Of.mono _ _
      | exact LeO.none _
      | refine LeO.ite ?_ ?_
      | refine LeO.bind ?_ (fun _ => ?_)
theorem packhorselaw05_CheckPieces.mono : ∀ a0 a1 a2 k, LeO (packhorselaw05_CheckPieces.f k a0 a1 a2) (packhorselaw05_CheckPieces.f (k + 1) a0 a1 a2) := by
  intro a0 a1 a2 k
  have ih0 := packhorselaw05_CheckPieces.mono_l k
  unfold packhorselaw05_CheckPieces.f
  repeat' first
      | (with_reducible exact ih0 _ _ _ _)
      | (with_reducible exact check_Of.mono _ _)
      | (with_reducible exact LeO.refl _)
      | (with_reducible exact LeO.none _)
      | (with_reducible refine LeO.ite ?_ ?_)
      | (with_reducible refine LeO.bind ?_ (fun _ => ?_))
      | exact ih0 _ _ _ _
      | exact check_Of.mono _ _
      | exact LeO.none _
      | refine LeO.ite ?_ ?_
      | refine LeO.bind ?_ (fun _ => ?_)
set_option maxHeartbeats 8000000 in
set_option maxRecDepth 100000 in
theorem packhorselaw05_CheckPieces.calls (k : Nat) (P0_ : Nat → Prop) (A0 : Option Addr) (c0 : Nat) (l0 : List Int) (P1_ : Nat → Prop) (A1 : Option Addr) (c1 : Nat) (l1 : List Int) (P2_ : Nat → Prop) (A2 : Option Addr) (c2 : Nat) (l2 : List Int) (r : Bool) (w : World) (hs0 : Kd.V (Kd.int .u8) 5 w w.heap.size (fun k_ => P0_ k_) (.slice A0 l0.length c0) l0) (hs1 : Kd.V (Kd.int .u8) 5 w w.heap.size (fun k_ => P1_ k_) (.slice A1 l1.length c1) l1) (hs2 : Kd.V (Kd.int .u8) 5 w w.heap.size (fun k_ => P2_ k_) (.slice A2 l2.length c2) l2) (h : packhorselaw05_CheckPieces.f k l0 l1 l2 = some r) (hr_ : r = true) :
    Calls Try.prog 5 #[.slice A0 l0.length c0, .slice A1 l1.length c1, .slice A2 l2.length c2] w fun e w' => e = .returned (.bool r) ∧ Below w.heap.size w w' := by
  have HO0 := Aside0.mk (show Kd.V (Kd.int .u8) 5 w w.heap.size (fun k_ => ((P0_ k_ ∨ P1_ k_ ∨ P2_ k_) ∨ w.heap.size ≤ k_)) (.slice A0 l0.length c0) l0 from Kd.V_mono hs0 (fun k_ hk => .inl (.inl hk)))
  have HO1 := Aside0.mk (show Kd.V (Kd.int .u8) 5 w w.heap.size (fun k_ => ((P0_ k_ ∨ P1_ k_ ∨ P2_ k_) ∨ w.heap.size ≤ k_)) (.slice A1 l1.length c1) l1 from Kd.V_mono hs1 (fun k_ hk => .inl (.inr (.inl hk))))
  have HO2 := Aside0.mk (show Kd.V (Kd.int .u8) 5 w w.heap.size (fun k_ => ((P0_ k_ ∨ P1_ k_ ∨ P2_ k_) ∨ w.heap.size ≤ k_)) (.slice A2 l2.length c2) l2 from Kd.V_mono hs2 (fun k_ hk => .inl (.inr (.inr hk))))
  have HRT := Aside0.mk hr_
  clear hr_
  have HB := Aside0.mk (Below.refl w.heap.size w)
  have H : ((packhorselaw05_checkAlive.f).bind fun t170 => (if t170 = true then (if (l0.length : Int) > 1000 then (packhorselaw05_CheckPieces.j0 k l0 l1 l2 true) else (if (l1.length : Int) > 1000 then (packhorselaw05_CheckPieces.j0 k l0 l1 l2 true) else (packhorselaw05_CheckPieces.j0 k l0 l1 l2 (decide ((l2.length : Int) > 1000))))) else (some false))) = some r := h
  clear h
  replace H := Option.bind_eq_some_iff.mp H
  obtain ⟨t170, A40, H⟩ := H
  replace H : (if t170 = true then (if (l0.length : Int) > 1000 then (packhorselaw05_CheckPieces.j0 k l0 l1 l2 true) else (if (l1.length : Int) > 1000 then (packhorselaw05_CheckPieces.j0 k l0 l1 l2 true) else (packhorselaw05_CheckPieces.j0 k l0 l1 l2 (decide ((l2.length : Int) > 1000))))) else (some false)) = some r := H
  have A4 := Aside0.mk A40
  clear A40
  by_cases c5 : t170 = true
  · subst c5
    have H1 : (if (l0.length : Int) > 1000 then (packhorselaw05_CheckPieces.j0 k l0 l1 l2 true) else (if (l1.length : Int) > 1000 then (packhorselaw05_CheckPieces.j0 k l0 l1 l2 true) else (packhorselaw05_CheckPieces.j0 k l0 l1 l2 (decide ((l2.length : Int) > 1000))))) = some r := by rw [if_pos rfl] at H; exact H
    clear H
    have H := H1
    clear H1
    have HC6 := Aside0.mk H
    clear H
    go_enter Try.func5, Try.ntmps5
    go_upto_region 3 with (first | ((with_reducible refine gate_callee (f := 9) rfl ?_); refine goesL_ (some 12) rfl rfl Try.func9 (by kernel_rfl) rfl #[] rfl (by (try simp only [List.map_toArray, List.map_cons, List.map_nil]); first | done | rfl | (simp only [List.length_drop, List.length_take]; rfl)) ?_; (with_reducible refine (packhorselaw05_checkAlive.calls  true _ A4.out rfl).mono ?_); rintro e w7 ⟨rfl, hb⟩; refine ⟨_, rfl, ?_⟩; have n0_ := Aside0.mk (Kd.V_below (by (with_reducible repeat (first | apply Kd.V_alloc | apply Kd.V_drewN | apply Kd.V_drew)); exact HO0.out) hb); have n1_ := Aside0.mk (Kd.V_below (by (with_reducible repeat (first | apply Kd.V_alloc | apply Kd.V_drewN | apply Kd.V_drew)); exact HO1.out) hb); have n2_ := Aside0.mk (Kd.V_below (by (with_reducible repeat (first | apply Kd.V_alloc | apply Kd.V_drewN | apply Kd.V_drew)); exact HO2.out) hb); have n3_ := Aside0.mk (below_step (by repeat (first | (with_reducible first | exact HB.out | apply below_alloc | apply pw_below_drewN | apply below_drew1) | exact HB.out)) hb); clear HO0; clear HO1; clear HO2; clear HB; have HO0 := n0_; have HO1 := n1_; have HO2 := n2_; have HB := n3_; clear n0_ n1_ n2_ n3_; (try clear hb); (try clear hb2); (try clear hk); (try clear hi)))
    (try simp only [Act.put, List.setIfInBounds_toArray, List.set_cons_zero, List.set_cons_succ])
    go_cut [26] (fun v26 wc => ∃ (kq : Nat) (x26_5 : Bool), v26 = .bool x26_5 ∧ Aside0 (packhorselaw05_CheckPieces.j0 kq l0 l1 l2 x26_5 = some r) ∧ Aside0 (kq ≤ k) ∧ Aside0 (Kd.V (Kd.int .u8) 5 wc w.heap.size (fun k_ => ((P0_ k_ ∨ P1_ k_ ∨ P2_ k_) ∨ w.heap.size ≤ k_)) (.slice A0 l0.length c0) l0) ∧ Aside0 (Kd.V (Kd.int .u8) 5 wc w.heap.size (fun k_ => ((P0_ k_ ∨ P1_ k_ ∨ P2_ k_) ∨ w.heap.size ≤ k_)) (.slice A1 l1.length c1) l1) ∧ Aside0 (Kd.V (Kd.int .u8) 5 wc w.heap.size (fun k_ => ((P0_ k_ ∨ P1_ k_ ∨ P2_ k_) ∨ w.heap.size ≤ k_)) (.slice A2 l2.length c2) l2) ∧ Aside0 (Below w.heap.size w wc))
    case first =>
      have H := HC6.out
      clear HC6
      by_cases c8 : (l0.length : Int) > 1000
      · rw [if_pos c8] at H
        have c8b0 : decide (1000 < (l0.length : Int)) = true := decide_eq_true c8
        have c8b1 : decide (1000 < l0.length) = true := decide_eq_true (by omega)
        clear c8
        (first | rw [c8b0] | (simp only [i64_w, i32_w]; rw [c8b0]) | skip)
        have H' := Aside0.mk H
        clear H
        go_wp2
        go_meet
        case rel => exact ⟨_, (true), (by first | rfl | (simp; done) | (simp [*]; done)), H', ⟨by first | omega | exact Nat.le_refl _⟩, ⟨by (with_reducible repeat (first | apply Kd.V_alloc | apply Kd.V_drewN | apply Kd.V_drew)); exact HO0.out⟩, ⟨by (with_reducible repeat (first | apply Kd.V_alloc | apply Kd.V_drewN | apply Kd.V_drew)); exact HO1.out⟩, ⟨by (with_reducible repeat (first | apply Kd.V_alloc | apply Kd.V_drewN | apply Kd.V_drew)); exact HO2.out⟩, ⟨by repeat (first | (with_reducible first | exact HB.out | apply below_alloc | apply pw_below_drewN | apply below_drew1) | exact HB.out)⟩⟩
      · rw [if_neg c8] at H
        have c8b0 : decide (1000 < (l0.length : Int)) = false := decide_eq_false c8
        have c8b1 : decide (1000 < l0.length) = false := decide_eq_false (by omega)
        clear c8
        (first | rw [c8b0] | (simp only [i64_w, i32_w]; rw [c8b0]) | skip)
        by_cases c9 : (l1.length : Int) > 1000
        · rw [if_pos c9] at H
          have c9b0 : decide (1000 < (l1.length : Int)) = true := decide_eq_true c9
          have c9b1 : decide (1000 < l1.length) = true := decide_eq_true (by omega)
          clear c9
          have H' := Aside0.mk H
          clear H
          go_wp2
          go_meet
          case rel => exact ⟨_, (true), (by first | rfl | (simp; done) | (simp [*]; done)), H', ⟨by first | omega | exact Nat.le_refl _⟩, ⟨by (with_reducible repeat (first | apply Kd.V_alloc | apply Kd.V_drewN | apply Kd.V_drew)); exact HO0.out⟩, ⟨by (with_reducible repeat (first | apply Kd.V_alloc | apply Kd.V_drewN | apply Kd.V_drew)); exact HO1.out⟩, ⟨by (with_reducible repeat (first | apply Kd.V_alloc | apply Kd.V_drewN | apply Kd.V_drew)); exact HO2.out⟩, ⟨by repeat (first | (with_reducible first | exact HB.out | apply below_alloc | apply pw_below_drewN | apply below_drew1) | exact HB.out)⟩⟩
        · rw [if_neg c9] at H
          have c9b0 : decide (1000 < (l1.length : Int)) = false := decide_eq_false c9
          have c9b1 : decide (1000 < l1.length) = false := decide_eq_false (by omega)
          clear c9
          have H' := Aside0.mk H
          clear H
          go_wp2
          go_meet
          case rel => exact ⟨_, (decide ((l2.length : Int) > 1000)), (by first | rfl | (simp; done) | (simp [*]; done)), H', ⟨by first | omega | exact Nat.le_refl _⟩, ⟨by (with_reducible repeat (first | apply Kd.V_alloc | apply Kd.V_drewN | apply Kd.V_drew)); exact HO0.out⟩, ⟨by (with_reducible repeat (first | apply Kd.V_alloc | apply Kd.V_drewN | apply Kd.V_drew)); exact HO1.out⟩, ⟨by (with_reducible repeat (first | apply Kd.V_alloc | apply Kd.V_drewN | apply Kd.V_drew)); exact HO2.out⟩, ⟨by repeat (first | (with_reducible first | exact HB.out | apply below_alloc | apply pw_below_drewN | apply below_drew1) | exact HB.out)⟩⟩
    case rest =>
      clear HC6
      try clear c1
      try clear c2
      try clear p2
      try clear c5
      try clear c8
      try clear c8b0
      try clear c8b1
      try clear c9
      try clear c9b0
      try clear c9b1
      obtain ⟨kq, x26_5, rfl, HA, HJ5, HO_0, HO_1, HO_2, HB⟩ := hcut
      cases kq with
      | zero => exact absurd HA.out (by simp [packhorselaw05_CheckPieces.j0])
      | succ kj5 =>
        have H := HA.out
        clear HA
        simp only [packhorselaw05_CheckPieces.j0] at H
        by_cases c10 : x26_5 = true
        · subst c10
          have H1 : (some true) = some r := by rw [if_pos rfl] at H; exact H
          clear H
          have H := H1
          clear H1
          obtain rfl := Option.some.inj H
          simp only [Option.some.injEq, Prod.mk.injEq] at H
          obtain ⟨rfl⟩ := H
          go_wp2
          go_ret
          exact ⟨by first | rfl | (simp [errW_none, errW_some] <;> rfl) | (simp [*, errW_none, errW_some] <;> rfl), by repeat (first | (with_reducible first | exact HB.out | apply below_alloc | apply pw_below_drewN | apply below_drew1) | exact HB.out)⟩
        · replace c10 := Bool.eq_false_iff.mpr c10
          subst c10
          have H1 : ((check_Of.f kj5 (([l0] : List (List Int)))).bind fun t174 => ((check_Of.f kj5 (([l1] : List (List Int)))).bind fun t178 => ((check_Of.f kj5 (([l2] : List (List Int)))).bind fun t182 => ((check_Join.f t174 t178 (l1.length : Int)).bind fun t183 => ((check_Join.f t183 t182 (l2.length : Int)).bind fun t184 => ((check_Join.f t178 t182 (l2.length : Int)).bind fun t185 => ((check_Join.f t174 t185 (wrap64 ((l1.length : Int) + (l2.length : Int)))).bind fun t186 => (if t184 = t186 then ((check_Of.f kj5 (([l0, l1, l2] : List (List Int)))).bind fun t190 => (some (t184 == t190))) else (some false))))))))) = some r := by rw [if_neg (show ¬ (false = true) by decide)] at H; exact H
          clear H
          have H := H1
          clear H1
          obtain ⟨y171, hy171⟩ : ∃ y_ : List (List Int), y_ = (([l0] : List (List Int))) := ⟨_, rfl⟩
          replace H : ((check_Of.f kj5 y171).bind fun t174 => ((check_Of.f kj5 (([l1] : List (List Int)))).bind fun t178 => ((check_Of.f kj5 (([l2] : List (List Int)))).bind fun t182 => ((check_Join.f t174 t178 (l1.length : Int)).bind fun t183 => ((check_Join.f t183 t182 (l2.length : Int)).bind fun t184 => ((check_Join.f t178 t182 (l2.length : Int)).bind fun t185 => ((check_Join.f t174 t185 (wrap64 ((l1.length : Int) + (l2.length : Int)))).bind fun t186 => (if t184 = t186 then ((check_Of.f kj5 (([l0, l1, l2] : List (List Int)))).bind fun t190 => (some (t184 == t190))) else (some false))))))))) = some r := by first | (rw [hy171]; with_reducible exact H) | (have H2_ := (Option.bind_some _ _).symm.trans H; rw [hy171]; with_reducible exact H2_) | (have H2_ := (Option.bind_some _ _).symm.trans H; with_reducible exact H2_) | with_reducible exact H | (rw [hy171]; exact H) | exact H
          have Ny171 := Aside0.mk hy171
          clear hy171
          replace H := Option.bind_eq_some_iff.mp H
          obtain ⟨t174, A110, H⟩ := H
          replace H : ((check_Of.f kj5 (([l1] : List (List Int)))).bind fun t178 => ((check_Of.f kj5 (([l2] : List (List Int)))).bind fun t182 => ((check_Join.f t174 t178 (l1.length : Int)).bind fun t183 => ((check_Join.f t183 t182 (l2.length : Int)).bind fun t184 => ((check_Join.f t178 t182 (l2.length : Int)).bind fun t185 => ((check_Join.f t174 t185 (wrap64 ((l1.length : Int) + (l2.length : Int)))).bind fun t186 => (if t184 = t186 then ((check_Of.f kj5 (([l0, l1, l2] : List (List Int)))).bind fun t190 => (some (t184 == t190))) else (some false)))))))) = some r := H
          have A11 := Aside0.mk A110
          clear A110
          obtain ⟨y175, hy175⟩ : ∃ y_ : List (List Int), y_ = (([l1] : List (List Int))) := ⟨_, rfl⟩
          replace H : ((check_Of.f kj5 y175).bind fun t178 => ((check_Of.f kj5 (([l2] : List (List Int)))).bind fun t182 => ((check_Join.f t174 t178 (l1.length : Int)).bind fun t183 => ((check_Join.f t183 t182 (l2.length : Int)).bind fun t184 => ((check_Join.f t178 t182 (l2.length : Int)).bind fun t185 => ((check_Join.f t174 t185 (wrap64 ((l1.length : Int) + (l2.length : Int)))).bind fun t186 => (if t184 = t186 then ((check_Of.f kj5 (([l0, l1, l2] : List (List Int)))).bind fun t190 => (some (t184 == t190))) else (some false)))))))) = some r := by first | (rw [hy175]; with_reducible exact H) | (have H2_ := (Option.bind_some _ _).symm.trans H; rw [hy175]; with_reducible exact H2_) | (have H2_ := (Option.bind_some _ _).symm.trans H; with_reducible exact H2_) | with_reducible exact H | (rw [hy175]; exact H) | exact H
          have Ny175 := Aside0.mk hy175
          clear hy175
          replace H := Option.bind_eq_some_iff.mp H
          obtain ⟨t178, A120, H⟩ := H
          replace H : ((check_Of.f kj5 (([l2] : List (List Int)))).bind fun t182 => ((check_Join.f t174 t178 (l1.length : Int)).bind fun t183 => ((check_Join.f t183 t182 (l2.length : Int)).bind fun t184 => ((check_Join.f t178 t182 (l2.length : Int)).bind fun t185 => ((check_Join.f t174 t185 (wrap64 ((l1.length : Int) + (l2.length : Int)))).bind fun t186 => (if t184 = t186 then ((check_Of.f kj5 (([l0, l1, l2] : List (List Int)))).bind fun t190 => (some (t184 == t190))) else (some false))))))) = some r := H
          have A12 := Aside0.mk A120
          clear A120
          obtain ⟨y179, hy179⟩ : ∃ y_ : List (List Int), y_ = (([l2] : List (List Int))) := ⟨_, rfl⟩
          replace H : ((check_Of.f kj5 y179).bind fun t182 => ((check_Join.f t174 t178 (l1.length : Int)).bind fun t183 => ((check_Join.f t183 t182 (l2.length : Int)).bind fun t184 => ((check_Join.f t178 t182 (l2.length : Int)).bind fun t185 => ((check_Join.f t174 t185 (wrap64 ((l1.length : Int) + (l2.length : Int)))).bind fun t186 => (if t184 = t186 then ((check_Of.f kj5 (([l0, l1, l2] : List (List Int)))).bind fun t190 => (some (t184 == t190))) else (some false))))))) = some r := by first | (rw [hy179]; with_reducible exact H) | (have H2_ := (Option.bind_some _ _).symm.trans H; rw [hy179]; with_reducible exact H2_) | (have H2_ := (Option.bind_some _ _).symm.trans H; with_reducible exact H2_) | with_reducible exact H | (rw [hy179]; exact H) | exact H
          have Ny179 := Aside0.mk hy179
          clear hy179
          replace H := Option.bind_eq_some_iff.mp H
          obtain ⟨t182, A130, H⟩ := H
          replace H : ((check_Join.f t174 t178 (l1.length : Int)).bind fun t183 => ((check_Join.f t183 t182 (l2.length : Int)).bind fun t184 => ((check_Join.f t178 t182 (l2.length : Int)).bind fun t185 => ((check_Join.f t174 t185 (wrap64 ((l1.length : Int) + (l2.length : Int)))).bind fun t186 => (if t184 = t186 then ((check_Of.f kj5 (([l0, l1, l2] : List (List Int)))).bind fun t190 => (some (t184 == t190))) else (some false)))))) = some r := H
          have A13 := Aside0.mk A130
          clear A130
          replace H := Option.bind_eq_some_iff.mp H
          obtain ⟨t183, A140, H⟩ := H
          replace H : ((check_Join.f t183 t182 (l2.length : Int)).bind fun t184 => ((check_Join.f t178 t182 (l2.length : Int)).bind fun t185 => ((check_Join.f t174 t185 (wrap64 ((l1.length : Int) + (l2.length : Int)))).bind fun t186 => (if t184 = t186 then ((check_Of.f kj5 (([l0, l1, l2] : List (List Int)))).bind fun t190 => (some (t184 == t190))) else (some false))))) = some r := H
          have A14 := Aside0.mk A140
          clear A140
          replace H := Option.bind_eq_some_iff.mp H
          obtain ⟨t184, A150, H⟩ := H
          replace H : ((check_Join.f t178 t182 (l2.length : Int)).bind fun t185 => ((check_Join.f t174 t185 (wrap64 ((l1.length : Int) + (l2.length : Int)))).bind fun t186 => (if t184 = t186 then ((check_Of.f kj5 (([l0, l1, l2] : List (List Int)))).bind fun t190 => (some (t184 == t190))) else (some false)))) = some r := H
          have A15 := Aside0.mk A150
          clear A150
          replace H := Option.bind_eq_some_iff.mp H
          obtain ⟨t185, A160, H⟩ := H
          replace H : ((check_Join.f t174 t185 (wrap64 ((l1.length : Int) + (l2.length : Int)))).bind fun t186 => (if t184 = t186 then ((check_Of.f kj5 (([l0, l1, l2] : List (List Int)))).bind fun t190 => (some (t184 == t190))) else (some false))) = some r := H
          have A16 := Aside0.mk A160
          clear A160
          replace H := Option.bind_eq_some_iff.mp H
          obtain ⟨t186, A170, H⟩ := H
          replace H : (if t184 = t186 then ((check_Of.f kj5 (([l0, l1, l2] : List (List Int)))).bind fun t190 => (some (t184 == t190))) else (some false)) = some r := H
          have A17 := Aside0.mk A170
          clear A170
          by_cases c18 : t184 = t186
          · rw [if_pos c18] at H
            have c18b0 : (t184 == t186) = true := beq_iff_eq.mpr c18
            have c18b1 : (t184 != t186) = false := bne_eq_false_iff_eq.mpr c18
            clear c18
            obtain ⟨y187, hy187⟩ : ∃ y_ : List (List Int), y_ = (([l0, l1, l2] : List (List Int))) := ⟨_, rfl⟩
            replace H : ((check_Of.f kj5 y187).bind fun t190 => (some (t184 == t190))) = some r := by first | (rw [hy187]; with_reducible exact H) | (have H2_ := (Option.bind_some _ _).symm.trans H; rw [hy187]; with_reducible exact H2_) | (have H2_ := (Option.bind_some _ _).symm.trans H; with_reducible exact H2_) | with_reducible exact H | (rw [hy187]; exact H) | exact H
            have Ny187 := Aside0.mk hy187
            clear hy187
            replace H := Option.bind_eq_some_iff.mp H
            obtain ⟨t190, A190, H⟩ := H
            replace H : (some (t184 == t190)) = some r := H
            have A19 := Aside0.mk A190
            clear A190
            obtain rfl := Option.some.inj H
            simp only [Option.some.injEq, Prod.mk.injEq] at H
            obtain ⟨rfl⟩ := H
            go_wp2_with (first | ((with_reducible refine gate_dst (N := 28) rfl ?_); (try (refine gate_guard (by rfl) ?_; dsimp only)); refine Kd.N_lit (Kd.slice 5 (Kd.int .u8)) _ 22 ?hg (N' := 28) ?hd (xs := ([l0] : List (List Int))) (inner := [.slice A0 l0.length c0]) (ok := (fun k_ => ((P0_ k_ ∨ P1_ k_ ∨ P2_ k_) ∨ w.heap.size ≤ k_))) (okp := (fun k_ => ((P0_ k_ ∨ P1_ k_ ∨ P2_ k_) ∨ w.heap.size ≤ k_))) ?hr ?hp (fun _ hk => hk) ((show ∀ k_, wc.heap.size ≤ k_ → (fun k_ => ((P0_ k_ ∨ P1_ k_ ∨ P2_ k_) ∨ w.heap.size ≤ k_)) k_ from fun k_ hk => (.inr (Nat.le_trans (below_size (by repeat (first | (with_reducible first | exact HB.out | apply below_alloc | apply pw_below_drewN | apply below_drew1) | exact HB.out))) hk))) _ (Nat.le_refl _)) (Below.refl _ _) (Nat.le_refl _) (by simp) ?_; (case hd => rfl); (case hg => rfl); (case hr => first | (go_simp; done) | (go_simp; rfl)); (case hp => first | exact (Reps.one (show Kd.FK (Kd.slice 5 (Kd.int .u8)) _ _ l0 [.slice A0 l0.length c0] from (Kd.FK_slice_mk (Kd.V_reads' (Kd.V_mono (ok' := (fun k_ => ((P0_ k_ ∨ P1_ k_ ∨ P2_ k_) ∨ w.heap.size ≤ k_))) (HO_0.out) (fun k_ hk => hk))).2.1 (Kd.V_F (Kd.V_mono (ok' := (fun k_ => ((P0_ k_ ∨ P1_ k_ ∨ P2_ k_) ∨ w.heap.size ≤ k_))) (HO_0.out) (fun k_ hk => hk))))) (Reps.none _ _)) | exact (Reps.one (show Kd.FK (Kd.slice 5 (Kd.int .u8)) _ _ l0 [.slice A0 l0.length c0] from (Kd.FK_slice_mk (Kd.V_reads' (Kd.V_mono (ok' := (fun k_ => ((P0_ k_ ∨ P1_ k_ ∨ P2_ k_) ∨ w.heap.size ≤ k_))) (HO_0.out) (fun k_ hk => hk))).2.1 (Kd.V_F (Kd.V_mono (ok' := (fun k_ => ((P0_ k_ ∨ P1_ k_ ∨ P2_ k_) ∨ w.heap.size ≤ k_))) (Kd.V_drewN HO_0.out _) (fun k_ hk => hk))))) (Reps.none _ _))); intro v172 w20 ho21 hb hg_ hnew_; clear hg_ hnew_; (first | rw [← Ny171.out] at ho21 | (simp only [Int.reduceToNat] at ho21; rw [← Ny171.out] at ho21)); have n0_ := Aside0.mk (Kd.V_elder' (by (with_reducible repeat (first | apply Kd.V_alloc | apply Kd.V_drewN | apply Kd.V_drew)); exact HO_0.out) (Kd.N_base ho21) hb); have n1_ := Aside0.mk (Kd.V_elder' (by (with_reducible repeat (first | apply Kd.V_alloc | apply Kd.V_drewN | apply Kd.V_drew)); exact HO_1.out) (Kd.N_base ho21) hb); have n2_ := Aside0.mk (Kd.V_elder' (by (with_reducible repeat (first | apply Kd.V_alloc | apply Kd.V_drewN | apply Kd.V_drew)); exact HO_2.out) (Kd.N_base ho21) hb); have n3_ := Aside0.mk (Kd.N_lower ho21 (below_size (by repeat (first | (with_reducible first | exact HB.out | apply below_alloc | apply pw_below_drewN | apply below_drew1) | exact HB.out)))); have n4_ := Aside0.mk (below_step (by repeat (first | (with_reducible first | exact HB.out | apply below_alloc | apply pw_below_drewN | apply below_drew1) | exact HB.out)) hb); clear HO_0; clear HO_1; clear HO_2; clear HB; have HO_0 := n0_; have HO_1 := n1_; have HO_2 := n2_; have HO173 := n3_; have HB := n4_; clear n0_ n1_ n2_ n3_ n4_; clear hb ho21; obtain ⟨Ao22, co22, eo22⟩ := Kd.N_slice HO173.out; subst eo22) | ((with_reducible refine gate_callee (f := 10) rfl ?_); refine goesL_ (some 29) rfl rfl Try.func10 (by kernel_rfl) rfl #[.slice Ao22 y171.length co22] rfl (by (try simp only [List.map_toArray, List.map_cons, List.map_nil]); first | done | rfl | (simp only [List.length_drop, List.length_take]; rfl)) ?_; (with_reducible refine (check_Of.calls kj5 _ _ y171 t174 _ ?side1 ?side2 A11.out).mono ?_); (case side1 => repeat (first | exact (Kd.N_reads' HO173.out).2.2 | (with_reducible refine Kd.C_alloc ?_ _) | (with_reducible refine Kd.C_drewN ?_ _) | (with_reducible refine Kd.C_drew ?_))); (case side2 => exact (Kd.N_reads' HO173.out).2.1); rintro e w' ⟨rfl, ⟨nd, rfl⟩⟩; refine ⟨_, rfl, ?_⟩) | ((with_reducible refine gate_dst (N := 31) rfl ?_); (try (refine gate_guard (by rfl) ?_; dsimp only)); refine Kd.N_lit (Kd.slice 5 (Kd.int .u8)) _ 22 ?hg (N' := 31) ?hd (xs := ([l1] : List (List Int))) (inner := [.slice A1 l1.length c1]) (ok := (fun k_ => ((P0_ k_ ∨ P1_ k_ ∨ P2_ k_) ∨ w.heap.size ≤ k_) ∧ some k_ ≠ (.slice Ao22 y171.length co22 : Value).ownBlock)) (okp := (fun k_ => ((P0_ k_ ∨ P1_ k_ ∨ P2_ k_) ∨ w.heap.size ≤ k_) ∧ some k_ ≠ (.slice Ao22 y171.length co22 : Value).ownBlock)) ?hr ?hp (fun _ hk => hk) ((show ∀ k_, w20.heap.size ≤ k_ → (fun k_ => ((P0_ k_ ∨ P1_ k_ ∨ P2_ k_) ∨ w.heap.size ≤ k_) ∧ some k_ ≠ (.slice Ao22 y171.length co22 : Value).ownBlock) k_ from fun k_ hk => ⟨(.inr (Nat.le_trans (below_size (by repeat (first | (with_reducible first | exact HB.out | apply below_alloc | apply pw_below_drewN | apply below_drew1) | exact HB.out))) hk)), Kd.fresh' (Kd.N_lt (by (with_reducible repeat (first | apply Kd.N_alloc | apply Kd.N_drewN | apply Kd.N_drew)); exact HO173.out)) k_ hk⟩) _ (Nat.le_refl _)) (Below.refl _ _) (Nat.le_refl _) (by simp) ?_; (case hd => rfl); (case hg => rfl); (case hr => first | (go_simp; done) | (go_simp; rfl)); (case hp => first | exact (Reps.one (show Kd.FK (Kd.slice 5 (Kd.int .u8)) _ _ l1 [.slice A1 l1.length c1] from (Kd.FK_slice_mk (Kd.V_reads' (Kd.V_mono (ok' := (fun k_ => ((P0_ k_ ∨ P1_ k_ ∨ P2_ k_) ∨ w.heap.size ≤ k_) ∧ some k_ ≠ (.slice Ao22 y171.length co22 : Value).ownBlock)) (HO_1.out) (fun k_ hk => ⟨hk.1, hk.2⟩))).2.1 (Kd.V_F (Kd.V_mono (ok' := (fun k_ => ((P0_ k_ ∨ P1_ k_ ∨ P2_ k_) ∨ w.heap.size ≤ k_) ∧ some k_ ≠ (.slice Ao22 y171.length co22 : Value).ownBlock)) (HO_1.out) (fun k_ hk => ⟨hk.1, hk.2⟩))))) (Reps.none _ _)) | exact (Reps.one (show Kd.FK (Kd.slice 5 (Kd.int .u8)) _ _ l1 [.slice A1 l1.length c1] from (Kd.FK_slice_mk (Kd.V_reads' (Kd.V_mono (ok' := (fun k_ => ((P0_ k_ ∨ P1_ k_ ∨ P2_ k_) ∨ w.heap.size ≤ k_) ∧ some k_ ≠ (.slice Ao22 y171.length co22 : Value).ownBlock)) (HO_1.out) (fun k_ hk => ⟨hk.1, hk.2⟩))).2.1 (Kd.V_F (Kd.V_mono (ok' := (fun k_ => ((P0_ k_ ∨ P1_ k_ ∨ P2_ k_) ∨ w.heap.size ≤ k_) ∧ some k_ ≠ (.slice Ao22 y171.length co22 : Value).ownBlock)) (Kd.V_drewN HO_1.out _) (fun k_ hk => ⟨hk.1, hk.2⟩))))) (Reps.none _ _))); intro v176 w23 ho24 hb hg_ hnew_; clear hg_ hnew_; (first | rw [← Ny175.out] at ho24 | (simp only [Int.reduceToNat] at ho24; rw [← Ny175.out] at ho24)); have n0_ := Aside0.mk (Kd.V_elder' (by (with_reducible repeat (first | apply Kd.V_alloc | apply Kd.V_drewN | apply Kd.V_drew)); exact HO_0.out) (Kd.N_base ho24) hb); have n1_ := Aside0.mk (Kd.V_elder' (by (with_reducible repeat (first | apply Kd.V_alloc | apply Kd.V_drewN | apply Kd.V_drew)); exact HO_1.out) (Kd.N_base ho24) hb); have n2_ := Aside0.mk (Kd.V_elder' (by (with_reducible repeat (first | apply Kd.V_alloc | apply Kd.V_drewN | apply Kd.V_drew)); exact HO_2.out) (Kd.N_base ho24) hb); have n3_ := Aside0.mk (Kd.N_elder' (by (with_reducible repeat (first | apply Kd.N_alloc | apply Kd.N_drewN | apply Kd.N_drew)); exact HO173.out) (Kd.N_base ho24) hb); have n4_ := Aside0.mk (Kd.N_lower ho24 (below_size (by repeat (first | (with_reducible first | exact HB.out | apply below_alloc | apply pw_below_drewN | apply below_drew1) | exact HB.out)))); have n5_ := Aside0.mk (below_step (by repeat (first | (with_reducible first | exact HB.out | apply below_alloc | apply pw_below_drewN | apply below_drew1) | exact HB.out)) hb); clear HO_0; clear HO_1; clear HO_2; clear HO173; clear HB; have HO_0 := n0_; have HO_1 := n1_; have HO_2 := n2_; have HO173 := n3_; have HO177 := n4_; have HB := n5_; clear n0_ n1_ n2_ n3_ n4_ n5_; clear hb ho24; obtain ⟨Ao25, co25, eo25⟩ := Kd.N_slice HO177.out; subst eo25) | ((with_reducible refine gate_callee (f := 10) rfl ?_); refine goesL_ (some 32) rfl rfl Try.func10 (by kernel_rfl) rfl #[.slice Ao25 y175.length co25] rfl (by (try simp only [List.map_toArray, List.map_cons, List.map_nil]); first | done | rfl | (simp only [List.length_drop, List.length_take]; rfl)) ?_; (with_reducible refine (check_Of.calls kj5 _ _ y175 t178 _ ?side1 ?side2 A12.out).mono ?_); (case side1 => repeat (first | exact (Kd.N_reads' HO177.out).2.2 | (with_reducible refine Kd.C_alloc ?_ _) | (with_reducible refine Kd.C_drewN ?_ _) | (with_reducible refine Kd.C_drew ?_))); (case side2 => exact (Kd.N_reads' HO177.out).2.1); rintro e w' ⟨rfl, ⟨nd, rfl⟩⟩; refine ⟨_, rfl, ?_⟩) | ((with_reducible refine gate_dst (N := 34) rfl ?_); (try (refine gate_guard (by rfl) ?_; dsimp only)); refine Kd.N_lit (Kd.slice 5 (Kd.int .u8)) _ 22 ?hg (N' := 34) ?hd (xs := ([l2] : List (List Int))) (inner := [.slice A2 l2.length c2]) (ok := (fun k_ => ((P0_ k_ ∨ P1_ k_ ∨ P2_ k_) ∨ w.heap.size ≤ k_) ∧ some k_ ≠ (.slice Ao22 y171.length co22 : Value).ownBlock ∧ some k_ ≠ (.slice Ao25 y175.length co25 : Value).ownBlock)) (okp := (fun k_ => ((P0_ k_ ∨ P1_ k_ ∨ P2_ k_) ∨ w.heap.size ≤ k_) ∧ some k_ ≠ (.slice Ao22 y171.length co22 : Value).ownBlock ∧ some k_ ≠ (.slice Ao25 y175.length co25 : Value).ownBlock)) ?hr ?hp (fun _ hk => hk) ((show ∀ k_, w23.heap.size ≤ k_ → (fun k_ => ((P0_ k_ ∨ P1_ k_ ∨ P2_ k_) ∨ w.heap.size ≤ k_) ∧ some k_ ≠ (.slice Ao22 y171.length co22 : Value).ownBlock ∧ some k_ ≠ (.slice Ao25 y175.length co25 : Value).ownBlock) k_ from fun k_ hk => ⟨(.inr (Nat.le_trans (below_size (by repeat (first | (with_reducible first | exact HB.out | apply below_alloc | apply pw_below_drewN | apply below_drew1) | exact HB.out))) hk)), Kd.fresh' (Kd.N_lt (by (with_reducible repeat (first | apply Kd.N_alloc | apply Kd.N_drewN | apply Kd.N_drew)); exact HO173.out)) k_ hk, Kd.fresh' (Kd.N_lt (by (with_reducible repeat (first | apply Kd.N_alloc | apply Kd.N_drewN | apply Kd.N_drew)); exact HO177.out)) k_ hk⟩) _ (Nat.le_refl _)) (Below.refl _ _) (Nat.le_refl _) (by simp) ?_; (case hd => rfl); (case hg => rfl); (case hr => first | (go_simp; done) | (go_simp; rfl)); (case hp => first | exact (Reps.one (show Kd.FK (Kd.slice 5 (Kd.int .u8)) _ _ l2 [.slice A2 l2.length c2] from (Kd.FK_slice_mk (Kd.V_reads' (Kd.V_mono (ok' := (fun k_ => ((P0_ k_ ∨ P1_ k_ ∨ P2_ k_) ∨ w.heap.size ≤ k_) ∧ some k_ ≠ (.slice Ao22 y171.length co22 : Value).ownBlock ∧ some k_ ≠ (.slice Ao25 y175.length co25 : Value).ownBlock)) (HO_2.out) (fun k_ hk => (by first | exact ⟨hk.1.1, ⟨hk.1.2, hk.2⟩⟩ | exact hk)))).2.1 (Kd.V_F (Kd.V_mono (ok' := (fun k_ => ((P0_ k_ ∨ P1_ k_ ∨ P2_ k_) ∨ w.heap.size ≤ k_) ∧ some k_ ≠ (.slice Ao22 y171.length co22 : Value).ownBlock ∧ some k_ ≠ (.slice Ao25 y175.length co25 : Value).ownBlock)) (HO_2.out) (fun k_ hk => (by first | exact ⟨hk.1.1, ⟨hk.1.2, hk.2⟩⟩ | exact hk)))))) (Reps.none _ _)) | exact (Reps.one (show Kd.FK (Kd.slice 5 (Kd.int .u8)) _ _ l2 [.slice A2 l2.length c2] from (Kd.FK_slice_mk (Kd.V_reads' (Kd.V_mono (ok' := (fun k_ => ((P0_ k_ ∨ P1_ k_ ∨ P2_ k_) ∨ w.heap.size ≤ k_) ∧ some k_ ≠ (.slice Ao22 y171.length co22 : Value).ownBlock ∧ some k_ ≠ (.slice Ao25 y175.length co25 : Value).ownBlock)) (HO_2.out) (fun k_ hk => (by first | exact ⟨hk.1.1, ⟨hk.1.2, hk.2⟩⟩ | exact hk)))).2.1 (Kd.V_F (Kd.V_mono (ok' := (fun k_ => ((P0_ k_ ∨ P1_ k_ ∨ P2_ k_) ∨ w.heap.size ≤ k_) ∧ some k_ ≠ (.slice Ao22 y171.length co22 : Value).ownBlock ∧ some k_ ≠ (.slice Ao25 y175.length co25 : Value).ownBlock)) (Kd.V_drewN HO_2.out _) (fun k_ hk => (by first | exact ⟨hk.1.1, ⟨hk.1.2, hk.2⟩⟩ | exact hk)))))) (Reps.none _ _))); intro v180 w26 ho27 hb hg_ hnew_; clear hg_ hnew_; (first | rw [← Ny179.out] at ho27 | (simp only [Int.reduceToNat] at ho27; rw [← Ny179.out] at ho27)); have n0_ := Aside0.mk (Kd.V_elder' (by (with_reducible repeat (first | apply Kd.V_alloc | apply Kd.V_drewN | apply Kd.V_drew)); exact HO_0.out) (Kd.N_base ho27) hb); have n1_ := Aside0.mk (Kd.V_elder' (by (with_reducible repeat (first | apply Kd.V_alloc | apply Kd.V_drewN | apply Kd.V_drew)); exact HO_1.out) (Kd.N_base ho27) hb); have n2_ := Aside0.mk (Kd.V_elder' (by (with_reducible repeat (first | apply Kd.V_alloc | apply Kd.V_drewN | apply Kd.V_drew)); exact HO_2.out) (Kd.N_base ho27) hb); have n3_ := Aside0.mk (Kd.N_elder' (by (with_reducible repeat (first | apply Kd.N_alloc | apply Kd.N_drewN | apply Kd.N_drew)); exact HO173.out) (Kd.N_base ho27) hb); have n4_ := Aside0.mk (Kd.N_elder' (by (with_reducible repeat (first | apply Kd.N_alloc | apply Kd.N_drewN | apply Kd.N_drew)); exact HO177.out) (Kd.N_base ho27) hb); have n5_ := Aside0.mk (Kd.N_lower ho27 (below_size (by repeat (first | (with_reducible first | exact HB.out | apply below_alloc | apply pw_below_drewN | apply below_drew1) | exact HB.out)))); have n6_ := Aside0.mk (below_step (by repeat (first | (with_reducible first | exact HB.out | apply below_alloc | apply pw_below_drewN | apply below_drew1) | exact HB.out)) hb); clear HO_0; clear HO_1; clear HO_2; clear HO173; clear HO177; clear HB; have HO_0 := n0_; have HO_1 := n1_; have HO_2 := n2_; have HO173 := n3_; have HO177 := n4_; have HO181 := n5_; have HB := n6_; clear n0_ n1_ n2_ n3_ n4_ n5_ n6_; clear hb ho27; obtain ⟨Ao28, co28, eo28⟩ := Kd.N_slice HO181.out; subst eo28) | ((with_reducible refine gate_callee (f := 10) rfl ?_); refine goesL_ (some 35) rfl rfl Try.func10 (by kernel_rfl) rfl #[.slice Ao28 y179.length co28] rfl (by (try simp only [List.map_toArray, List.map_cons, List.map_nil]); first | done | rfl | (simp only [List.length_drop, List.length_take]; rfl)) ?_; (with_reducible refine (check_Of.calls kj5 _ _ y179 t182 _ ?side1 ?side2 A13.out).mono ?_); (case side1 => repeat (first | exact (Kd.N_reads' HO181.out).2.2 | (with_reducible refine Kd.C_alloc ?_ _) | (with_reducible refine Kd.C_drewN ?_ _) | (with_reducible refine Kd.C_drew ?_))); (case side2 => exact (Kd.N_reads' HO181.out).2.1); rintro e w' ⟨rfl, ⟨nd, rfl⟩⟩; refine ⟨_, rfl, ?_⟩) | ((with_reducible refine gate_callee (f := 12) rfl ?_); refine goesL_ (some 40) rfl rfl Try.func12 (by kernel_rfl) rfl #[.int .u32 t174, .int .u32 t178, .int .i64 (l1.length : Int)] rfl (by (try simp only [List.map_toArray, List.map_cons, List.map_nil]); first | done | rfl | (simp only [List.length_drop, List.length_take]; rfl)) ?_; (with_reducible refine (check_Join.calls t174 t178 (l1.length : Int) t183 _ A14.out).mono ?_); rintro e w29 ⟨rfl, hb⟩; refine ⟨_, rfl, ?_⟩; have n0_ := Aside0.mk (Kd.V_below (by (with_reducible repeat (first | apply Kd.V_alloc | apply Kd.V_drewN | apply Kd.V_drew)); exact HO_0.out) hb); have n1_ := Aside0.mk (Kd.V_below (by (with_reducible repeat (first | apply Kd.V_alloc | apply Kd.V_drewN | apply Kd.V_drew)); exact HO_1.out) hb); have n2_ := Aside0.mk (Kd.V_below (by (with_reducible repeat (first | apply Kd.V_alloc | apply Kd.V_drewN | apply Kd.V_drew)); exact HO_2.out) hb); have n3_ := Aside0.mk (Kd.N_below (by (with_reducible repeat (first | apply Kd.N_alloc | apply Kd.N_drewN | apply Kd.N_drew)); exact HO173.out) hb); have n4_ := Aside0.mk (Kd.N_below (by (with_reducible repeat (first | apply Kd.N_alloc | apply Kd.N_drewN | apply Kd.N_drew)); exact HO177.out) hb); have n5_ := Aside0.mk (Kd.N_below (by (with_reducible repeat (first | apply Kd.N_alloc | apply Kd.N_drewN | apply Kd.N_drew)); exact HO181.out) hb); have n6_ := Aside0.mk (below_step (by repeat (first | (with_reducible first | exact HB.out | apply below_alloc | apply pw_below_drewN | apply below_drew1) | exact HB.out)) hb); clear HO_0; clear HO_1; clear HO_2; clear HO173; clear HO177; clear HO181; clear HB; have HO_0 := n0_; have HO_1 := n1_; have HO_2 := n2_; have HO173 := n3_; have HO177 := n4_; have HO181 := n5_; have HB := n6_; clear n0_ n1_ n2_ n3_ n4_ n5_ n6_; (try clear hb); (try clear hb2); (try clear hk); (try clear hi)) | ((with_reducible refine gate_callee (f := 12) rfl ?_); refine goesL_ (some 44) rfl rfl Try.func12 (by kernel_rfl) rfl #[.int .u32 t183, .int .u32 t182, .int .i64 (l2.length : Int)] rfl (by (try simp only [List.map_toArray, List.map_cons, List.map_nil]); first | done | rfl | (simp only [List.length_drop, List.length_take]; rfl)) ?_; (with_reducible refine (check_Join.calls t183 t182 (l2.length : Int) t184 _ A15.out).mono ?_); rintro e w30 ⟨rfl, hb⟩; refine ⟨_, rfl, ?_⟩; have n0_ := Aside0.mk (Kd.V_below (by (with_reducible repeat (first | apply Kd.V_alloc | apply Kd.V_drewN | apply Kd.V_drew)); exact HO_0.out) hb); have n1_ := Aside0.mk (Kd.V_below (by (with_reducible repeat (first | apply Kd.V_alloc | apply Kd.V_drewN | apply Kd.V_drew)); exact HO_1.out) hb); have n2_ := Aside0.mk (Kd.V_below (by (with_reducible repeat (first | apply Kd.V_alloc | apply Kd.V_drewN | apply Kd.V_drew)); exact HO_2.out) hb); have n3_ := Aside0.mk (Kd.N_below (by (with_reducible repeat (first | apply Kd.N_alloc | apply Kd.N_drewN | apply Kd.N_drew)); exact HO173.out) hb); have n4_ := Aside0.mk (Kd.N_below (by (with_reducible repeat (first | apply Kd.N_alloc | apply Kd.N_drewN | apply Kd.N_drew)); exact HO177.out) hb); have n5_ := Aside0.mk (Kd.N_below (by (with_reducible repeat (first | apply Kd.N_alloc | apply Kd.N_drewN | apply Kd.N_drew)); exact HO181.out) hb); have n6_ := Aside0.mk (below_step (by repeat (first | (with_reducible first | exact HB.out | apply below_alloc | apply pw_below_drewN | apply below_drew1) | exact HB.out)) hb); clear HO_0; clear HO_1; clear HO_2; clear HO173; clear HO177; clear HO181; clear HB; have HO_0 := n0_; have HO_1 := n1_; have HO_2 := n2_; have HO173 := n3_; have HO177 := n4_; have HO181 := n5_; have HB := n6_; clear n0_ n1_ n2_ n3_ n4_ n5_ n6_; (try clear hb); (try clear hb2); (try clear hk); (try clear hi)) | ((with_reducible refine gate_callee (f := 12) rfl ?_); refine goesL_ (some 50) rfl rfl Try.func12 (by kernel_rfl) rfl #[.int .u32 t178, .int .u32 t182, .int .i64 (l2.length : Int)] rfl (by (try simp only [List.map_toArray, List.map_cons, List.map_nil]); first | done | rfl | (simp only [List.length_drop, List.length_take]; rfl)) ?_; (with_reducible refine (check_Join.calls t178 t182 (l2.length : Int) t185 _ A16.out).mono ?_); rintro e w31 ⟨rfl, hb⟩; refine ⟨_, rfl, ?_⟩; have n0_ := Aside0.mk (Kd.V_below (by (with_reducible repeat (first | apply Kd.V_alloc | apply Kd.V_drewN | apply Kd.V_drew)); exact HO_0.out) hb); have n1_ := Aside0.mk (Kd.V_below (by (with_reducible repeat (first | apply Kd.V_alloc | apply Kd.V_drewN | apply Kd.V_drew)); exact HO_1.out) hb); have n2_ := Aside0.mk (Kd.V_below (by (with_reducible repeat (first | apply Kd.V_alloc | apply Kd.V_drewN | apply Kd.V_drew)); exact HO_2.out) hb); have n3_ := Aside0.mk (Kd.N_below (by (with_reducible repeat (first | apply Kd.N_alloc | apply Kd.N_drewN | apply Kd.N_drew)); exact HO173.out) hb); have n4_ := Aside0.mk (Kd.N_below (by (with_reducible repeat (first | apply Kd.N_alloc | apply Kd.N_drewN | apply Kd.N_drew)); exact HO177.out) hb); have n5_ := Aside0.mk (Kd.N_below (by (with_reducible repeat (first | apply Kd.N_alloc | apply Kd.N_drewN | apply Kd.N_drew)); exact HO181.out) hb); have n6_ := Aside0.mk (below_step (by repeat (first | (with_reducible first | exact HB.out | apply below_alloc | apply pw_below_drewN | apply below_drew1) | exact HB.out)) hb); clear HO_0; clear HO_1; clear HO_2; clear HO173; clear HO177; clear HO181; clear HB; have HO_0 := n0_; have HO_1 := n1_; have HO_2 := n2_; have HO173 := n3_; have HO177 := n4_; have HO181 := n5_; have HB := n6_; clear n0_ n1_ n2_ n3_ n4_ n5_ n6_; (try clear hb); (try clear hb2); (try clear hk); (try clear hi)) | ((with_reducible refine gate_callee (f := 12) rfl ?_); refine goesL_ (some 56) rfl rfl Try.func12 (by kernel_rfl) rfl #[.int .u32 t174, .int .u32 t185, .int .i64 (wrap64 ((l1.length : Int) + (l2.length : Int)))] rfl (by (try simp only [List.map_toArray, List.map_cons, List.map_nil]); first | done | rfl | (simp only [List.length_drop, List.length_take]; rfl)) ?_; (with_reducible refine (check_Join.calls t174 t185 (wrap64 ((l1.length : Int) + (l2.length : Int))) t186 _ A17.out).mono ?_); rintro e w32 ⟨rfl, hb⟩; refine ⟨_, rfl, ?_⟩; have n0_ := Aside0.mk (Kd.V_below (by (with_reducible repeat (first | apply Kd.V_alloc | apply Kd.V_drewN | apply Kd.V_drew)); exact HO_0.out) hb); have n1_ := Aside0.mk (Kd.V_below (by (with_reducible repeat (first | apply Kd.V_alloc | apply Kd.V_drewN | apply Kd.V_drew)); exact HO_1.out) hb); have n2_ := Aside0.mk (Kd.V_below (by (with_reducible repeat (first | apply Kd.V_alloc | apply Kd.V_drewN | apply Kd.V_drew)); exact HO_2.out) hb); have n3_ := Aside0.mk (Kd.N_below (by (with_reducible repeat (first | apply Kd.N_alloc | apply Kd.N_drewN | apply Kd.N_drew)); exact HO173.out) hb); have n4_ := Aside0.mk (Kd.N_below (by (with_reducible repeat (first | apply Kd.N_alloc | apply Kd.N_drewN | apply Kd.N_drew)); exact HO177.out) hb); have n5_ := Aside0.mk (Kd.N_below (by (with_reducible repeat (first | apply Kd.N_alloc | apply Kd.N_drewN | apply Kd.N_drew)); exact HO181.out) hb); have n6_ := Aside0.mk (below_step (by repeat (first | (with_reducible first | exact HB.out | apply below_alloc | apply pw_below_drewN | apply below_drew1) | exact HB.out)) hb); clear HO_0; clear HO_1; clear HO_2; clear HO173; clear HO177; clear HO181; clear HB; have HO_0 := n0_; have HO_1 := n1_; have HO_2 := n2_; have HO173 := n3_; have HO177 := n4_; have HO181 := n5_; have HB := n6_; clear n0_ n1_ n2_ n3_ n4_ n5_ n6_; (try clear hb); (try clear hb2); (try clear hk); (try clear hi)) | ((with_reducible refine gate_dst (N := 65) rfl ?_); (try (refine gate_guard (by rfl) ?_; dsimp only)); refine Kd.N_lit (Kd.slice 5 (Kd.int .u8)) _ 22 ?hg (N' := 65) ?hd (xs := ([l0, l1, l2] : List (List Int))) (inner := [.slice A0 l0.length c0, .slice A1 l1.length c1, .slice A2 l2.length c2]) (ok := (fun k_ => ((P0_ k_ ∨ P1_ k_ ∨ P2_ k_) ∨ w.heap.size ≤ k_) ∧ some k_ ≠ (.slice Ao22 y171.length co22 : Value).ownBlock ∧ some k_ ≠ (.slice Ao25 y175.length co25 : Value).ownBlock ∧ some k_ ≠ (.slice Ao28 y179.length co28 : Value).ownBlock)) (okp := (fun k_ => ((P0_ k_ ∨ P1_ k_ ∨ P2_ k_) ∨ w.heap.size ≤ k_) ∧ some k_ ≠ (.slice Ao22 y171.length co22 : Value).ownBlock ∧ some k_ ≠ (.slice Ao25 y175.length co25 : Value).ownBlock ∧ some k_ ≠ (.slice Ao28 y179.length co28 : Value).ownBlock)) ?hr ?hp (fun _ hk => hk) ((show ∀ k_, w32.heap.size ≤ k_ → (fun k_ => ((P0_ k_ ∨ P1_ k_ ∨ P2_ k_) ∨ w.heap.size ≤ k_) ∧ some k_ ≠ (.slice Ao22 y171.length co22 : Value).ownBlock ∧ some k_ ≠ (.slice Ao25 y175.length co25 : Value).ownBlock ∧ some k_ ≠ (.slice Ao28 y179.length co28 : Value).ownBlock) k_ from fun k_ hk => ⟨(.inr (Nat.le_trans (below_size (by repeat (first | (with_reducible first | exact HB.out | apply below_alloc | apply pw_below_drewN | apply below_drew1) | exact HB.out))) hk)), Kd.fresh' (Kd.N_lt (by (with_reducible repeat (first | apply Kd.N_alloc | apply Kd.N_drewN | apply Kd.N_drew)); exact HO173.out)) k_ hk, Kd.fresh' (Kd.N_lt (by (with_reducible repeat (first | apply Kd.N_alloc | apply Kd.N_drewN | apply Kd.N_drew)); exact HO177.out)) k_ hk, Kd.fresh' (Kd.N_lt (by (with_reducible repeat (first | apply Kd.N_alloc | apply Kd.N_drewN | apply Kd.N_drew)); exact HO181.out)) k_ hk⟩) _ (Nat.le_refl _)) (Below.refl _ _) (Nat.le_refl _) (by simp) ?_; (case hd => rfl); (case hg => rfl); (case hr => first | (go_simp; done) | (go_simp; rfl)); (case hp => first | exact (Reps.one (show Kd.FK (Kd.slice 5 (Kd.int .u8)) _ _ l0 [.slice A0 l0.length c0] from (Kd.FK_slice_mk (Kd.V_reads' (Kd.V_mono (ok' := (fun k_ => ((P0_ k_ ∨ P1_ k_ ∨ P2_ k_) ∨ w.heap.size ≤ k_) ∧ some k_ ≠ (.slice Ao22 y171.length co22 : Value).ownBlock ∧ some k_ ≠ (.slice Ao25 y175.length co25 : Value).ownBlock ∧ some k_ ≠ (.slice Ao28 y179.length co28 : Value).ownBlock)) (HO_0.out) (fun k_ hk => ⟨hk.1.1.1, ⟨hk.1.1.2, ⟨hk.1.2, hk.2⟩⟩⟩))).2.1 (Kd.V_F (Kd.V_mono (ok' := (fun k_ => ((P0_ k_ ∨ P1_ k_ ∨ P2_ k_) ∨ w.heap.size ≤ k_) ∧ some k_ ≠ (.slice Ao22 y171.length co22 : Value).ownBlock ∧ some k_ ≠ (.slice Ao25 y175.length co25 : Value).ownBlock ∧ some k_ ≠ (.slice Ao28 y179.length co28 : Value).ownBlock)) (HO_0.out) (fun k_ hk => ⟨hk.1.1.1, ⟨hk.1.1.2, ⟨hk.1.2, hk.2⟩⟩⟩))))) (Reps.one (show Kd.FK (Kd.slice 5 (Kd.int .u8)) _ _ l1 [.slice A1 l1.length c1] from (Kd.FK_slice_mk (Kd.V_reads' (Kd.V_mono (ok' := (fun k_ => ((P0_ k_ ∨ P1_ k_ ∨ P2_ k_) ∨ w.heap.size ≤ k_) ∧ some k_ ≠ (.slice Ao22 y171.length co22 : Value).ownBlock ∧ some k_ ≠ (.slice Ao25 y175.length co25 : Value).ownBlock ∧ some k_ ≠ (.slice Ao28 y179.length co28 : Value).ownBlock)) (HO_1.out) (fun k_ hk => ⟨hk.1.1.1, ⟨hk.1.1.2, ⟨hk.1.2, hk.2⟩⟩⟩))).2.1 (Kd.V_F (Kd.V_mono (ok' := (fun k_ => ((P0_ k_ ∨ P1_ k_ ∨ P2_ k_) ∨ w.heap.size ≤ k_) ∧ some k_ ≠ (.slice Ao22 y171.length co22 : Value).ownBlock ∧ some k_ ≠ (.slice Ao25 y175.length co25 : Value).ownBlock ∧ some k_ ≠ (.slice Ao28 y179.length co28 : Value).ownBlock)) (HO_1.out) (fun k_ hk => ⟨hk.1.1.1, ⟨hk.1.1.2, ⟨hk.1.2, hk.2⟩⟩⟩))))) (Reps.one (show Kd.FK (Kd.slice 5 (Kd.int .u8)) _ _ l2 [.slice A2 l2.length c2] from (Kd.FK_slice_mk (Kd.V_reads' (Kd.V_mono (ok' := (fun k_ => ((P0_ k_ ∨ P1_ k_ ∨ P2_ k_) ∨ w.heap.size ≤ k_) ∧ some k_ ≠ (.slice Ao22 y171.length co22 : Value).ownBlock ∧ some k_ ≠ (.slice Ao25 y175.length co25 : Value).ownBlock ∧ some k_ ≠ (.slice Ao28 y179.length co28 : Value).ownBlock)) (HO_2.out) (fun k_ hk => ⟨hk.1.1.1, ⟨hk.1.1.2, ⟨hk.1.2, hk.2⟩⟩⟩))).2.1 (Kd.V_F (Kd.V_mono (ok' := (fun k_ => ((P0_ k_ ∨ P1_ k_ ∨ P2_ k_) ∨ w.heap.size ≤ k_) ∧ some k_ ≠ (.slice Ao22 y171.length co22 : Value).ownBlock ∧ some k_ ≠ (.slice Ao25 y175.length co25 : Value).ownBlock ∧ some k_ ≠ (.slice Ao28 y179.length co28 : Value).ownBlock)) (HO_2.out) (fun k_ hk => ⟨hk.1.1.1, ⟨hk.1.1.2, ⟨hk.1.2, hk.2⟩⟩⟩))))) (Reps.none _ _)))) | exact (Reps.one (show Kd.FK (Kd.slice 5 (Kd.int .u8)) _ _ l0 [.slice A0 l0.length c0] from (Kd.FK_slice_mk (Kd.V_reads' (Kd.V_mono (ok' := (fun k_ => ((P0_ k_ ∨ P1_ k_ ∨ P2_ k_) ∨ w.heap.size ≤ k_) ∧ some k_ ≠ (.slice Ao22 y171.length co22 : Value).ownBlock ∧ some k_ ≠ (.slice Ao25 y175.length co25 : Value).ownBlock ∧ some k_ ≠ (.slice Ao28 y179.length co28 : Value).ownBlock)) (HO_0.out) (fun k_ hk => ⟨hk.1.1.1, ⟨hk.1.1.2, ⟨hk.1.2, hk.2⟩⟩⟩))).2.1 (Kd.V_F (Kd.V_mono (ok' := (fun k_ => ((P0_ k_ ∨ P1_ k_ ∨ P2_ k_) ∨ w.heap.size ≤ k_) ∧ some k_ ≠ (.slice Ao22 y171.length co22 : Value).ownBlock ∧ some k_ ≠ (.slice Ao25 y175.length co25 : Value).ownBlock ∧ some k_ ≠ (.slice Ao28 y179.length co28 : Value).ownBlock)) (Kd.V_drewN HO_0.out _) (fun k_ hk => ⟨hk.1.1.1, ⟨hk.1.1.2, ⟨hk.1.2, hk.2⟩⟩⟩))))) (Reps.one (show Kd.FK (Kd.slice 5 (Kd.int .u8)) _ _ l1 [.slice A1 l1.length c1] from (Kd.FK_slice_mk (Kd.V_reads' (Kd.V_mono (ok' := (fun k_ => ((P0_ k_ ∨ P1_ k_ ∨ P2_ k_) ∨ w.heap.size ≤ k_) ∧ some k_ ≠ (.slice Ao22 y171.length co22 : Value).ownBlock ∧ some k_ ≠ (.slice Ao25 y175.length co25 : Value).ownBlock ∧ some k_ ≠ (.slice Ao28 y179.length co28 : Value).ownBlock)) (HO_1.out) (fun k_ hk => ⟨hk.1.1.1, ⟨hk.1.1.2, ⟨hk.1.2, hk.2⟩⟩⟩))).2.1 (Kd.V_F (Kd.V_mono (ok' := (fun k_ => ((P0_ k_ ∨ P1_ k_ ∨ P2_ k_) ∨ w.heap.size ≤ k_) ∧ some k_ ≠ (.slice Ao22 y171.length co22 : Value).ownBlock ∧ some k_ ≠ (.slice Ao25 y175.length co25 : Value).ownBlock ∧ some k_ ≠ (.slice Ao28 y179.length co28 : Value).ownBlock)) (Kd.V_drewN HO_1.out _) (fun k_ hk => ⟨hk.1.1.1, ⟨hk.1.1.2, ⟨hk.1.2, hk.2⟩⟩⟩))))) (Reps.one (show Kd.FK (Kd.slice 5 (Kd.int .u8)) _ _ l2 [.slice A2 l2.length c2] from (Kd.FK_slice_mk (Kd.V_reads' (Kd.V_mono (ok' := (fun k_ => ((P0_ k_ ∨ P1_ k_ ∨ P2_ k_) ∨ w.heap.size ≤ k_) ∧ some k_ ≠ (.slice Ao22 y171.length co22 : Value).ownBlock ∧ some k_ ≠ (.slice Ao25 y175.length co25 : Value).ownBlock ∧ some k_ ≠ (.slice Ao28 y179.length co28 : Value).ownBlock)) (HO_2.out) (fun k_ hk => ⟨hk.1.1.1, ⟨hk.1.1.2, ⟨hk.1.2, hk.2⟩⟩⟩))).2.1 (Kd.V_F (Kd.V_mono (ok' := (fun k_ => ((P0_ k_ ∨ P1_ k_ ∨ P2_ k_) ∨ w.heap.size ≤ k_) ∧ some k_ ≠ (.slice Ao22 y171.length co22 : Value).ownBlock ∧ some k_ ≠ (.slice Ao25 y175.length co25 : Value).ownBlock ∧ some k_ ≠ (.slice Ao28 y179.length co28 : Value).ownBlock)) (Kd.V_drewN HO_2.out _) (fun k_ hk => ⟨hk.1.1.1, ⟨hk.1.1.2, ⟨hk.1.2, hk.2⟩⟩⟩))))) (Reps.none _ _))))); intro v188 w33 ho34 hb hg_ hnew_; clear hg_ hnew_; (first | rw [← Ny187.out] at ho34 | (simp only [Int.reduceToNat] at ho34; rw [← Ny187.out] at ho34)); have n0_ := Aside0.mk (Kd.V_elder' (by (with_reducible repeat (first | apply Kd.V_alloc | apply Kd.V_drewN | apply Kd.V_drew)); exact HO_0.out) (Kd.N_base ho34) hb); have n1_ := Aside0.mk (Kd.V_elder' (by (with_reducible repeat (first | apply Kd.V_alloc | apply Kd.V_drewN | apply Kd.V_drew)); exact HO_1.out) (Kd.N_base ho34) hb); have n2_ := Aside0.mk (Kd.V_elder' (by (with_reducible repeat (first | apply Kd.V_alloc | apply Kd.V_drewN | apply Kd.V_drew)); exact HO_2.out) (Kd.N_base ho34) hb); have n3_ := Aside0.mk (Kd.N_elder' (by (with_reducible repeat (first | apply Kd.N_alloc | apply Kd.N_drewN | apply Kd.N_drew)); exact HO173.out) (Kd.N_base ho34) hb); have n4_ := Aside0.mk (Kd.N_elder' (by (with_reducible repeat (first | apply Kd.N_alloc | apply Kd.N_drewN | apply Kd.N_drew)); exact HO177.out) (Kd.N_base ho34) hb); have n5_ := Aside0.mk (Kd.N_elder' (by (with_reducible repeat (first | apply Kd.N_alloc | apply Kd.N_drewN | apply Kd.N_drew)); exact HO181.out) (Kd.N_base ho34) hb); have n6_ := Aside0.mk (Kd.N_lower ho34 (below_size (by repeat (first | (with_reducible first | exact HB.out | apply below_alloc | apply pw_below_drewN | apply below_drew1) | exact HB.out)))); have n7_ := Aside0.mk (below_step (by repeat (first | (with_reducible first | exact HB.out | apply below_alloc | apply pw_below_drewN | apply below_drew1) | exact HB.out)) hb); clear HO_0; clear HO_1; clear HO_2; clear HO173; clear HO177; clear HO181; clear HB; have HO_0 := n0_; have HO_1 := n1_; have HO_2 := n2_; have HO173 := n3_; have HO177 := n4_; have HO181 := n5_; have HO189 := n6_; have HB := n7_; clear n0_ n1_ n2_ n3_ n4_ n5_ n6_ n7_; clear hb ho34; obtain ⟨Ao35, co35, eo35⟩ := Kd.N_slice HO189.out; subst eo35) | (go_at_call 10; (with_reducible refine (check_Of.calls kj5 _ _ y187 t190 _ ?side1 ?side2 A19.out).mono ?_); (case side1 => repeat (first | exact (Kd.N_reads' HO189.out).2.2 | (with_reducible refine Kd.C_alloc ?_ _) | (with_reducible refine Kd.C_drewN ?_ _) | (with_reducible refine Kd.C_drew ?_))); (case side2 => exact (Kd.N_reads' HO189.out).2.1); rintro e w' ⟨rfl, ⟨nd, rfl⟩⟩))
            go_ret
            exact ⟨by first | rfl | (simp [errW_none, errW_some] <;> rfl) | (simp [*, errW_none, errW_some] <;> rfl), by repeat (first | (with_reducible first | exact HB.out | apply below_alloc | apply pw_below_drewN | apply below_drew1) | exact HB.out)⟩
          · rw [if_neg c18] at H
            have c18b0 : (t184 == t186) = false := beq_eq_false_iff_ne.mpr c18
            have c18b1 : (t184 != t186) = true := bne_iff_ne.mpr c18
            obtain rfl := Option.some.inj H
            exact absurd HRT.out (by decide)
  · replace c5 := Bool.eq_false_iff.mpr c5
    subst c5
    have H1 : (some false) = some r := by rw [if_neg (show ¬ (false = true) by decide)] at H; exact H
    clear H
    have H := H1
    clear H1
    obtain rfl := Option.some.inj H
    exact absurd HRT.out (by decide)

/-! ### check_Noughts: function 13 -/
def check_Noughts.f (a0 : Int) : Option (Int) := (check_on.f 4294967295 a0).bind fun t191 => (some (Go.bits .xor .u32 4294967295 t191))
set_option maxHeartbeats 8000000 in
set_option maxRecDepth 100000 in
theorem check_Noughts.calls (a0 : Int) (r : Int) (w : World) (h : check_Noughts.f a0 = some r) :
    Calls Try.prog 13 #[.int .i64 a0] w fun e w' => e = .returned (.int .u32 r) ∧ Below w.heap.size w w' := by
  have HB := Aside0.mk (Below.refl w.heap.size w)
  have H : ((check_on.f 4294967295 a0).bind fun t191 => (some (Go.bits .xor .u32 4294967295 t191))) = some r := h
  clear h
  replace H := Option.bind_eq_some_iff.mp H
  obtain ⟨t191, A20, H⟩ := H
  replace H : (some (Go.bits .xor .u32 4294967295 t191)) = some r := H
  have A2 := Aside0.mk A20
  clear A20
  obtain rfl := Option.some.inj H
  simp only [Option.some.injEq, Prod.mk.injEq] at H
  obtain ⟨rfl⟩ := H
  go_enter Try.func13, Try.ntmps13
  go_wp2_with (first | ((with_reducible refine gate_callee (f := 17) rfl ?_); refine goesL_ (some 4) rfl rfl Try.func17 (by kernel_rfl) rfl #[.int .u32 4294967295, .int .i64 a0] rfl (by (try simp only [List.map_toArray, List.map_cons, List.map_nil]); first | done | rfl | (simp only [List.length_drop, List.length_take]; rfl)) ?_; (with_reducible refine (check_on.calls 4294967295 a0 t191 _ A2.out).mono ?_); rintro e w3 ⟨rfl, hb⟩; refine ⟨_, rfl, ?_⟩; have n0_ := Aside0.mk (below_step (by repeat (first | (with_reducible first | exact HB.out | apply below_alloc | apply pw_below_drewN | apply below_drew1) | exact HB.out)) hb); clear HB; have HB := n0_; clear n0_; (try clear hb); (try clear hb2); (try clear hk); (try clear hi)))
  go_ret
  exact ⟨by first | rfl | (simp [errW_none, errW_some] <;> rfl) | (simp [*, errW_none, errW_some] <;> rfl), by repeat (first | (with_reducible first | exact HB.out | apply below_alloc | apply pw_below_drewN | apply below_drew1) | exact HB.out)⟩

end Go.Proofs.Ytdpljfpcpfdlcaa.PAll
