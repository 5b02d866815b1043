-- Made by a program of this session (wip/gen)
import Derived.Test.YtdpljfpcpfdlcaaPAllx0
import Derived.Test.YtdpljfpcpfdlcaaPAllx1
import Derived.Test.YtdpljfpcpfdlcaaPAllx2
import Derived.Test.YtdpljfpcpfdlcaaPAllx7
namespace Go.Proofs.Ytdpljfpcpfdlcaa.PAll
open Go.RowKit Go.Proofs.YtdpljfpcpfdlcaaW.PrintWords Go.Proofs.YtdpljfpcpfdlcaaW.PrintLast Go.Proofs.YtdpljfpcpfdlcaaW.PrintMore
attribute [local go_sem] max2_int min2_int max_two min_two max_three min_three max_four min_four   -- for this text's walks alone
set_option linter.unusedVariables false
set_option linter.unusedSimpArgs false

/-! ### packhorselaw05_CheckNothing: function 8 -/
def packhorselaw05_CheckNothing.j0 : Nat → Int → Int → List Int → Bool → Option (Bool)
  | 0, _, _, _, _ => none
  | k + 1, x0, x1, x2, x27 => if x27 = true then (some true) else ((check_Noughts.f x0).bind fun t217 => ((check_Noughts.f x1).bind fun t218 => ((check_Join.f t217 t218 x1).bind fun t219 => ((check_Noughts.f (wrap64 (x0 + x1))).bind fun t220 => (if t219 = t220 then ((check_Of.f k (([[], x2, []] : List (List Int)))).bind fun t224 => ((check_Of.f k (([x2] : List (List Int)))).bind fun t228 => (if t224 = t228 then ((check_Of.f k (([x2] : List (List Int)))).bind fun t232 => ((check_Join.f 0 t232 (x2.length : Int)).bind fun t233 => ((check_Of.f k (([x2] : List (List Int)))).bind fun t237 => (some (t233 == t237))))) else (some false)))) else (some false))))))
def packhorselaw05_CheckNothing.f (k : Nat) (a0 : Int) (a1 : Int) (l2 : List Int) : Option (Bool) := (packhorselaw05_checkAlive.f).bind fun t216 => (if t216 = true then (if a0 < 0 then (packhorselaw05_CheckNothing.j0 k a0 a1 l2 true) else (if a1 < 0 then (packhorselaw05_CheckNothing.j0 k a0 a1 l2 true) else (if a0 > 1099511627776 then (packhorselaw05_CheckNothing.j0 k a0 a1 l2 true) else (if a1 > 1099511627776 then (packhorselaw05_CheckNothing.j0 k a0 a1 l2 true) else (packhorselaw05_CheckNothing.j0 k a0 a1 l2 (decide ((l2.length : Int) > 1000))))))) else (some false))
theorem packhorselaw05_CheckNothing.mono_l : ∀ k, (∀ y0 y1 y2 y3, LeO (packhorselaw05_CheckNothing.j0 k y0 y1 y2 y3) (packhorselaw05_CheckNothing.j0 (k + 1) y0 y1 y2 y3))
  | 0 => fun _ _ _ _ r h => by simp [packhorselaw05_CheckNothing.j0] at h
  | k + 1 => by
    have ih0 := packhorselaw05_CheckNothing.mono_l k
    · intro y0 y1 y2 y3
      unfold packhorselaw05_CheckNothing.j0
      repeat' first
      | (with_reducible exact ih0 _ _ _ _)
      | (with_reducible exact check_Of.mono _ _)
      | (with_reducible exact LeO.refl _)
      | (with_reducible exact LeO.none _)
      | (with_reducible refine LeO.ite ?_ ?_)
      | (with_reducible refine LeO.bind ?_ (fun _ => ?_))
      | exact ih0 _ _ _ _
      | exact check_Of.mono _ _
      | exact LeO.none _
      | refine LeO.ite ?_ ?_
      | refine LeO.bind ?_ (fun _ => ?_)
theorem packhorselaw05_CheckNothing.mono : ∀ a0 a1 a2 k, LeO (packhorselaw05_CheckNothing.f k a0 a1 a2) (packhorselaw05_CheckNothing.f (k + 1) a0 a1 a2) := by
  intro a0 a1 a2 k
  have ih0 := packhorselaw05_CheckNothing.mono_l k
  unfold packhorselaw05_CheckNothing.f
  repeat' first
      | (with_reducible exact ih0 _ _ _ _)
      | (with_reducible exact check_Of.mono _ _)
      | (with_reducible exact LeO.refl _)
      | (with_reducible exact LeO.none _)
      | (with_reducible refine LeO.ite ?_ ?_)
      | (with_reducible refine LeO.bind ?_ (fun _ => ?_))
      | exact ih0 _ _ _ _
      | exact check_Of.mono _ _
      | exact LeO.none _
      | refine LeO.ite ?_ ?_
      | refine LeO.bind ?_ (fun _ => ?_)
set_option maxHeartbeats 8000000 in
set_option maxRecDepth 100000 in
theorem packhorselaw05_CheckNothing.calls (k : Nat) (a0 : Int) (a1 : Int) (P2_ : Nat → Prop) (A2 : Option Addr) (c2 : Nat) (l2 : List Int) (r : Bool) (w : World) (hs2 : Kd.V (Kd.int .u8) 5 w w.heap.size (fun k_ => P2_ k_) (.slice A2 l2.length c2) l2) (h : packhorselaw05_CheckNothing.f k a0 a1 l2 = some r) (hr_ : r = true) :
    Calls Try.prog 8 #[.int .i64 a0, .int .i64 a1, .slice A2 l2.length c2] w fun e w' => e = .returned (.bool r) ∧ Below w.heap.size w w' := by
  have HO2 := Aside0.mk (show Kd.V (Kd.int .u8) 5 w w.heap.size (fun k_ => (P2_ k_ ∨ w.heap.size ≤ k_)) (.slice A2 l2.length c2) l2 from Kd.V_mono hs2 (fun k_ hk => .inl hk))
  have HRT := Aside0.mk hr_
  clear hr_
  have HB := Aside0.mk (Below.refl w.heap.size w)
  have H : ((packhorselaw05_checkAlive.f).bind fun t216 => (if t216 = true then (if a0 < 0 then (packhorselaw05_CheckNothing.j0 k a0 a1 l2 true) else (if a1 < 0 then (packhorselaw05_CheckNothing.j0 k a0 a1 l2 true) else (if a0 > 1099511627776 then (packhorselaw05_CheckNothing.j0 k a0 a1 l2 true) else (if a1 > 1099511627776 then (packhorselaw05_CheckNothing.j0 k a0 a1 l2 true) else (packhorselaw05_CheckNothing.j0 k a0 a1 l2 (decide ((l2.length : Int) > 1000))))))) else (some false))) = some r := h
  clear h
  replace H := Option.bind_eq_some_iff.mp H
  obtain ⟨t216, A40, H⟩ := H
  replace H : (if t216 = true then (if a0 < 0 then (packhorselaw05_CheckNothing.j0 k a0 a1 l2 true) else (if a1 < 0 then (packhorselaw05_CheckNothing.j0 k a0 a1 l2 true) else (if a0 > 1099511627776 then (packhorselaw05_CheckNothing.j0 k a0 a1 l2 true) else (if a1 > 1099511627776 then (packhorselaw05_CheckNothing.j0 k a0 a1 l2 true) else (packhorselaw05_CheckNothing.j0 k a0 a1 l2 (decide ((l2.length : Int) > 1000))))))) else (some false)) = some r := H
  have A4 := Aside0.mk A40
  clear A40
  by_cases c5 : t216 = true
  · subst c5
    have H1 : (if a0 < 0 then (packhorselaw05_CheckNothing.j0 k a0 a1 l2 true) else (if a1 < 0 then (packhorselaw05_CheckNothing.j0 k a0 a1 l2 true) else (if a0 > 1099511627776 then (packhorselaw05_CheckNothing.j0 k a0 a1 l2 true) else (if a1 > 1099511627776 then (packhorselaw05_CheckNothing.j0 k a0 a1 l2 true) else (packhorselaw05_CheckNothing.j0 k a0 a1 l2 (decide ((l2.length : Int) > 1000))))))) = some r := by rw [if_pos rfl] at H; exact H
    clear H
    have H := H1
    clear H1
    have HC6 := Aside0.mk H
    clear H
    go_enter Try.func8, Try.ntmps8
    go_upto_region 3 with (first | ((with_reducible refine gate_callee (f := 9) rfl ?_); refine goesL_ (some 7) rfl rfl Try.func9 (by kernel_rfl) rfl #[] rfl (by (try simp only [List.map_toArray, List.map_cons, List.map_nil]); first | done | rfl | (simp only [List.length_drop, List.length_take]; rfl)) ?_; (with_reducible refine (packhorselaw05_checkAlive.calls  true _ A4.out rfl).mono ?_); rintro e w7 ⟨rfl, hb⟩; refine ⟨_, rfl, ?_⟩; have n0_ := Aside0.mk (Kd.V_below (by (with_reducible repeat (first | apply Kd.V_alloc | apply Kd.V_drewN | apply Kd.V_drew)); exact HO2.out) hb); have n1_ := Aside0.mk (below_step (by repeat (first | (with_reducible first | exact HB.out | apply below_alloc | apply pw_below_drewN | apply below_drew1) | exact HB.out)) hb); clear HO2; clear HB; have HO2 := n0_; have HB := n1_; clear n0_ n1_; (try clear hb); (try clear hb2); (try clear hk); (try clear hi)))
    (try simp only [Act.put, List.setIfInBounds_toArray, List.set_cons_zero, List.set_cons_succ])
    go_cut [27] (fun v27 wc => ∃ (kq : Nat) (x27_5 : Bool), v27 = .bool x27_5 ∧ Aside0 (packhorselaw05_CheckNothing.j0 kq a0 a1 l2 x27_5 = some r) ∧ Aside0 (kq ≤ k) ∧ Aside0 (Kd.V (Kd.int .u8) 5 wc w.heap.size (fun k_ => (P2_ k_ ∨ w.heap.size ≤ k_)) (.slice A2 l2.length c2) l2) ∧ Aside0 (Below w.heap.size w wc))
    case first =>
      have H := HC6.out
      clear HC6
      by_cases c8 : a0 < 0
      · rw [if_pos c8] at H
        have c8b0 : decide (a0 < 0) = true := decide_eq_true c8
        clear c8
        (first | rw [c8b0] | (simp only [i64_w, i32_w]; rw [c8b0]) | skip)
        have H' := Aside0.mk H
        clear H
        go_wp2
        go_meet
        case rel => exact ⟨_, (true), (by first | rfl | (simp; done) | (simp [*]; done)), H', ⟨by first | omega | exact Nat.le_refl _⟩, ⟨by (with_reducible repeat (first | apply Kd.V_alloc | apply Kd.V_drewN | apply Kd.V_drew)); exact HO2.out⟩, ⟨by repeat (first | (with_reducible first | exact HB.out | apply below_alloc | apply pw_below_drewN | apply below_drew1) | exact HB.out)⟩⟩
      · rw [if_neg c8] at H
        have c8b0 : decide (a0 < 0) = false := decide_eq_false c8
        clear c8
        (first | rw [c8b0] | (simp only [i64_w, i32_w]; rw [c8b0]) | skip)
        by_cases c9 : a1 < 0
        · rw [if_pos c9] at H
          have c9b0 : decide (a1 < 0) = true := decide_eq_true c9
          clear c9
          have H' := Aside0.mk H
          clear H
          go_wp2
          go_meet
          case rel => exact ⟨_, (true), (by first | rfl | (simp; done) | (simp [*]; done)), H', ⟨by first | omega | exact Nat.le_refl _⟩, ⟨by (with_reducible repeat (first | apply Kd.V_alloc | apply Kd.V_drewN | apply Kd.V_drew)); exact HO2.out⟩, ⟨by repeat (first | (with_reducible first | exact HB.out | apply below_alloc | apply pw_below_drewN | apply below_drew1) | exact HB.out)⟩⟩
        · rw [if_neg c9] at H
          have c9b0 : decide (a1 < 0) = false := decide_eq_false c9
          clear c9
          by_cases c10 : a0 > 1099511627776
          · rw [if_pos c10] at H
            have c10b0 : decide (1099511627776 < a0) = true := decide_eq_true c10
            clear c10
            have H' := Aside0.mk H
            clear H
            go_wp2
            go_meet
            case rel => exact ⟨_, (true), (by first | rfl | (simp; done) | (simp [*]; done)), H', ⟨by first | omega | exact Nat.le_refl _⟩, ⟨by (with_reducible repeat (first | apply Kd.V_alloc | apply Kd.V_drewN | apply Kd.V_drew)); exact HO2.out⟩, ⟨by repeat (first | (with_reducible first | exact HB.out | apply below_alloc | apply pw_below_drewN | apply below_drew1) | exact HB.out)⟩⟩
          · rw [if_neg c10] at H
            have c10b0 : decide (1099511627776 < a0) = false := decide_eq_false c10
            clear c10
            by_cases c11 : a1 > 1099511627776
            · rw [if_pos c11] at H
              have c11b0 : decide (1099511627776 < a1) = true := decide_eq_true c11
              clear c11
              have H' := Aside0.mk H
              clear H
              go_wp2
              go_meet
              case rel => exact ⟨_, (true), (by first | rfl | (simp; done) | (simp [*]; done)), H', ⟨by first | omega | exact Nat.le_refl _⟩, ⟨by (with_reducible repeat (first | apply Kd.V_alloc | apply Kd.V_drewN | apply Kd.V_drew)); exact HO2.out⟩, ⟨by repeat (first | (with_reducible first | exact HB.out | apply below_alloc | apply pw_below_drewN | apply below_drew1) | exact HB.out)⟩⟩
            · rw [if_neg c11] at H
              have c11b0 : decide (1099511627776 < a1) = false := decide_eq_false c11
              clear c11
              have H' := Aside0.mk H
              clear H
              go_wp2
              go_meet
              case rel => exact ⟨_, (decide ((l2.length : Int) > 1000)), (by first | rfl | (simp; done) | (simp [*]; done)), H', ⟨by first | omega | exact Nat.le_refl _⟩, ⟨by (with_reducible repeat (first | apply Kd.V_alloc | apply Kd.V_drewN | apply Kd.V_drew)); exact HO2.out⟩, ⟨by repeat (first | (with_reducible first | exact HB.out | apply below_alloc | apply pw_below_drewN | apply below_drew1) | exact HB.out)⟩⟩
    case rest =>
      clear HC6
      try clear c1
      try clear c2
      try clear p2
      try clear c5
      try clear c8
      try clear c8b0
      try clear c9
      try clear c9b0
      try clear c10
      try clear c10b0
      try clear c11
      try clear c11b0
      obtain ⟨kq, x27_5, rfl, HA, HJ5, HO_2, HB⟩ := hcut
      cases kq with
      | zero => exact absurd HA.out (by simp [packhorselaw05_CheckNothing.j0])
      | succ kj5 =>
        have H := HA.out
        clear HA
        simp only [packhorselaw05_CheckNothing.j0] at H
        by_cases c12 : x27_5 = true
        · subst c12
          have H1 : (some true) = some r := by rw [if_pos rfl] at H; exact H
          clear H
          have H := H1
          clear H1
          obtain rfl := Option.some.inj H
          simp only [Option.some.injEq, Prod.mk.injEq] at H
          obtain ⟨rfl⟩ := H
          go_wp2
          go_ret
          exact ⟨by first | rfl | (simp [errW_none, errW_some] <;> rfl) | (simp [*, errW_none, errW_some] <;> rfl), by repeat (first | (with_reducible first | exact HB.out | apply below_alloc | apply pw_below_drewN | apply below_drew1) | exact HB.out)⟩
        · replace c12 := Bool.eq_false_iff.mpr c12
          subst c12
          have H1 : ((check_Noughts.f a0).bind fun t217 => ((check_Noughts.f a1).bind fun t218 => ((check_Join.f t217 t218 a1).bind fun t219 => ((check_Noughts.f (wrap64 (a0 + a1))).bind fun t220 => (if t219 = t220 then ((check_Of.f kj5 (([[], l2, []] : List (List Int)))).bind fun t224 => ((check_Of.f kj5 (([l2] : List (List Int)))).bind fun t228 => (if t224 = t228 then ((check_Of.f kj5 (([l2] : List (List Int)))).bind fun t232 => ((check_Join.f 0 t232 (l2.length : Int)).bind fun t233 => ((check_Of.f kj5 (([l2] : List (List Int)))).bind fun t237 => (some (t233 == t237))))) else (some false)))) else (some false)))))) = some r := by rw [if_neg (show ¬ (false = true) by decide)] at H; exact H
          clear H
          have H := H1
          clear H1
          replace H := Option.bind_eq_some_iff.mp H
          obtain ⟨t217, A130, H⟩ := H
          replace H : ((check_Noughts.f a1).bind fun t218 => ((check_Join.f t217 t218 a1).bind fun t219 => ((check_Noughts.f (wrap64 (a0 + a1))).bind fun t220 => (if t219 = t220 then ((check_Of.f kj5 (([[], l2, []] : List (List Int)))).bind fun t224 => ((check_Of.f kj5 (([l2] : List (List Int)))).bind fun t228 => (if t224 = t228 then ((check_Of.f kj5 (([l2] : List (List Int)))).bind fun t232 => ((check_Join.f 0 t232 (l2.length : Int)).bind fun t233 => ((check_Of.f kj5 (([l2] : List (List Int)))).bind fun t237 => (some (t233 == t237))))) else (some false)))) else (some false))))) = some r := H
          have A13 := Aside0.mk A130
          clear A130
          replace H := Option.bind_eq_some_iff.mp H
          obtain ⟨t218, A140, H⟩ := H
          replace H : ((check_Join.f t217 t218 a1).bind fun t219 => ((check_Noughts.f (wrap64 (a0 + a1))).bind fun t220 => (if t219 = t220 then ((check_Of.f kj5 (([[], l2, []] : List (List Int)))).bind fun t224 => ((check_Of.f kj5 (([l2] : List (List Int)))).bind fun t228 => (if t224 = t228 then ((check_Of.f kj5 (([l2] : List (List Int)))).bind fun t232 => ((check_Join.f 0 t232 (l2.length : Int)).bind fun t233 => ((check_Of.f kj5 (([l2] : List (List Int)))).bind fun t237 => (some (t233 == t237))))) else (some false)))) else (some false)))) = some r := H
          have A14 := Aside0.mk A140
          clear A140
          replace H := Option.bind_eq_some_iff.mp H
          obtain ⟨t219, A150, H⟩ := H
          replace H : ((check_Noughts.f (wrap64 (a0 + a1))).bind fun t220 => (if t219 = t220 then ((check_Of.f kj5 (([[], l2, []] : List (List Int)))).bind fun t224 => ((check_Of.f kj5 (([l2] : List (List Int)))).bind fun t228 => (if t224 = t228 then ((check_Of.f kj5 (([l2] : List (List Int)))).bind fun t232 => ((check_Join.f 0 t232 (l2.length : Int)).bind fun t233 => ((check_Of.f kj5 (([l2] : List (List Int)))).bind fun t237 => (some (t233 == t237))))) else (some false)))) else (some false))) = some r := H
          have A15 := Aside0.mk A150
          clear A150
          replace H := Option.bind_eq_some_iff.mp H
          obtain ⟨t220, A160, H⟩ := H
          replace H : (if t219 = t220 then ((check_Of.f kj5 (([[], l2, []] : List (List Int)))).bind fun t224 => ((check_Of.f kj5 (([l2] : List (List Int)))).bind fun t228 => (if t224 = t228 then ((check_Of.f kj5 (([l2] : List (List Int)))).bind fun t232 => ((check_Join.f 0 t232 (l2.length : Int)).bind fun t233 => ((check_Of.f kj5 (([l2] : List (List Int)))).bind fun t237 => (some (t233 == t237))))) else (some false)))) else (some false)) = some r := H
          have A16 := Aside0.mk A160
          clear A160
          by_cases c17 : t219 = t220
          · rw [if_pos c17] at H
            have c17b0 : (t219 == t220) = true := beq_iff_eq.mpr c17
            have c17b1 : (t219 != t220) = false := bne_eq_false_iff_eq.mpr c17
            clear c17
            obtain ⟨y221, hy221⟩ : ∃ y_ : List (List Int), y_ = (([[], l2, []] : List (List Int))) := ⟨_, rfl⟩
            replace H : ((check_Of.f kj5 y221).bind fun t224 => ((check_Of.f kj5 (([l2] : List (List Int)))).bind fun t228 => (if t224 = t228 then ((check_Of.f kj5 (([l2] : List (List Int)))).bind fun t232 => ((check_Join.f 0 t232 (l2.length : Int)).bind fun t233 => ((check_Of.f kj5 (([l2] : List (List Int)))).bind fun t237 => (some (t233 == t237))))) else (some false)))) = some r := by first | (rw [hy221]; with_reducible exact H) | (have H2_ := (Option.bind_some _ _).symm.trans H; rw [hy221]; with_reducible exact H2_) | (have H2_ := (Option.bind_some _ _).symm.trans H; with_reducible exact H2_) | with_reducible exact H | (rw [hy221]; exact H) | exact H
            have Ny221 := Aside0.mk hy221
            clear hy221
            replace H := Option.bind_eq_some_iff.mp H
            obtain ⟨t224, A180, H⟩ := H
            replace H : ((check_Of.f kj5 (([l2] : List (List Int)))).bind fun t228 => (if t224 = t228 then ((check_Of.f kj5 (([l2] : List (List Int)))).bind fun t232 => ((check_Join.f 0 t232 (l2.length : Int)).bind fun t233 => ((check_Of.f kj5 (([l2] : List (List Int)))).bind fun t237 => (some (t233 == t237))))) else (some false))) = some r := H
            have A18 := Aside0.mk A180
            clear A180
            obtain ⟨y225, hy225⟩ : ∃ y_ : List (List Int), y_ = (([l2] : List (List Int))) := ⟨_, rfl⟩
            replace H : ((check_Of.f kj5 y225).bind fun t228 => (if t224 = t228 then ((check_Of.f kj5 (([l2] : List (List Int)))).bind fun t232 => ((check_Join.f 0 t232 (l2.length : Int)).bind fun t233 => ((check_Of.f kj5 (([l2] : List (List Int)))).bind fun t237 => (some (t233 == t237))))) else (some false))) = some r := by first | (rw [hy225]; with_reducible exact H) | (have H2_ := (Option.bind_some _ _).symm.trans H; rw [hy225]; with_reducible exact H2_) | (have H2_ := (Option.bind_some _ _).symm.trans H; with_reducible exact H2_) | with_reducible exact H | (rw [hy225]; exact H) | exact H
            have Ny225 := Aside0.mk hy225
            clear hy225
            replace H := Option.bind_eq_some_iff.mp H
            obtain ⟨t228, A190, H⟩ := H
            replace H : (if t224 = t228 then ((check_Of.f kj5 (([l2] : List (List Int)))).bind fun t232 => ((check_Join.f 0 t232 (l2.length : Int)).bind fun t233 => ((check_Of.f kj5 (([l2] : List (List Int)))).bind fun t237 => (some (t233 == t237))))) else (some false)) = some r := H
            have A19 := Aside0.mk A190
            clear A190
            by_cases c20 : t224 = t228
            · rw [if_pos c20] at H
              have c20b0 : (t224 == t228) = true := beq_iff_eq.mpr c20
              have c20b1 : (t224 != t228) = false := bne_eq_false_iff_eq.mpr c20
              clear c20
              obtain ⟨y229, hy229⟩ : ∃ y_ : List (List Int), y_ = (([l2] : List (List Int))) := ⟨_, rfl⟩
              replace H : ((check_Of.f kj5 y229).bind fun t232 => ((check_Join.f 0 t232 (l2.length : Int)).bind fun t233 => ((check_Of.f kj5 (([l2] : List (List Int)))).bind fun t237 => (some (t233 == t237))))) = some r := by first | (rw [hy229]; with_reducible exact H) | (have H2_ := (Option.bind_some _ _).symm.trans H; rw [hy229]; with_reducible exact H2_) | (have H2_ := (Option.bind_some _ _).symm.trans H; with_reducible exact H2_) | with_reducible exact H | (rw [hy229]; exact H) | exact H
              have Ny229 := Aside0.mk hy229
              clear hy229
              replace H := Option.bind_eq_some_iff.mp H
              obtain ⟨t232, A210, H⟩ := H
              replace H : ((check_Join.f 0 t232 (l2.length : Int)).bind fun t233 => ((check_Of.f kj5 (([l2] : List (List Int)))).bind fun t237 => (some (t233 == t237)))) = some r := H
              have A21 := Aside0.mk A210
              clear A210
              replace H := Option.bind_eq_some_iff.mp H
              obtain ⟨t233, A220, H⟩ := H
              replace H : ((check_Of.f kj5 (([l2] : List (List Int)))).bind fun t237 => (some (t233 == t237))) = some r := H
              have A22 := Aside0.mk A220
              clear A220
              obtain ⟨y234, hy234⟩ : ∃ y_ : List (List Int), y_ = (([l2] : List (List Int))) := ⟨_, rfl⟩
              replace H : ((check_Of.f kj5 y234).bind fun t237 => (some (t233 == t237))) = some r := by first | (rw [hy234]; with_reducible exact H) | (have H2_ := (Option.bind_some _ _).symm.trans H; rw [hy234]; with_reducible exact H2_) | (have H2_ := (Option.bind_some _ _).symm.trans H; with_reducible exact H2_) | with_reducible exact H | (rw [hy234]; exact H) | exact H
              have Ny234 := Aside0.mk hy234
              clear hy234
              replace H := Option.bind_eq_some_iff.mp H
              obtain ⟨t237, A230, H⟩ := H
              replace H : (some (t233 == t237)) = some r := H
              have A23 := Aside0.mk A230
              clear A230
              obtain rfl := Option.some.inj H
              simp only [Option.some.injEq, Prod.mk.injEq] at H
              obtain ⟨rfl⟩ := H
              go_wp2_with (first | ((with_reducible refine gate_callee (f := 13) rfl ?_); refine goesL_ (some 29) rfl rfl Try.func13 (by kernel_rfl) rfl #[.int .i64 a0] rfl (by (try simp only [List.map_toArray, List.map_cons, List.map_nil]); first | done | rfl | (simp only [List.length_drop, List.length_take]; rfl)) ?_; (with_reducible refine (check_Noughts.calls a0 t217 _ A13.out).mono ?_); rintro e w24 ⟨rfl, hb⟩; refine ⟨_, rfl, ?_⟩; have n0_ := Aside0.mk (Kd.V_below (by (with_reducible repeat (first | apply Kd.V_alloc | apply Kd.V_drewN | apply Kd.V_drew)); exact HO_2.out) hb); have n1_ := Aside0.mk (below_step (by repeat (first | (with_reducible first | exact HB.out | apply below_alloc | apply pw_below_drewN | apply below_drew1) | exact HB.out)) hb); clear HO_2; clear HB; have HO_2 := n0_; have HB := n1_; clear n0_ n1_; (try clear hb); (try clear hb2); (try clear hk); (try clear hi)) | ((with_reducible refine gate_callee (f := 13) rfl ?_); refine goesL_ (some 31) rfl rfl Try.func13 (by kernel_rfl) rfl #[.int .i64 a1] rfl (by (try simp only [List.map_toArray, List.map_cons, List.map_nil]); first | done | rfl | (simp only [List.length_drop, List.length_take]; rfl)) ?_; (with_reducible refine (check_Noughts.calls a1 t218 _ A14.out).mono ?_); rintro e w25 ⟨rfl, hb⟩; refine ⟨_, rfl, ?_⟩; have n0_ := Aside0.mk (Kd.V_below (by (with_reducible repeat (first | apply Kd.V_alloc | apply Kd.V_drewN | apply Kd.V_drew)); exact HO_2.out) hb); have n1_ := Aside0.mk (below_step (by repeat (first | (with_reducible first | exact HB.out | apply below_alloc | apply pw_below_drewN | apply below_drew1) | exact HB.out)) hb); clear HO_2; clear HB; have HO_2 := n0_; have HB := n1_; clear n0_ n1_; (try clear hb); (try clear hb2); (try clear hk); (try clear hi)) | ((with_reducible refine gate_callee (f := 12) rfl ?_); refine goesL_ (some 33) rfl rfl Try.func12 (by kernel_rfl) rfl #[.int .u32 t217, .int .u32 t218, .int .i64 a1] rfl (by (try simp only [List.map_toArray, List.map_cons, List.map_nil]); first | done | rfl | (simp only [List.length_drop, List.length_take]; rfl)) ?_; (with_reducible refine (check_Join.calls t217 t218 a1 t219 _ A15.out).mono ?_); rintro e w26 ⟨rfl, hb⟩; refine ⟨_, rfl, ?_⟩; have n0_ := Aside0.mk (Kd.V_below (by (with_reducible repeat (first | apply Kd.V_alloc | apply Kd.V_drewN | apply Kd.V_drew)); exact HO_2.out) hb); have n1_ := Aside0.mk (below_step (by repeat (first | (with_reducible first | exact HB.out | apply below_alloc | apply pw_below_drewN | apply below_drew1) | exact HB.out)) hb); clear HO_2; clear HB; have HO_2 := n0_; have HB := n1_; clear n0_ n1_; (try clear hb); (try clear hb2); (try clear hk); (try clear hi)) | ((with_reducible refine gate_callee (f := 13) rfl ?_); refine goesL_ (some 37) rfl rfl Try.func13 (by kernel_rfl) rfl #[.int .i64 (wrap64 (a0 + a1))] rfl (by (try simp only [List.map_toArray, List.map_cons, List.map_nil]); first | done | rfl | (simp only [List.length_drop, List.length_take]; rfl)) ?_; (with_reducible refine (check_Noughts.calls (wrap64 (a0 + a1)) t220 _ A16.out).mono ?_); rintro e w27 ⟨rfl, hb⟩; refine ⟨_, rfl, ?_⟩; have n0_ := Aside0.mk (Kd.V_below (by (with_reducible repeat (first | apply Kd.V_alloc | apply Kd.V_drewN | apply Kd.V_drew)); exact HO_2.out) hb); have n1_ := Aside0.mk (below_step (by repeat (first | (with_reducible first | exact HB.out | apply below_alloc | apply pw_below_drewN | apply below_drew1) | exact HB.out)) hb); clear HO_2; clear HB; have HO_2 := n0_; have HB := n1_; clear n0_ n1_; (try clear hb); (try clear hb2); (try clear hk); (try clear hi)) | ((with_reducible refine gate_dst (N := 41) rfl ?_); (try (refine gate_guard (by rfl) ?_; dsimp only)); refine Kd.N_lit (Kd.slice 5 (Kd.int .u8)) _ 22 ?hg (N' := 41) ?hd (xs := ([[], l2, []] : List (List Int))) (inner := [.slice none 0 0, .slice A2 l2.length c2, .slice none 0 0]) (ok := (fun k_ => (P2_ k_ ∨ w.heap.size ≤ k_))) (okp := (fun k_ => (P2_ k_ ∨ w.heap.size ≤ k_))) ?hr ?hp (fun _ hk => hk) ((show ∀ k_, w27.heap.size ≤ k_ → (fun k_ => (P2_ k_ ∨ w.heap.size ≤ k_)) k_ from fun k_ hk => (.inr (Nat.le_trans (below_size (by repeat (first | (with_reducible first | exact HB.out | apply below_alloc | apply pw_below_drewN | apply below_drew1) | exact HB.out))) hk))) _ (Nat.le_refl _)) (Below.refl _ _) (Nat.le_refl _) (by simp) ?_; (case hd => rfl); (case hg => rfl); (case hr => first | (go_simp; done) | (go_simp; rfl)); (case hp => first | exact (Reps.one (show Kd.FK (Kd.slice 5 (Kd.int .u8)) _ _ [] [.slice none 0 0] from (Kd.FK_slice_mk (Nat.le_refl _) (Kd.F_nil _ _ _))) (Reps.one (show Kd.FK (Kd.slice 5 (Kd.int .u8)) _ _ l2 [.slice A2 l2.length c2] from (Kd.FK_slice_mk (Kd.V_reads' (Kd.V_mono (ok' := (fun k_ => (P2_ k_ ∨ w.heap.size ≤ k_))) (HO_2.out) (fun k_ hk => hk))).2.1 (Kd.V_F (Kd.V_mono (ok' := (fun k_ => (P2_ k_ ∨ w.heap.size ≤ k_))) (HO_2.out) (fun k_ hk => hk))))) (Reps.one (show Kd.FK (Kd.slice 5 (Kd.int .u8)) _ _ [] [.slice none 0 0] from (Kd.FK_slice_mk (Nat.le_refl _) (Kd.F_nil _ _ _))) (Reps.none _ _)))) | exact (Reps.one (show Kd.FK (Kd.slice 5 (Kd.int .u8)) _ _ [] [.slice none 0 0] from (Kd.FK_slice_mk (Nat.le_refl _) (Kd.F_nil _ _ _))) (Reps.one (show Kd.FK (Kd.slice 5 (Kd.int .u8)) _ _ l2 [.slice A2 l2.length c2] from (Kd.FK_slice_mk (Kd.V_reads' (Kd.V_mono (ok' := (fun k_ => (P2_ k_ ∨ w.heap.size ≤ k_))) (HO_2.out) (fun k_ hk => hk))).2.1 (Kd.V_F (Kd.V_mono (ok' := (fun k_ => (P2_ k_ ∨ w.heap.size ≤ k_))) (Kd.V_drewN HO_2.out _) (fun k_ hk => hk))))) (Reps.one (show Kd.FK (Kd.slice 5 (Kd.int .u8)) _ _ [] [.slice none 0 0] from (Kd.FK_slice_mk (Nat.le_refl _) (Kd.F_nil _ _ _))) (Reps.none _ _))))); intro v222 w28 ho29 hb hg_ hnew_; clear hg_ hnew_; (first | rw [← Ny221.out] at ho29 | (simp only [Int.reduceToNat] at ho29; rw [← Ny221.out] at ho29)); have n0_ := Aside0.mk (Kd.V_elder' (by (with_reducible repeat (first | apply Kd.V_alloc | apply Kd.V_drewN | apply Kd.V_drew)); exact HO_2.out) (Kd.N_base ho29) hb); have n1_ := Aside0.mk (Kd.N_lower ho29 (below_size (by repeat (first | (with_reducible first | exact HB.out | apply below_alloc | apply pw_below_drewN | apply below_drew1) | exact HB.out)))); have n2_ := Aside0.mk (below_step (by repeat (first | (with_reducible first | exact HB.out | apply below_alloc | apply pw_below_drewN | apply below_drew1) | exact HB.out)) hb); clear HO_2; clear HB; have HO_2 := n0_; have HO223 := n1_; have HB := n2_; clear n0_ n1_ n2_; clear hb ho29; obtain ⟨Ao30, co30, eo30⟩ := Kd.N_slice HO223.out; subst eo30) | (go_at_call 10; (with_reducible refine (check_Of.calls kj5 _ _ y221 t224 _ ?side1 ?side2 A18.out).mono ?_); (case side1 => repeat (first | exact (Kd.N_reads' HO223.out).2.2 | (with_reducible refine Kd.C_alloc ?_ _) | (with_reducible refine Kd.C_drewN ?_ _) | (with_reducible refine Kd.C_drew ?_))); (case side2 => exact (Kd.N_reads' HO223.out).2.1); rintro e w' ⟨rfl, ⟨nd, rfl⟩⟩) | ((with_reducible refine gate_dst (N := 44) rfl ?_); (try (refine gate_guard (by rfl) ?_; dsimp only)); refine Kd.N_lit (Kd.slice 5 (Kd.int .u8)) _ 22 ?hg (N' := 44) ?hd (xs := ([l2] : List (List Int))) (inner := [.slice A2 l2.length c2]) (ok := (fun k_ => (P2_ k_ ∨ w.heap.size ≤ k_) ∧ some k_ ≠ (.slice Ao30 y221.length co30 : Value).ownBlock)) (okp := (fun k_ => (P2_ k_ ∨ w.heap.size ≤ k_) ∧ some k_ ≠ (.slice Ao30 y221.length co30 : Value).ownBlock)) ?hr ?hp (fun _ hk => hk) ((show ∀ k_, w28.heap.size ≤ k_ → (fun k_ => (P2_ k_ ∨ w.heap.size ≤ k_) ∧ some k_ ≠ (.slice Ao30 y221.length co30 : Value).ownBlock) k_ from fun k_ hk => ⟨(.inr (Nat.le_trans (below_size (by repeat (first | (with_reducible first | exact HB.out | apply below_alloc | apply pw_below_drewN | apply below_drew1) | exact HB.out))) hk)), Kd.fresh' (Kd.N_lt (by (with_reducible repeat (first | apply Kd.N_alloc | apply Kd.N_drewN | apply Kd.N_drew)); exact HO223.out)) k_ hk⟩) _ (Nat.le_refl _)) (Below.refl _ _) (Nat.le_refl _) (by simp) ?_; (case hd => rfl); (case hg => rfl); (case hr => first | (go_simp; done) | (go_simp; rfl)); (case hp => first | exact (Reps.one (show Kd.FK (Kd.slice 5 (Kd.int .u8)) _ _ l2 [.slice A2 l2.length c2] from (Kd.FK_slice_mk (Kd.V_reads' (Kd.V_mono (ok' := (fun k_ => (P2_ k_ ∨ w.heap.size ≤ k_) ∧ some k_ ≠ (.slice Ao30 y221.length co30 : Value).ownBlock)) (HO_2.out) (fun k_ hk => ⟨hk.1, hk.2⟩))).2.1 (Kd.V_F (Kd.V_mono (ok' := (fun k_ => (P2_ k_ ∨ w.heap.size ≤ k_) ∧ some k_ ≠ (.slice Ao30 y221.length co30 : Value).ownBlock)) (HO_2.out) (fun k_ hk => ⟨hk.1, hk.2⟩))))) (Reps.none _ _)) | exact (Reps.one (show Kd.FK (Kd.slice 5 (Kd.int .u8)) _ _ l2 [.slice A2 l2.length c2] from (Kd.FK_slice_mk (Kd.V_reads' (Kd.V_mono (ok' := (fun k_ => (P2_ k_ ∨ w.heap.size ≤ k_) ∧ some k_ ≠ (.slice Ao30 y221.length co30 : Value).ownBlock)) (HO_2.out) (fun k_ hk => ⟨hk.1, hk.2⟩))).2.1 (Kd.V_F (Kd.V_mono (ok' := (fun k_ => (P2_ k_ ∨ w.heap.size ≤ k_) ∧ some k_ ≠ (.slice Ao30 y221.length co30 : Value).ownBlock)) (Kd.V_drewN HO_2.out _) (fun k_ hk => ⟨hk.1, hk.2⟩))))) (Reps.none _ _))); intro v226 w31 ho32 hb hg_ hnew_; clear hg_ hnew_; (first | rw [← Ny225.out] at ho32 | (simp only [Int.reduceToNat] at ho32; rw [← Ny225.out] at ho32)); have n0_ := Aside0.mk (Kd.V_elder' (by (with_reducible repeat (first | apply Kd.V_alloc | apply Kd.V_drewN | apply Kd.V_drew)); exact HO_2.out) (Kd.N_base ho32) hb); have n1_ := Aside0.mk (Kd.N_elder' (by (with_reducible repeat (first | apply Kd.N_alloc | apply Kd.N_drewN | apply Kd.N_drew)); exact HO223.out) (Kd.N_base ho32) hb); have n2_ := Aside0.mk (Kd.N_lower ho32 (below_size (by repeat (first | (with_reducible first | exact HB.out | apply below_alloc | apply pw_below_drewN | apply below_drew1) | exact HB.out)))); have n3_ := Aside0.mk (below_step (by repeat (first | (with_reducible first | exact HB.out | apply below_alloc | apply pw_below_drewN | apply below_drew1) | exact HB.out)) hb); clear HO_2; clear HO223; clear HB; have HO_2 := n0_; have HO223 := n1_; have HO227 := n2_; have HB := n3_; clear n0_ n1_ n2_ n3_; clear hb ho32; obtain ⟨Ao33, co33, eo33⟩ := Kd.N_slice HO227.out; subst eo33) | (go_at_call 10; (with_reducible refine (check_Of.calls kj5 _ _ y225 t228 _ ?side1 ?side2 A19.out).mono ?_); (case side1 => repeat (first | exact (Kd.N_reads' HO227.out).2.2 | (with_reducible refine Kd.C_alloc ?_ _) | (with_reducible refine Kd.C_drewN ?_ _) | (with_reducible refine Kd.C_drew ?_))); (case side2 => exact (Kd.N_reads' HO227.out).2.1); rintro e w' ⟨rfl, ⟨nd, rfl⟩⟩) | ((with_reducible refine gate_dst (N := 50) rfl ?_); (try (refine gate_guard (by rfl) ?_; dsimp only)); refine Kd.N_lit (Kd.slice 5 (Kd.int .u8)) _ 22 ?hg (N' := 50) ?hd (xs := ([l2] : List (List Int))) (inner := [.slice A2 l2.length c2]) (ok := (fun k_ => (P2_ k_ ∨ w.heap.size ≤ k_) ∧ some k_ ≠ (.slice Ao30 y221.length co30 : Value).ownBlock ∧ some k_ ≠ (.slice Ao33 y225.length co33 : Value).ownBlock)) (okp := (fun k_ => (P2_ k_ ∨ w.heap.size ≤ k_) ∧ some k_ ≠ (.slice Ao30 y221.length co30 : Value).ownBlock ∧ some k_ ≠ (.slice Ao33 y225.length co33 : Value).ownBlock)) ?hr ?hp (fun _ hk => hk) ((show ∀ k_, w31.heap.size ≤ k_ → (fun k_ => (P2_ k_ ∨ w.heap.size ≤ k_) ∧ some k_ ≠ (.slice Ao30 y221.length co30 : Value).ownBlock ∧ some k_ ≠ (.slice Ao33 y225.length co33 : Value).ownBlock) k_ from fun k_ hk => ⟨(.inr (Nat.le_trans (below_size (by repeat (first | (with_reducible first | exact HB.out | apply below_alloc | apply pw_below_drewN | apply below_drew1) | exact HB.out))) hk)), Kd.fresh' (Kd.N_lt (by (with_reducible repeat (first | apply Kd.N_alloc | apply Kd.N_drewN | apply Kd.N_drew)); exact HO223.out)) k_ hk, Kd.fresh' (Kd.N_lt (by (with_reducible repeat (first | apply Kd.N_alloc | apply Kd.N_drewN | apply Kd.N_drew)); exact HO227.out)) k_ hk⟩) _ (Nat.le_refl _)) (Below.refl _ _) (Nat.le_refl _) (by simp) ?_; (case hd => rfl); (case hg => rfl); (case hr => first | (go_simp; done) | (go_simp; rfl)); (case hp => first | exact (Reps.one (show Kd.FK (Kd.slice 5 (Kd.int .u8)) _ _ l2 [.slice A2 l2.length c2] from (Kd.FK_slice_mk (Kd.V_reads' (Kd.V_mono (ok' := (fun k_ => (P2_ k_ ∨ w.heap.size ≤ k_) ∧ some k_ ≠ (.slice Ao30 y221.length co30 : Value).ownBlock ∧ some k_ ≠ (.slice Ao33 y225.length co33 : Value).ownBlock)) (HO_2.out) (fun k_ hk => (by first | exact ⟨hk.1.1, ⟨hk.1.2, hk.2⟩⟩ | exact hk)))).2.1 (Kd.V_F (Kd.V_mono (ok' := (fun k_ => (P2_ k_ ∨ w.heap.size ≤ k_) ∧ some k_ ≠ (.slice Ao30 y221.length co30 : Value).ownBlock ∧ some k_ ≠ (.slice Ao33 y225.length co33 : Value).ownBlock)) (HO_2.out) (fun k_ hk => (by first | exact ⟨hk.1.1, ⟨hk.1.2, hk.2⟩⟩ | exact hk)))))) (Reps.none _ _)) | exact (Reps.one (show Kd.FK (Kd.slice 5 (Kd.int .u8)) _ _ l2 [.slice A2 l2.length c2] from (Kd.FK_slice_mk (Kd.V_reads' (Kd.V_mono (ok' := (fun k_ => (P2_ k_ ∨ w.heap.size ≤ k_) ∧ some k_ ≠ (.slice Ao30 y221.length co30 : Value).ownBlock ∧ some k_ ≠ (.slice Ao33 y225.length co33 : Value).ownBlock)) (HO_2.out) (fun k_ hk => (by first | exact ⟨hk.1.1, ⟨hk.1.2, hk.2⟩⟩ | exact hk)))).2.1 (Kd.V_F (Kd.V_mono (ok' := (fun k_ => (P2_ k_ ∨ w.heap.size ≤ k_) ∧ some k_ ≠ (.slice Ao30 y221.length co30 : Value).ownBlock ∧ some k_ ≠ (.slice Ao33 y225.length co33 : Value).ownBlock)) (Kd.V_drewN HO_2.out _) (fun k_ hk => (by first | exact ⟨hk.1.1, ⟨hk.1.2, hk.2⟩⟩ | exact hk)))))) (Reps.none _ _))); intro v230 w34 ho35 hb hg_ hnew_; clear hg_ hnew_; (first | rw [← Ny229.out] at ho35 | (simp only [Int.reduceToNat] at ho35; rw [← Ny229.out] at ho35)); have n0_ := Aside0.mk (Kd.V_elder' (by (with_reducible repeat (first | apply Kd.V_alloc | apply Kd.V_drewN | apply Kd.V_drew)); exact HO_2.out) (Kd.N_base ho35) hb); have n1_ := Aside0.mk (Kd.N_elder' (by (with_reducible repeat (first | apply Kd.N_alloc | apply Kd.N_drewN | apply Kd.N_drew)); exact HO223.out) (Kd.N_base ho35) hb); have n2_ := Aside0.mk (Kd.N_elder' (by (with_reducible repeat (first | apply Kd.N_alloc | apply Kd.N_drewN | apply Kd.N_drew)); exact HO227.out) (Kd.N_base ho35) hb); have n3_ := Aside0.mk (Kd.N_lower ho35 (below_size (by repeat (first | (with_reducible first | exact HB.out | apply below_alloc | apply pw_below_drewN | apply below_drew1) | exact HB.out)))); have n4_ := Aside0.mk (below_step (by repeat (first | (with_reducible first | exact HB.out | apply below_alloc | apply pw_below_drewN | apply below_drew1) | exact HB.out)) hb); clear HO_2; clear HO223; clear HO227; clear HB; have HO_2 := n0_; have HO223 := n1_; have HO227 := n2_; have HO231 := n3_; have HB := n4_; clear n0_ n1_ n2_ n3_ n4_; clear hb ho35; obtain ⟨Ao36, co36, eo36⟩ := Kd.N_slice HO231.out; subst eo36) | (go_at_call 10; (with_reducible refine (check_Of.calls kj5 _ _ y229 t232 _ ?side1 ?side2 A21.out).mono ?_); (case side1 => repeat (first | exact (Kd.N_reads' HO231.out).2.2 | (with_reducible refine Kd.C_alloc ?_ _) | (with_reducible refine Kd.C_drewN ?_ _) | (with_reducible refine Kd.C_drew ?_))); (case side2 => exact (Kd.N_reads' HO231.out).2.1); rintro e w' ⟨rfl, ⟨nd, rfl⟩⟩) | (go_at_call 12; (with_reducible refine (check_Join.calls 0 t232 (l2.length : Int) t233 _ A22.out).mono ?_); rintro e w37 ⟨rfl, hb⟩; have n0_ := Aside0.mk (Kd.V_below (by (with_reducible repeat (first | apply Kd.V_alloc | apply Kd.V_drewN | apply Kd.V_drew)); exact HO_2.out) hb); have n1_ := Aside0.mk (Kd.N_below (by (with_reducible repeat (first | apply Kd.N_alloc | apply Kd.N_drewN | apply Kd.N_drew)); exact HO223.out) hb); have n2_ := Aside0.mk (Kd.N_below (by (with_reducible repeat (first | apply Kd.N_alloc | apply Kd.N_drewN | apply Kd.N_drew)); exact HO227.out) hb); have n3_ := Aside0.mk (Kd.N_below (by (with_reducible repeat (first | apply Kd.N_alloc | apply Kd.N_drewN | apply Kd.N_drew)); exact HO231.out) hb); have n4_ := Aside0.mk (below_step (by repeat (first | (with_reducible first | exact HB.out | apply below_alloc | apply pw_below_drewN | apply below_drew1) | exact HB.out)) hb); clear HO_2; clear HO223; clear HO227; clear HO231; clear HB; have HO_2 := n0_; have HO223 := n1_; have HO227 := n2_; have HO231 := n3_; have HB := n4_; clear n0_ n1_ n2_ n3_ n4_; (try clear hb); (try clear hb2); (try clear hk); (try clear hi)) | ((with_reducible refine gate_dst (N := 56) rfl ?_); (try (refine gate_guard (by rfl) ?_; dsimp only)); refine Kd.N_lit (Kd.slice 5 (Kd.int .u8)) _ 22 ?hg (N' := 56) ?hd (xs := ([l2] : List (List Int))) (inner := [.slice A2 l2.length c2]) (ok := (fun k_ => (P2_ k_ ∨ w.heap.size ≤ k_) ∧ some k_ ≠ (.slice Ao30 y221.length co30 : Value).ownBlock ∧ some k_ ≠ (.slice Ao33 y225.length co33 : Value).ownBlock ∧ some k_ ≠ (.slice Ao36 y229.length co36 : Value).ownBlock)) (okp := (fun k_ => (P2_ k_ ∨ w.heap.size ≤ k_) ∧ some k_ ≠ (.slice Ao30 y221.length co30 : Value).ownBlock ∧ some k_ ≠ (.slice Ao33 y225.length co33 : Value).ownBlock ∧ some k_ ≠ (.slice Ao36 y229.length co36 : Value).ownBlock)) ?hr ?hp (fun _ hk => hk) ((show ∀ k_, w37.heap.size ≤ k_ → (fun k_ => (P2_ k_ ∨ w.heap.size ≤ k_) ∧ some k_ ≠ (.slice Ao30 y221.length co30 : Value).ownBlock ∧ some k_ ≠ (.slice Ao33 y225.length co33 : Value).ownBlock ∧ some k_ ≠ (.slice Ao36 y229.length co36 : Value).ownBlock) k_ from fun k_ hk => ⟨(.inr (Nat.le_trans (below_size (by repeat (first | (with_reducible first | exact HB.out | apply below_alloc | apply pw_below_drewN | apply below_drew1) | exact HB.out))) hk)), Kd.fresh' (Kd.N_lt (by (with_reducible repeat (first | apply Kd.N_alloc | apply Kd.N_drewN | apply Kd.N_drew)); exact HO223.out)) k_ hk, Kd.fresh' (Kd.N_lt (by (with_reducible repeat (first | apply Kd.N_alloc | apply Kd.N_drewN | apply Kd.N_drew)); exact HO227.out)) k_ hk, Kd.fresh' (Kd.N_lt (by (with_reducible repeat (first | apply Kd.N_alloc | apply Kd.N_drewN | apply Kd.N_drew)); exact HO231.out)) k_ hk⟩) _ (Nat.le_refl _)) (Below.refl _ _) (Nat.le_refl _) (by simp) ?_; (case hd => rfl); (case hg => rfl); (case hr => first | (go_simp; done) | (go_simp; rfl)); (case hp => first | exact (Reps.one (show Kd.FK (Kd.slice 5 (Kd.int .u8)) _ _ l2 [.slice A2 l2.length c2] from (Kd.FK_slice_mk (Kd.V_reads' (Kd.V_mono (ok' := (fun k_ => (P2_ k_ ∨ w.heap.size ≤ k_) ∧ some k_ ≠ (.slice Ao30 y221.length co30 : Value).ownBlock ∧ some k_ ≠ (.slice Ao33 y225.length co33 : Value).ownBlock ∧ some k_ ≠ (.slice Ao36 y229.length co36 : Value).ownBlock)) (HO_2.out) (fun k_ hk => ⟨hk.1.1.1, ⟨hk.1.1.2, ⟨hk.1.2, hk.2⟩⟩⟩))).2.1 (Kd.V_F (Kd.V_mono (ok' := (fun k_ => (P2_ k_ ∨ w.heap.size ≤ k_) ∧ some k_ ≠ (.slice Ao30 y221.length co30 : Value).ownBlock ∧ some k_ ≠ (.slice Ao33 y225.length co33 : Value).ownBlock ∧ some k_ ≠ (.slice Ao36 y229.length co36 : Value).ownBlock)) (HO_2.out) (fun k_ hk => ⟨hk.1.1.1, ⟨hk.1.1.2, ⟨hk.1.2, hk.2⟩⟩⟩))))) (Reps.none _ _)) | exact (Reps.one (show Kd.FK (Kd.slice 5 (Kd.int .u8)) _ _ l2 [.slice A2 l2.length c2] from (Kd.FK_slice_mk (Kd.V_reads' (Kd.V_mono (ok' := (fun k_ => (P2_ k_ ∨ w.heap.size ≤ k_) ∧ some k_ ≠ (.slice Ao30 y221.length co30 : Value).ownBlock ∧ some k_ ≠ (.slice Ao33 y225.length co33 : Value).ownBlock ∧ some k_ ≠ (.slice Ao36 y229.length co36 : Value).ownBlock)) (HO_2.out) (fun k_ hk => ⟨hk.1.1.1, ⟨hk.1.1.2, ⟨hk.1.2, hk.2⟩⟩⟩))).2.1 (Kd.V_F (Kd.V_mono (ok' := (fun k_ => (P2_ k_ ∨ w.heap.size ≤ k_) ∧ some k_ ≠ (.slice Ao30 y221.length co30 : Value).ownBlock ∧ some k_ ≠ (.slice Ao33 y225.length co33 : Value).ownBlock ∧ some k_ ≠ (.slice Ao36 y229.length co36 : Value).ownBlock)) (Kd.V_drewN HO_2.out _) (fun k_ hk => ⟨hk.1.1.1, ⟨hk.1.1.2, ⟨hk.1.2, hk.2⟩⟩⟩))))) (Reps.none _ _))); intro v235 w38 ho39 hb hg_ hnew_; clear hg_ hnew_; (first | rw [← Ny234.out] at ho39 | (simp only [Int.reduceToNat] at ho39; rw [← Ny234.out] at ho39)); have n0_ := Aside0.mk (Kd.V_elder' (by (with_reducible repeat (first | apply Kd.V_alloc | apply Kd.V_drewN | apply Kd.V_drew)); exact HO_2.out) (Kd.N_base ho39) hb); have n1_ := Aside0.mk (Kd.N_elder' (by (with_reducible repeat (first | apply Kd.N_alloc | apply Kd.N_drewN | apply Kd.N_drew)); exact HO223.out) (Kd.N_base ho39) hb); have n2_ := Aside0.mk (Kd.N_elder' (by (with_reducible repeat (first | apply Kd.N_alloc | apply Kd.N_drewN | apply Kd.N_drew)); exact HO227.out) (Kd.N_base ho39) hb); have n3_ := Aside0.mk (Kd.N_elder' (by (with_reducible repeat (first | apply Kd.N_alloc | apply Kd.N_drewN | apply Kd.N_drew)); exact HO231.out) (Kd.N_base ho39) hb); have n4_ := Aside0.mk (Kd.N_lower ho39 (below_size (by repeat (first | (with_reducible first | exact HB.out | apply below_alloc | apply pw_below_drewN | apply below_drew1) | exact HB.out)))); have n5_ := Aside0.mk (below_step (by repeat (first | (with_reducible first | exact HB.out | apply below_alloc | apply pw_below_drewN | apply below_drew1) | exact HB.out)) hb); clear HO_2; clear HO223; clear HO227; clear HO231; clear HB; have HO_2 := n0_; have HO223 := n1_; have HO227 := n2_; have HO231 := n3_; have HO236 := n4_; have HB := n5_; clear n0_ n1_ n2_ n3_ n4_ n5_; clear hb ho39; obtain ⟨Ao40, co40, eo40⟩ := Kd.N_slice HO236.out; subst eo40) | (go_at_call 10; (with_reducible refine (check_Of.calls kj5 _ _ y234 t237 _ ?side1 ?side2 A23.out).mono ?_); (case side1 => repeat (first | exact (Kd.N_reads' HO236.out).2.2 | (with_reducible refine Kd.C_alloc ?_ _) | (with_reducible refine Kd.C_drewN ?_ _) | (with_reducible refine Kd.C_drew ?_))); (case side2 => exact (Kd.N_reads' HO236.out).2.1); rintro e w' ⟨rfl, ⟨nd, rfl⟩⟩))
              go_ret
              exact ⟨by first | rfl | (simp [errW_none, errW_some] <;> rfl) | (simp [*, errW_none, errW_some] <;> rfl), by repeat (first | (with_reducible first | exact HB.out | apply below_alloc | apply pw_below_drewN | apply below_drew1) | exact HB.out)⟩
            · rw [if_neg c20] at H
              have c20b0 : (t224 == t228) = false := beq_eq_false_iff_ne.mpr c20
              have c20b1 : (t224 != t228) = true := bne_iff_ne.mpr c20
              obtain rfl := Option.some.inj H
              exact absurd HRT.out (by decide)
          · rw [if_neg c17] at H
            have c17b0 : (t219 == t220) = false := beq_eq_false_iff_ne.mpr c17
            have c17b1 : (t219 != t220) = true := bne_iff_ne.mpr c17
            obtain rfl := Option.some.inj H
            exact absurd HRT.out (by decide)
  · replace c5 := Bool.eq_false_iff.mpr c5
    subst c5
    have H1 : (some false) = some r := by rw [if_neg (show ¬ (false = true) by decide)] at H; exact H
    clear H
    have H := H1
    clear H1
    obtain rfl := Option.some.inj H
    exact absurd HRT.out (by decide)

end Go.Proofs.Ytdpljfpcpfdlcaa.PAll
