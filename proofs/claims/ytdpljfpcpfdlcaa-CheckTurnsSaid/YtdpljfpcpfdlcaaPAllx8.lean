-- Made by a program of this session (wip/gen)
import Derived.Test.YtdpljfpcpfdlcaaPAllx0
import Derived.Test.YtdpljfpcpfdlcaaPAllx1
import Derived.Test.YtdpljfpcpfdlcaaPAllx2
import Derived.Test.YtdpljfpcpfdlcaaPAllx7
namespace Go.Proofs.Ytdpljfpcpfdlcaa.PAll
open Go.RowKit Go.Proofs.YtdpljfpcpfdlcaaW.PrintWords Go.Proofs.YtdpljfpcpfdlcaaW.PrintLast Go.Proofs.YtdpljfpcpfdlcaaW.PrintMore
attribute [local go_sem] max2_int min2_int max_two min_two max_three min_three max_four min_four   -- for this text's walks alone
set_option linter.unusedVariables false
set_option linter.unusedSimpArgs false

/-! ### packhorselaw05_CheckNames: function 6 -/
def packhorselaw05_CheckNames.f (k : Nat)  : Option (Bool) := (packhorselaw05_checkAlive.f).bind fun t192 => (if t192 = true then ((check_Of.f k ([] : List (List Int))).bind fun t193 => (if t193 = 0 then ((check_Noughts.f 0).bind fun t194 => (if t194 = 0 then ((check_Noughts.f (-5)).bind fun t195 => (if t195 = 0 then ((check_Join.f 7 9 0).bind fun t196 => (if t196 = 14 then ((check_Noughts.f 3).bind fun t197 => ((check_Of.f k (([(([0, 0, 0] : List Int))] : List (List Int)))).bind fun t204 => (some (t197 == t204)))) else (some false))) else (some false))) else (some false))) else (some false))) else (some false))
theorem packhorselaw05_CheckNames.mono : ∀ k, LeO (packhorselaw05_CheckNames.f k ) (packhorselaw05_CheckNames.f (k + 1) ) := by
  intro  k
  unfold packhorselaw05_CheckNames.f
  repeat' first
      | (with_reducible exact check_Of.mono _ _)
      | (with_reducible exact LeO.refl _)
      | (with_reducible exact LeO.none _)
      | (with_reducible refine LeO.ite ?_ ?_)
      | (with_reducible refine LeO.bind ?_ (fun _ => ?_))
      | exact check_Of.mono _ _
      | exact LeO.none _
      | refine LeO.ite ?_ ?_
      | refine LeO.bind ?_ (fun _ => ?_)
set_option maxHeartbeats 8000000 in
set_option maxRecDepth 100000 in
theorem packhorselaw05_CheckNames.calls (k : Nat)  (r : Bool) (w : World) (h : packhorselaw05_CheckNames.f k  = some r) (hr_ : r = true) :
    Calls Try.prog 6 #[] w fun e w' => e = .returned (.bool r) ∧ Below w.heap.size w w' := by
  have HRT := Aside0.mk hr_
  clear hr_
  have HB := Aside0.mk (Below.refl w.heap.size w)
  have H : ((packhorselaw05_checkAlive.f).bind fun t192 => (if t192 = true then ((check_Of.f k ([] : List (List Int))).bind fun t193 => (if t193 = 0 then ((check_Noughts.f 0).bind fun t194 => (if t194 = 0 then ((check_Noughts.f (-5)).bind fun t195 => (if t195 = 0 then ((check_Join.f 7 9 0).bind fun t196 => (if t196 = 14 then ((check_Noughts.f 3).bind fun t197 => ((check_Of.f k (([(([0, 0, 0] : List Int))] : List (List Int)))).bind fun t204 => (some (t197 == t204)))) else (some false))) else (some false))) else (some false))) else (some false))) else (some false))) = some r := h
  clear h
  replace H := Option.bind_eq_some_iff.mp H
  obtain ⟨t192, A10, H⟩ := H
  replace H : (if t192 = true then ((check_Of.f k ([] : List (List Int))).bind fun t193 => (if t193 = 0 then ((check_Noughts.f 0).bind fun t194 => (if t194 = 0 then ((check_Noughts.f (-5)).bind fun t195 => (if t195 = 0 then ((check_Join.f 7 9 0).bind fun t196 => (if t196 = 14 then ((check_Noughts.f 3).bind fun t197 => ((check_Of.f k (([(([0, 0, 0] : List Int))] : List (List Int)))).bind fun t204 => (some (t197 == t204)))) else (some false))) else (some false))) else (some false))) else (some false))) else (some false)) = some r := H
  have A1 := Aside0.mk A10
  clear A10
  by_cases c2 : t192 = true
  · subst c2
    have H1 : ((check_Of.f k ([] : List (List Int))).bind fun t193 => (if t193 = 0 then ((check_Noughts.f 0).bind fun t194 => (if t194 = 0 then ((check_Noughts.f (-5)).bind fun t195 => (if t195 = 0 then ((check_Join.f 7 9 0).bind fun t196 => (if t196 = 14 then ((check_Noughts.f 3).bind fun t197 => ((check_Of.f k (([(([0, 0, 0] : List Int))] : List (List Int)))).bind fun t204 => (some (t197 == t204)))) else (some false))) else (some false))) else (some false))) else (some false))) = some r := by rw [if_pos rfl] at H; exact H
    clear H
    have H := H1
    clear H1
    replace H := Option.bind_eq_some_iff.mp H
    obtain ⟨t193, A30, H⟩ := H
    replace H : (if t193 = 0 then ((check_Noughts.f 0).bind fun t194 => (if t194 = 0 then ((check_Noughts.f (-5)).bind fun t195 => (if t195 = 0 then ((check_Join.f 7 9 0).bind fun t196 => (if t196 = 14 then ((check_Noughts.f 3).bind fun t197 => ((check_Of.f k (([(([0, 0, 0] : List Int))] : List (List Int)))).bind fun t204 => (some (t197 == t204)))) else (some false))) else (some false))) else (some false))) else (some false)) = some r := H
    have A3 := Aside0.mk A30
    clear A30
    by_cases c4 : t193 = 0
    · rw [if_pos c4] at H
      have c4b0 : (t193 == 0) = true := beq_iff_eq.mpr c4
      have c4b1 : (t193 != 0) = false := bne_eq_false_iff_eq.mpr c4
      clear c4
      replace H := Option.bind_eq_some_iff.mp H
      obtain ⟨t194, A50, H⟩ := H
      replace H : (if t194 = 0 then ((check_Noughts.f (-5)).bind fun t195 => (if t195 = 0 then ((check_Join.f 7 9 0).bind fun t196 => (if t196 = 14 then ((check_Noughts.f 3).bind fun t197 => ((check_Of.f k (([(([0, 0, 0] : List Int))] : List (List Int)))).bind fun t204 => (some (t197 == t204)))) else (some false))) else (some false))) else (some false)) = some r := H
      have A5 := Aside0.mk A50
      clear A50
      by_cases c6 : t194 = 0
      · rw [if_pos c6] at H
        have c6b0 : (t194 == 0) = true := beq_iff_eq.mpr c6
        have c6b1 : (t194 != 0) = false := bne_eq_false_iff_eq.mpr c6
        clear c6
        replace H := Option.bind_eq_some_iff.mp H
        obtain ⟨t195, A70, H⟩ := H
        replace H : (if t195 = 0 then ((check_Join.f 7 9 0).bind fun t196 => (if t196 = 14 then ((check_Noughts.f 3).bind fun t197 => ((check_Of.f k (([(([0, 0, 0] : List Int))] : List (List Int)))).bind fun t204 => (some (t197 == t204)))) else (some false))) else (some false)) = some r := H
        have A7 := Aside0.mk A70
        clear A70
        by_cases c8 : t195 = 0
        · rw [if_pos c8] at H
          have c8b0 : (t195 == 0) = true := beq_iff_eq.mpr c8
          have c8b1 : (t195 != 0) = false := bne_eq_false_iff_eq.mpr c8
          clear c8
          replace H := Option.bind_eq_some_iff.mp H
          obtain ⟨t196, A90, H⟩ := H
          replace H : (if t196 = 14 then ((check_Noughts.f 3).bind fun t197 => ((check_Of.f k (([(([0, 0, 0] : List Int))] : List (List Int)))).bind fun t204 => (some (t197 == t204)))) else (some false)) = some r := H
          have A9 := Aside0.mk A90
          clear A90
          by_cases c10 : t196 = 14
          · rw [if_pos c10] at H
            have c10b0 : (t196 == 14) = true := beq_iff_eq.mpr c10
            have c10b1 : (t196 != 14) = false := bne_eq_false_iff_eq.mpr c10
            clear c10
            replace H := Option.bind_eq_some_iff.mp H
            obtain ⟨t197, A110, H⟩ := H
            replace H : ((check_Of.f k (([(([0, 0, 0] : List Int))] : List (List Int)))).bind fun t204 => (some (t197 == t204))) = some r := H
            have A11 := Aside0.mk A110
            clear A110
            obtain ⟨y198, hy198⟩ : ∃ y_ : List Int, y_ = (([0, 0, 0] : List Int)) := ⟨_, rfl⟩
            replace H : ((check_Of.f k (([y198] : List (List Int)))).bind fun t204 => (some (t197 == t204))) = some r := by first | (rw [hy198]; with_reducible exact H) | (have H2_ := (Option.bind_some _ _).symm.trans H; rw [hy198]; with_reducible exact H2_) | (have H2_ := (Option.bind_some _ _).symm.trans H; with_reducible exact H2_) | with_reducible exact H | (rw [hy198]; exact H) | exact H
            have Ny198 := Aside0.mk hy198
            clear hy198
            obtain ⟨y201, hy201⟩ : ∃ y_ : List (List Int), y_ = (([y198] : List (List Int))) := ⟨_, rfl⟩
            replace H : ((check_Of.f k y201).bind fun t204 => (some (t197 == t204))) = some r := by first | (rw [hy201]; with_reducible exact H) | (have H2_ := (Option.bind_some _ _).symm.trans H; rw [hy201]; with_reducible exact H2_) | (have H2_ := (Option.bind_some _ _).symm.trans H; with_reducible exact H2_) | with_reducible exact H | (rw [hy201]; exact H) | exact H
            have Ny201 := Aside0.mk hy201
            clear hy201
            replace H := Option.bind_eq_some_iff.mp H
            obtain ⟨t204, A120, H⟩ := H
            replace H : (some (t197 == t204)) = some r := H
            have A12 := Aside0.mk A120
            clear A120
            obtain rfl := Option.some.inj H
            simp only [Option.some.injEq, Prod.mk.injEq] at H
            obtain ⟨rfl⟩ := H
            go_enter Try.func6, Try.ntmps6
            go_wp2_with (first | ((with_reducible refine gate_callee (f := 9) rfl ?_); refine goesL_ (some 1) rfl rfl Try.func9 (by kernel_rfl) rfl #[] rfl (by (try simp only [List.map_toArray, List.map_cons, List.map_nil]); first | done | rfl | (simp only [List.length_drop, List.length_take]; rfl)) ?_; (with_reducible refine (packhorselaw05_checkAlive.calls  true _ A1.out rfl).mono ?_); rintro e w13 ⟨rfl, hb⟩; refine ⟨_, rfl, ?_⟩; have n0_ := Aside0.mk (below_step (by repeat (first | (with_reducible first | exact HB.out | apply below_alloc | apply pw_below_drewN | apply below_drew1) | exact HB.out)) hb); clear HB; have HB := n0_; clear n0_; (try clear hb); (try clear hb2); (try clear hk); (try clear hi)) | (go_at_call 13; (with_reducible refine (check_Noughts.calls 0 t194 _ A5.out).mono ?_); rintro e w14 ⟨rfl, hb⟩; have n0_ := Aside0.mk (below_step (by repeat (first | (with_reducible first | exact HB.out | apply below_alloc | apply pw_below_drewN | apply below_drew1) | exact HB.out)) hb); clear HB; have HB := n0_; clear n0_; (try clear hb); (try clear hb2); (try clear hk); (try clear hi)) | (go_at_call 13; (with_reducible refine (check_Noughts.calls (-5) t195 _ A7.out).mono ?_); rintro e w15 ⟨rfl, hb⟩; have n0_ := Aside0.mk (below_step (by repeat (first | (with_reducible first | exact HB.out | apply below_alloc | apply pw_below_drewN | apply below_drew1) | exact HB.out)) hb); clear HB; have HB := n0_; clear n0_; (try clear hb); (try clear hb2); (try clear hk); (try clear hi)) | (go_at_call 12; (with_reducible refine (check_Join.calls 7 9 0 t196 _ A9.out).mono ?_); rintro e w16 ⟨rfl, hb⟩; have n0_ := Aside0.mk (below_step (by repeat (first | (with_reducible first | exact HB.out | apply below_alloc | apply pw_below_drewN | apply below_drew1) | exact HB.out)) hb); clear HB; have HB := n0_; clear n0_; (try clear hb); (try clear hb2); (try clear hk); (try clear hi)) | (go_at_call 13; (with_reducible refine (check_Noughts.calls 3 t197 _ A11.out).mono ?_); rintro e w17 ⟨rfl, hb⟩; have n0_ := Aside0.mk (below_step (by repeat (first | (with_reducible first | exact HB.out | apply below_alloc | apply pw_below_drewN | apply below_drew1) | exact HB.out)) hb); clear HB; have HB := n0_; clear n0_; (try clear hb); (try clear hb2); (try clear hk); (try clear hi)) | ((with_reducible refine gate_dst (N := 20) rfl ?_); (try (refine gate_guard (by rfl) ?_; dsimp only)); refine Kd.R_lit (Kd.int .u8) _ 5 ?hg (N := 20) ?hd (xs := ([0, 0, 0] : List Int)) (inner := [.int .u8 0, .int .u8 0, .int .u8 0]) (ok := fun _ => True) (okp := fun _ => True) ?hr ?hp (fun _ hk => hk) trivial (Below.refl _ _) (Nat.le_refl _) (by simp) ?_; (case hd => rfl); (case hg => rfl); (case hr => first | (go_simp; done) | (go_simp; rfl)); (case hp => exact (Reps.one (show Kd.M (Kd.int .u8) _ _ _ 0 [.int .u8 0] from rfl) (Reps.one (show Kd.M (Kd.int .u8) _ _ _ 0 [.int .u8 0] from rfl) (Reps.one (show Kd.M (Kd.int .u8) _ _ _ 0 [.int .u8 0] from rfl) (Reps.none _ _))))); intro v199 w18 ho19 hb hg_ hnew_; clear hg_ hnew_; (first | rw [← Ny198.out] at ho19 | (simp only [Int.reduceToNat] at ho19; rw [← Ny198.out] at ho19)); have n0_ := Aside0.mk (Kd.R_lower ho19 (below_size (by repeat (first | (with_reducible first | exact HB.out | apply below_alloc | apply pw_below_drewN | apply below_drew1) | exact HB.out)))); have n1_ := Aside0.mk (below_step (by repeat (first | (with_reducible first | exact HB.out | apply below_alloc | apply pw_below_drewN | apply below_drew1) | exact HB.out)) hb); clear HB; have HO200 := n0_; have HB := n1_; clear n0_ n1_; clear hb ho19; obtain ⟨Ao20, co20, eo20⟩ := Kd.R_slice HO200.out; subst eo20) | ((with_reducible refine gate_dst (N := 21) rfl ?_); (try (refine gate_guard (by rfl) ?_; dsimp only)); refine Kd.N_lit (Kd.slice 5 (Kd.int .u8)) _ 22 ?hg (N' := 21) ?hd (xs := ([y198] : List (List Int))) (inner := [.slice Ao20 y198.length co20]) (ok := (fun _ => True)) (okp := (fun _ => True)) ?hr ?hp (fun _ hk => hk) ((show ∀ k_, w18.heap.size ≤ k_ → (fun _ => True) k_ from fun k_ hk => trivial) _ (Nat.le_refl _)) (Below.refl _ _) (Nat.le_refl _) (by simp) ?_; (case hd => rfl); (case hg => rfl); (case hr => first | (go_simp; done) | (go_simp; rfl)); (case hp => exact (Reps.one (show Kd.FK (Kd.slice 5 (Kd.int .u8)) _ _ y198 [.slice Ao20 y198.length co20] from (Kd.FK_slice_mk (Kd.R_reads' (Kd.R_mono (ok' := (fun _ => True)) (HO200.out) (fun k_ hk => trivial))).2.1 (Kd.R_F (Kd.R_mono (ok' := (fun _ => True)) (HO200.out) (fun k_ hk => trivial))))) (Reps.none _ _))); intro v202 w21 ho22 hb hg_ hnew_; clear hg_ hnew_; (first | rw [← Ny201.out] at ho22 | (simp only [Int.reduceToNat] at ho22; rw [← Ny201.out] at ho22)); have n0_ := Aside0.mk (Kd.N_lower ho22 (below_size (by repeat (first | (with_reducible first | exact HB.out | apply below_alloc | apply pw_below_drewN | apply below_drew1) | exact HB.out)))); have n1_ := Aside0.mk (below_step (by repeat (first | (with_reducible first | exact HB.out | apply below_alloc | apply pw_below_drewN | apply below_drew1) | exact HB.out)) hb); clear HB; clear HO200; have HO203 := n0_; have HB := n1_; clear n0_ n1_; clear hb ho22; obtain ⟨Ao23, co23, eo23⟩ := Kd.N_slice HO203.out; subst eo23) | (go_at_call 10; (with_reducible refine (check_Of.calls k _ _ y201 t204 _ ?side1 ?side2 A12.out).mono ?_); (case side1 => repeat (first | exact (Kd.N_reads' HO203.out).2.2 | (with_reducible refine Kd.C_alloc ?_ _) | (with_reducible refine Kd.C_drewN ?_ _) | (with_reducible refine Kd.C_drew ?_))); (case side2 => exact (Kd.N_reads' HO203.out).2.1); rintro e w' ⟨rfl, ⟨nd, rfl⟩⟩) | (go_at_call 10; (refine (check_Of.calls k _ _ ([] : List (List Int)) t193 _ ?side1 ?side2 A3.out).mono ?_); (case side1 => exact Kd.C_nil _ _); (case side2 => exact Nat.le_refl _); rintro e w' ⟨rfl, ⟨nd, rfl⟩⟩))
            go_ret
            exact ⟨by first | rfl | (simp [errW_none, errW_some] <;> rfl) | (simp [*, errW_none, errW_some] <;> rfl), by repeat (first | (with_reducible first | exact HB.out | apply below_alloc | apply pw_below_drewN | apply below_drew1) | exact HB.out)⟩
          · rw [if_neg c10] at H
            have c10b0 : (t196 == 14) = false := beq_eq_false_iff_ne.mpr c10
            have c10b1 : (t196 != 14) = true := bne_iff_ne.mpr c10
            obtain rfl := Option.some.inj H
            exact absurd HRT.out (by decide)
        · rw [if_neg c8] at H
          have c8b0 : (t195 == 0) = false := beq_eq_false_iff_ne.mpr c8
          have c8b1 : (t195 != 0) = true := bne_iff_ne.mpr c8
          obtain rfl := Option.some.inj H
          exact absurd HRT.out (by decide)
      · rw [if_neg c6] at H
        have c6b0 : (t194 == 0) = false := beq_eq_false_iff_ne.mpr c6
        have c6b1 : (t194 != 0) = true := bne_iff_ne.mpr c6
        obtain rfl := Option.some.inj H
        exact absurd HRT.out (by decide)
    · rw [if_neg c4] at H
      have c4b0 : (t193 == 0) = false := beq_eq_false_iff_ne.mpr c4
      have c4b1 : (t193 != 0) = true := bne_iff_ne.mpr c4
      obtain rfl := Option.some.inj H
      exact absurd HRT.out (by decide)
  · replace c2 := Bool.eq_false_iff.mpr c2
    subst c2
    have H1 : (some false) = some r := by rw [if_neg (show ¬ (false = true) by decide)] at H; exact H
    clear H
    have H := H1
    clear H1
    obtain rfl := Option.some.inj H
    exact absurd HRT.out (by decide)

/-! ### packhorseref05_On: function 14 -/
def packhorseref05_On.l0 : Nat → Int → Int → Int → Option (Int)
  | 0, _, _, _ => none
  | k + 1, x1, x5, x6 => if x6 < (wrap64 (8 * x1)) then ((packhorseref05_step.f x5).bind fun t205 => (packhorseref05_On.l0 k x1 t205 (wrap64 (x6 + 1)))) else (some ((x5) % 4294967296))
def packhorseref05_On.f (k : Nat) (a0 : Int) (a1 : Int) : Option (Int) := packhorseref05_On.l0 k a1 (IntKind.u64.wrap (a0)) 0
theorem packhorseref05_On.mono_l : ∀ k, (∀ y0 y1 y2, LeO (packhorseref05_On.l0 k y0 y1 y2) (packhorseref05_On.l0 (k + 1) y0 y1 y2))
  | 0 => fun _ _ _ r h => by simp [packhorseref05_On.l0] at h
  | k + 1 => by
    have ih0 := packhorseref05_On.mono_l k
    · intro y0 y1 y2
      unfold packhorseref05_On.l0
      repeat' first
      | (with_reducible exact ih0 _ _ _)
      | (with_reducible exact LeO.refl _)
      | (with_reducible exact LeO.none _)
      | (with_reducible refine LeO.ite ?_ ?_)
      | (with_reducible refine LeO.bind ?_ (fun _ => ?_))
      | exact ih0 _ _ _
      | exact LeO.none _
      | refine LeO.ite ?_ ?_
      | refine LeO.bind ?_ (fun _ => ?_)
theorem packhorseref05_On.mono : ∀ a0 a1 k, LeO (packhorseref05_On.f k a0 a1) (packhorseref05_On.f (k + 1) a0 a1) := by
  intro a0 a1 k
  have ih0 := packhorseref05_On.mono_l k
  unfold packhorseref05_On.f
  repeat' first
      | (with_reducible exact ih0 _ _ _)
      | (with_reducible exact LeO.refl _)
      | (with_reducible exact LeO.none _)
      | (with_reducible refine LeO.ite ?_ ?_)
      | (with_reducible refine LeO.bind ?_ (fun _ => ?_))
      | exact ih0 _ _ _
      | exact LeO.none _
      | refine LeO.ite ?_ ?_
      | refine LeO.bind ?_ (fun _ => ?_)
set_option maxHeartbeats 8000000 in
set_option maxRecDepth 100000 in
theorem packhorseref05_On.calls (k : Nat) (a0 : Int) (a1 : Int) (r : Int) (w : World) (h : packhorseref05_On.f k a0 a1 = some r) :
    Calls Try.prog 14 #[.int .u32 a0, .int .i64 a1] w fun e w' => e = .returned (.int .u32 r) ∧ Drawn0 w w' := by
  have H : (packhorseref05_On.l0 k a1 (IntKind.u64.wrap (a0)) 0) = some r := h
  clear h
  have H' := Aside0.mk H
  clear H
  go_enter Try.func14, Try.ntmps14
  go_wp2
  go_loopg [5, 6] k (fun kq v5 v6 w' => ∃ (x5_1 : Int) (x6_1 : Int), v5 = .int .u64 x5_1 ∧ v6 = .int .i64 x6_1 ∧ Aside0 (packhorseref05_On.l0 kq a1 x5_1 x6_1 = some r) ∧ Aside0 (kq ≤ k) ∧ Drawn0 w w')
  case atStart => exact ⟨(IntKind.u64.wrap (a0)), (0), (by first | rfl | (simp; done) | (simp [*]; done)), (by first | rfl | (simp; done) | (simp [*]; done)), H', ⟨Nat.le_refl _⟩, by repeat (first | exact Drawn0.refl _ | apply Drawn0.step)⟩
  case round =>
    clear H'
    try clear c1
    try clear p2
    obtain ⟨x5_1, x6_1, rfl, rfl, HA, HK1, ⟨m1, rfl⟩⟩ := hrel
    cases gk with
    | zero => exact absurd HA.out (by simp [packhorseref05_On.l0])
    | succ k1 =>
      have H := HA.out
      clear HA
      simp only [packhorseref05_On.l0] at H
      by_cases c3 : x6_1 < (wrap64 (8 * a1))
      · rw [if_pos c3] at H
        have c3b0 : decide (x6_1 < (wrap64 (8 * a1))) = true := decide_eq_true c3
        clear c3
        replace H := Option.bind_eq_some_iff.mp H
        obtain ⟨t205, A40, H⟩ := H
        replace H : (packhorseref05_On.l0 k1 a1 t205 (wrap64 (x6_1 + 1))) = some r := H
        have A4 := Aside0.mk A40
        clear A40
        have H' := Aside0.mk H
        clear H
        go_wp2_with (first | ((with_reducible refine gate_callee (f := 16) rfl ?_); refine goesL_ (some 16) rfl rfl Try.func16 (by kernel_rfl) rfl #[.int .u64 x5_1] rfl (by (try simp only [List.map_toArray, List.map_cons, List.map_nil]); first | done | rfl | (simp only [List.length_drop, List.length_take]; rfl)) ?_; (with_reducible refine (packhorseref05_step.calls x5_1 t205 _ A4.out).mono ?_); rintro e w' ⟨rfl, ⟨nd, rfl⟩⟩; refine ⟨_, rfl, ?_⟩))
        go_roundg k1
        case measure => have := HK1.out; omega
        case rel => exact ⟨(t205), (wrap64 (x6_1 + 1)), (by first | rfl | (simp; done) | (simp [*]; done)), (by first | rfl | (simp; done) | (simp [*]; done)), H', ⟨by have := HK1.out; omega⟩, by repeat (first | exact Drawn0.refl _ | apply Drawn0.step)⟩
      · rw [if_neg c3] at H
        have c3b0 : decide (x6_1 < (wrap64 (8 * a1))) = false := decide_eq_false c3
        clear c3
        obtain rfl := Option.some.inj H
        simp only [Option.some.injEq, Prod.mk.injEq] at H
        obtain ⟨rfl⟩ := H
        go_wp2
        go_ret
        exact ⟨by first | rfl | (simp; done) | (simp [*]; done), by repeat (first | exact Drawn0.refl _ | apply Drawn0.step)⟩

end Go.Proofs.Ytdpljfpcpfdlcaa.PAll
