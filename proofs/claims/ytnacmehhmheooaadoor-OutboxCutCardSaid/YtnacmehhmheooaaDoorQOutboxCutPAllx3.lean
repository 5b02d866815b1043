
import Derived.Test.YtnacmehhmheooaaDoorQOutboxCutPAllx0
import Derived.Test.YtnacmehhmheooaaDoorQOutboxCutPAllx2
namespace Go.Proofs.YtnacmehhmheooaaDoor.PAll
open Go.RowKit Go.Proofs.YtnacmehhmheooaaDoorW.PrintWords Go.Proofs.YtnacmehhmheooaaDoorW.PrintLast Go.Proofs.YtnacmehhmheooaaDoorW.PrintMore
attribute [local go_sem] max2_int min2_int max_two min_two
set_option linter.unusedVariables false
set_option linter.unusedSimpArgs false
def api_Effect_int64.l0 : Nat → List (S27) → Int → Int → Int → Int → Option (Int × Bool)
 | 0, _, _, _, _, _ => none
 | k + 1, x0, x1, x8, x9, x10 => if x9 < x10 then (if 0 ≤ (wrap64 ((IntKind.u64.wrap (wrap64 (x9 + x10))) / 2)) then (if (wrap64 ((IntKind.u64.wrap (wrap64 (x9 + x10))) / 2)) < (x0.length : Int) then ((outbox_place_1.f ((rd_T27 x0 (wrap64 ((IntKind.u64.wrap (wrap64 (x9 + x10))) / 2))).f0) ((rd_T27 x0 (wrap64 ((IntKind.u64.wrap (wrap64 (x9 + x10))) / 2))).f1) ((rd_T27 x0 (wrap64 ((IntKind.u64.wrap (wrap64 (x9 + x10))) / 2))).f2) ((rd_T27 x0 (wrap64 ((IntKind.u64.wrap (wrap64 (x9 + x10))) / 2))).f3) ((rd_T27 x0 (wrap64 ((IntKind.u64.wrap (wrap64 (x9 + x10))) / 2))).f4) ((rd_T27 x0 (wrap64 ((IntKind.u64.wrap (wrap64 (x9 + x10))) / 2))).f5) x1).bind fun t141 => (if t141 < 0 then (api_Effect_int64.l0 k x0 x1 x8 (wrap64 ((wrap64 ((IntKind.u64.wrap (wrap64 (x9 + x10))) / 2)) + 1)) x10) else (api_Effect_int64.l0 k x0 x1 x8 x9 (wrap64 ((IntKind.u64.wrap (wrap64 (x9 + x10))) / 2))))) else (none)) else (none)) else (if x9 < x8 then (if 0 ≤ x9 then (if x9 < (x0.length : Int) then ((outbox_place_1.f ((rd_T27 x0 x9).f0) ((rd_T27 x0 x9).f1) ((rd_T27 x0 x9).f2) ((rd_T27 x0 x9).f3) ((rd_T27 x0 x9).f4) ((rd_T27 x0 x9).f5) x1).bind fun t143 => (some (x9, (t143 == 0)))) else (none)) else (none)) else (some (x9, false)))
def api_Effect_int64.f (k : Nat) (l0 : List (S27)) (a1 : Int) (a2 : Int) : Option (Int × Bool) := api_Effect_int64.l0 k l0 a1 (l0.length : Int) 0 (l0.length : Int)
theorem api_Effect_int64.mono_l : ∀ k, (∀ y0 y1 y2 y3 y4, LeO (api_Effect_int64.l0 k y0 y1 y2 y3 y4) (api_Effect_int64.l0 (k + 1) y0 y1 y2 y3 y4))
 | 0 => fun _ _ _ _ _ r h => by simp [api_Effect_int64.l0] at h
 | k + 1 => by
  have ih0 := api_Effect_int64.mono_l k
  ·intro y0 y1 y2 y3 y4
   unfold api_Effect_int64.l0
   repeat' first
   | (with_reducible exact ih0 _ _ _ _ _)
   | (with_reducible exact LeO.refl _)
   | (with_reducible exact LeO.none _)
   | (with_reducible refine LeO.ite ?_ ?_)
   | (with_reducible refine LeO.bind ?_ (fun _ => ?_))
   | exact ih0 _ _ _ _ _
   | exact LeO.none _
   | refine LeO.ite ?_ ?_
   | refine LeO.bind ?_ (fun _ => ?_)
theorem api_Effect_int64.mono : ∀ a0 a1 a2 k, LeO (api_Effect_int64.f k a0 a1 a2) (api_Effect_int64.f (k + 1) a0 a1 a2) := by
 intro a0 a1 a2 k; have ih0 := api_Effect_int64.mono_l k
 unfold api_Effect_int64.f
 repeat' first
   | (with_reducible exact ih0 _ _ _ _ _)
   | (with_reducible exact LeO.refl _)
   | (with_reducible exact LeO.none _)
   | (with_reducible refine LeO.ite ?_ ?_)
   | (with_reducible refine LeO.bind ?_ (fun _ => ?_))
   | exact ih0 _ _ _ _ _
   | exact LeO.none _
   | refine LeO.ite ?_ ?_
   | refine LeO.bind ?_ (fun _ => ?_)
set_option maxHeartbeats 8000000 in
set_option maxRecDepth 100000 in
theorem api_Effect_int64.calls (k : Nat) (A0 : Option Addr) (c0 : Nat) (l0 : List (S27)) (a1 : Int) (a2 : Int) (r1 : Int) (r2 : Bool) (w : World) (hr0 : Kd.C k27 w A0 l0.length l0) (hc0 : l0.length ≤ c0) (h : api_Effect_int64.f k l0 a1 a2 = some (r1, r2)) :
  Calls Tryd.prog 51 #[.slice A0 l0.length c0, .int .i64 a1, (.func (.func 52) #[] #[])] w fun e w' => e = .returned (.tuple #[.int .i64 r1, .bool r2]) ∧ Below w.heap.size w w' := by
 have hu27 := Tryd.underlying27; have HR0 := am hr0; have HC0 := am hc0; clear hr0 hc0; have HB := am (Below.refl w.heap.size w); have H : (api_Effect_int64.l0 k l0 a1 (l0.length : Int) 0 (l0.length : Int)) = some (r1, r2) := h; clear h; have H' := am H; clear H
 go_enter Tryd.func51, Tryd.ntmps51
 go_wp2
 go_loopg [9, 10] k (fun kq v9 v10 w' => ∃ (x9_1 : Int) (x10_1 : Int), v9 = .int .i64 x9_1 ∧ v10 = .int .i64 x10_1 ∧ Aside0 (api_Effect_int64.l0 kq l0 a1 (l0.length : Int) x9_1 x10_1 = some (r1, r2)) ∧ Aside0 (kq ≤ k) ∧ Aside0 (Below w.heap.size w w'))
 case atStart => exact ⟨(0), ((l0.length : Int)), ap3, ap3, H', ⟨Nat.le_refl _⟩, ⟨beu HB.out⟩⟩
 case round =>
  clear H'; (try clear p2); obtain ⟨x9_1, x10_1, rfl, rfl, HA, HK1, HB⟩ := hrel
  cases gk with
  | zero => exact absurd HA.out (by simp [api_Effect_int64.l0])
  | succ k1 =>
   have H := HA.out; clear HA; simp only [api_Effect_int64.l0] at H
   by_cases c4 : x9_1 < x10_1
   ·rw [if_pos c4] at H
    have c4b0 : decide (x9_1 < x10_1) = true := decide_eq_true c4; clear c4; obtain ⟨ji5, hji5⟩ : ∃ j_ : Int, (wrap64 ((IntKind.u64.wrap (wrap64 (x9_1 + x10_1))) / 2)) = j_ := ⟨_, rfl⟩
    replace H : (if 0 ≤ (ji5) then (if (ji5) < (l0.length : Int) then ((outbox_place_1.f ((rd_T27 l0 (ji5)).f0) ((rd_T27 l0 (ji5)).f1) ((rd_T27 l0 (ji5)).f2) ((rd_T27 l0 (ji5)).f3) ((rd_T27 l0 (ji5)).f4) ((rd_T27 l0 (ji5)).f5) a1).bind fun t141 => (if t141 < 0 then (api_Effect_int64.l0 k1 l0 a1 (l0.length : Int) (wrap64 ((ji5) + 1)) x10_1) else (api_Effect_int64.l0 k1 l0 a1 (l0.length : Int) x9_1 ji5))) else (none)) else (none)) = some (r1, r2) := by first | (rw [hji5] at H; exact H) | (simp only [hji5] at H ⊢; exact H)
    have hji5w : (IntKind.i64.wrap ((IntKind.u64.wrap (wrap64 (x9_1 + x10_1))) / 2)) = ji5 := (i64_w _).trans hji5
    by_cases c6 : 0 ≤ (ji5)
    ·rw [if_pos c6] at H
     have c6b0 : decide (0 ≤ (ji5)) = true := decide_eq_true c6; clear c6
     by_cases c7 : (ji5) < (l0.length : Int)
     ·rw [if_pos c7] at H
      have c7b0 : decide ((ji5) < (l0.length : Int)) = true := decide_eq_true c7; clear c7; replace H := obm H; obtain ⟨t141, A80, H⟩ := H; replace H : (if t141 < 0 then (api_Effect_int64.l0 k1 l0 a1 (l0.length : Int) (wrap64 ((ji5) + 1)) x10_1) else (api_Effect_int64.l0 k1 l0 a1 (l0.length : Int) x9_1 ji5)) = some (r1, r2) := H; have A8 := am A80; clear A80
      by_cases c9 : t141 < 0
      ·rw [if_pos c9] at H
       have c9b0 : decide (t141 < 0) = true := decide_eq_true c9; clear c9; have H' := am H; clear H; have p140 : 0 ≤ ((ji5) : Int) := of_decide_eq_true ap2; have q140 : (ji5) < (l0.length : Int) := of_decide_eq_true ap2; obtain ⟨ad140, e140, hx140_0, hx140_1, hx140_2, hx140_3, hx140_4, hx140_5⟩ := at_T27 HR0.out (ji5) p140 q140
       cases e140
       replace hx140_0 := (HB.out.cell (World.block_lt_of_cell? w _ hx140_0)).trans hx140_0; replace hx140_1 := (HB.out.cell (World.block_lt_of_cell? w _ hx140_1)).trans hx140_1; replace hx140_2 := (HB.out.cell (World.block_lt_of_cell? w _ hx140_2)).trans hx140_2; replace hx140_3 := (HB.out.cell (World.block_lt_of_cell? w _ hx140_3)).trans hx140_3; replace hx140_4 := (HB.out.cell (World.block_lt_of_cell? w _ hx140_4)).trans hx140_4; replace hx140_5 := (HB.out.cell (World.block_lt_of_cell? w _ hx140_5)).trans hx140_5; replace p140 := eq_true p140; replace q140 := eq_true q140
       go_wp2_with (first | ((with_reducible refine gate_dyn (x := .tmp 24) rfl ?_); refine goesD_ (some 30) (.tmp 24) rfl rfl rfl Tryd.func52 (by kernel_rfl) rfl #[.agg #[.int .i64 ((rd_T27 l0 (ji5)).f0), .int .i64 ((rd_T27 l0 (ji5)).f1), .int .i64 ((rd_T27 l0 (ji5)).f2), .int .i64 ((rd_T27 l0 (ji5)).f3), .int .i64 ((rd_T27 l0 (ji5)).f4), .string ((rd_T27 l0 (ji5)).f5)], .int .i64 a1] rfl (by (try simp only [List.map_toArray, List.map_cons, List.map_nil]); first | done | (simp only [hji5]; rfl) | rfl | (simp only [List.length_drop, List.length_take]; rfl)) ?_; (with_reducible refine (outbox_place_1.calls ((rd_T27 l0 (ji5)).f0) ((rd_T27 l0 (ji5)).f1) ((rd_T27 l0 (ji5)).f2) ((rd_T27 l0 (ji5)).f3) ((rd_T27 l0 (ji5)).f4) ((rd_T27 l0 (ji5)).f5) a1 t141 _ A8.out).mono ?_); rintro e w10 ⟨rfl, hb⟩; refine ⟨_, rfl, ?_⟩; have _ := am (below_step (beu HB.out) hb); clear HB; rename_i HB; (try clear hb)))
       go_roundg k1
       case measure => have := HK1.out; omega
       case rel => exact ⟨(wrap64 ((ji5) + 1)), (x10_1), (by first | rfl | (simp; done) | (simp only [← hji5] <;> (first | rfl | simp)) | (simp [*]; done)), ap3, H', ⟨by have := HK1.out; omega⟩, ⟨beu HB.out⟩⟩
      ·rw [if_neg c9] at H
       have c9b0 : decide (t141 < 0) = false := decide_eq_false c9; clear c9; have H' := am H; clear H; have p140 : 0 ≤ ((ji5) : Int) := of_decide_eq_true ap2; have q140 : (ji5) < (l0.length : Int) := of_decide_eq_true ap2; obtain ⟨ad140, e140, hx140_0, hx140_1, hx140_2, hx140_3, hx140_4, hx140_5⟩ := at_T27 HR0.out (ji5) p140 q140
       cases e140
       replace hx140_0 := (HB.out.cell (World.block_lt_of_cell? w _ hx140_0)).trans hx140_0; replace hx140_1 := (HB.out.cell (World.block_lt_of_cell? w _ hx140_1)).trans hx140_1; replace hx140_2 := (HB.out.cell (World.block_lt_of_cell? w _ hx140_2)).trans hx140_2; replace hx140_3 := (HB.out.cell (World.block_lt_of_cell? w _ hx140_3)).trans hx140_3; replace hx140_4 := (HB.out.cell (World.block_lt_of_cell? w _ hx140_4)).trans hx140_4; replace hx140_5 := (HB.out.cell (World.block_lt_of_cell? w _ hx140_5)).trans hx140_5; replace p140 := eq_true p140; replace q140 := eq_true q140
       go_wp2_with (first | ((with_reducible refine gate_dyn (x := .tmp 24) rfl ?_); refine goesD_ (some 30) (.tmp 24) rfl rfl rfl Tryd.func52 (by kernel_rfl) rfl #[.agg #[.int .i64 ((rd_T27 l0 (ji5)).f0), .int .i64 ((rd_T27 l0 (ji5)).f1), .int .i64 ((rd_T27 l0 (ji5)).f2), .int .i64 ((rd_T27 l0 (ji5)).f3), .int .i64 ((rd_T27 l0 (ji5)).f4), .string ((rd_T27 l0 (ji5)).f5)], .int .i64 a1] rfl (by (try simp only [List.map_toArray, List.map_cons, List.map_nil]); first | done | (simp only [hji5]; rfl) | rfl | (simp only [List.length_drop, List.length_take]; rfl)) ?_; (with_reducible refine (outbox_place_1.calls ((rd_T27 l0 (ji5)).f0) ((rd_T27 l0 (ji5)).f1) ((rd_T27 l0 (ji5)).f2) ((rd_T27 l0 (ji5)).f3) ((rd_T27 l0 (ji5)).f4) ((rd_T27 l0 (ji5)).f5) a1 t141 _ A8.out).mono ?_); rintro e w11 ⟨rfl, hb⟩; refine ⟨_, rfl, ?_⟩; have _ := am (below_step (beu HB.out) hb); clear HB; rename_i HB; (try clear hb)))
       go_roundg k1
       case measure => have := HK1.out; omega
       case rel => exact ⟨(x9_1), (ji5), ap3, (by first | rfl | (simp; done) | (simp only [← hji5] <;> (first | rfl | simp)) | (simp [*]; done)), H', ⟨by have := HK1.out; omega⟩, ⟨beu HB.out⟩⟩
     ·rw [if_neg c7] at H
      exact absurd H (by simp)
    ·rw [if_neg c6] at H
     exact absurd H (by simp)
   ·rw [if_neg c4] at H
    have c4b0 : decide (x9_1 < x10_1) = false := decide_eq_false c4; clear c4
    by_cases c12 : x9_1 < (l0.length : Int)
    ·rw [if_pos c12] at H
     have c12b0 : decide (x9_1 < (l0.length : Int)) = true := decide_eq_true c12; clear c12
     by_cases c13 : 0 ≤ x9_1
     ·rw [if_pos c13] at H
      have c13b0 : decide (0 ≤ x9_1) = true := decide_eq_true c13; clear c13
      by_cases c14 : x9_1 < (l0.length : Int)
      ·rw [if_pos c14] at H
       have c14b0 : decide (x9_1 < (l0.length : Int)) = true := decide_eq_true c14; clear c14; replace H := obm H; obtain ⟨t143, A150, H⟩ := H; replace H : (some (x9_1, (t143 == 0))) = some (r1, r2) := H; have A15 := am A150; clear A150; simp only [Option.some.injEq, Prod.mk.injEq] at H; obtain ⟨rfl, rfl⟩ := H; have p142 : 0 ≤ (x9_1 : Int) := of_decide_eq_true ap2; have q142 : x9_1 < (l0.length : Int) := of_decide_eq_true ap2; obtain ⟨ad142, e142, hx142_0, hx142_1, hx142_2, hx142_3, hx142_4, hx142_5⟩ := at_T27 HR0.out x9_1 p142 q142
       cases e142
       replace hx142_0 := (HB.out.cell (World.block_lt_of_cell? w _ hx142_0)).trans hx142_0; replace hx142_1 := (HB.out.cell (World.block_lt_of_cell? w _ hx142_1)).trans hx142_1; replace hx142_2 := (HB.out.cell (World.block_lt_of_cell? w _ hx142_2)).trans hx142_2; replace hx142_3 := (HB.out.cell (World.block_lt_of_cell? w _ hx142_3)).trans hx142_3; replace hx142_4 := (HB.out.cell (World.block_lt_of_cell? w _ hx142_4)).trans hx142_4; replace hx142_5 := (HB.out.cell (World.block_lt_of_cell? w _ hx142_5)).trans hx142_5; replace p142 := eq_true p142; replace q142 := eq_true q142
       go_wp2_with (first | (go_at_call 52; (with_reducible refine (outbox_place_1.calls ((rd_T27 l0 x9_1).f0) ((rd_T27 l0 x9_1).f1) ((rd_T27 l0 x9_1).f2) ((rd_T27 l0 x9_1).f3) ((rd_T27 l0 x9_1).f4) ((rd_T27 l0 x9_1).f5) a1 t143 _ A15.out).mono ?_); rintro e w16 ⟨rfl, hb⟩; have _ := am (below_step (beu HB.out) hb); clear HB; rename_i HB; (try clear hb)))
       go_ret2
       exact ⟨ap4, beu HB.out⟩
      ·rw [if_neg c14] at H
       exact absurd H (by simp)
     ·rw [if_neg c13] at H
      exact absurd H (by simp)
    ·rw [if_neg c12] at H
     have c12b0 : decide (x9_1 < (l0.length : Int)) = false := decide_eq_false c12; clear c12; simp only [Option.some.injEq, Prod.mk.injEq] at H; obtain ⟨rfl, rfl⟩ := H
     go_wp2
     go_ret2
     exact ⟨ap4, beu HB.out⟩
def outbox_place.f (k : Nat) (l0 : List (S27)) (a1 : Int) : Option (Int × Bool) := (api_Effect_int64.f k l0 a1 52).bind fun bt144 => (some (bt144.1, bt144.2))
theorem outbox_place.mono : ∀ a0 a1 k, LeO (outbox_place.f k a0 a1) (outbox_place.f (k + 1) a0 a1) := by
 intro a0 a1 k
 unfold outbox_place.f
 repeat' first
   | (with_reducible exact api_Effect_int64.mono _ _ _ _)
   | (with_reducible exact LeO.refl _)
   | (with_reducible exact LeO.none _)
   | (with_reducible refine LeO.ite ?_ ?_)
   | (with_reducible refine LeO.bind ?_ (fun _ => ?_))
   | exact api_Effect_int64.mono _ _ _ _
   | exact LeO.none _
   | refine LeO.ite ?_ ?_
   | refine LeO.bind ?_ (fun _ => ?_)
set_option maxHeartbeats 8000000 in
set_option maxRecDepth 100000 in
theorem outbox_place.calls (k : Nat) (A0 : Option Addr) (c0 : Nat) (l0 : List (S27)) (a1 : Int) (r1 : Int) (r2 : Bool) (w : World) (hr0 : Kd.C k27 w A0 l0.length l0) (hc0 : l0.length ≤ c0) (h : outbox_place.f k l0 a1 = some (r1, r2)) :
  Calls Tryd.prog 33 #[.slice A0 l0.length c0, .int .i64 a1] w fun e w' => e = .returned (.tuple #[.int .i64 r1, .bool r2]) ∧ Below w.heap.size w w' := by
 have HR0 := am hr0; have HC0 := am hc0; clear hr0 hc0; have HB := am (Below.refl w.heap.size w); have H : ((api_Effect_int64.f k l0 a1 52).bind fun bt144 => (some (bt144.1, bt144.2))) = some (r1, r2) := h; clear h; replace H := obm H; obtain ⟨⟨t144, t145⟩, A30, H⟩ := H; replace H : (some (t144, t145)) = some (r1, r2) := H; have A3 := am A30; clear A30; simp only [Option.some.injEq, Prod.mk.injEq] at H; obtain ⟨rfl, rfl⟩ := H
 go_enter Tryd.func33, Tryd.ntmps33
 go_wp2_with (first | ((with_reducible refine gate_callee (f := 51) rfl ?_); refine goesL_ (some 8) rfl rfl Tryd.func51 (by kernel_rfl) rfl #[.slice A0 l0.length c0, .int .i64 a1, (.func (.func 52) #[] #[])] rfl ap1 ?_; (with_reducible refine (api_Effect_int64.calls k _ _ l0 a1 52 t144 t145 _ ?side1 ?side2 A3.out).mono ?_); (case side1 => repeat (first | exact HR0.out | (with_reducible refine Kd.C_alloc ?_ _) | (with_reducible refine Kd.C_drewN ?_ _) | (with_reducible refine Kd.C_drew ?_))); (case side2 => exact HC0.out); rintro e w4 ⟨rfl, hb⟩; refine ⟨_, rfl, ?_⟩; have _ := am (below_step (beu HB.out) hb); clear HB; rename_i HB; (try clear hb)))
 go_ret2
 exact ⟨ap4, beu HB.out⟩
def outbox_Backoff.f (a0 : Int) : Option (Int) := some (wrap64 (2 ^ (mx 0 (mn a0 6)).toNat))
set_option maxHeartbeats 8000000 in
set_option maxRecDepth 100000 in
theorem outbox_Backoff.calls (a0 : Int) (r : Int) (w : World) (h : outbox_Backoff.f a0 = some r) :
  Calls Tryd.prog 13 #[.int .i64 a0] w fun e w' => e = .returned (.int .i64 r) ∧ Below w.heap.size w w' := by
 have HB := am (Below.refl w.heap.size w); have H : (some (wrap64 (2 ^ (mx 0 (mn a0 6)).toNat))) = some r := h; clear h; obtain ⟨ji2, hji2⟩ : ∃ j_ : Int, (mn a0 6) = j_ := ⟨_, rfl⟩
 replace H : (some (wrap64 (2 ^ (mx 0 (ji2)).toNat))) = some r := by first | (rw [hji2] at H; exact H) | (simp only [hji2] at H ⊢; exact H)
 (try (have hji2h : ji2 ≤ 6 := by (rw [← hji2]; unfold mn; (repeat' split) <;> omega)))
 (try (have hji2g : ji2 ≤ 64 := by omega))
 have hji2_ : (if 6 < a0 then 6 else a0) = ji2 := hji2; obtain ⟨ji3, hji3⟩ : ∃ j_ : Int, (mx 0 (ji2)) = j_ := ⟨_, rfl⟩
 replace H : (some (wrap64 (2 ^ (ji3).toNat))) = some r := by first | (rw [hji3] at H; exact H) | (simp only [hji3] at H ⊢; exact H)
 have hji3_ : (if 0 < (ji2) then (ji2) else 0) = ji3 := hji3; obtain rfl := Option.some.inj H; simp only [Option.some.injEq, Prod.mk.injEq] at H; obtain ⟨rfl⟩ := H
 go_enter Tryd.func13, Tryd.ntmps13
 go_wp2
 go_ret
 exact ⟨by first | rfl | (simp [errW_none, errW_some] <;> rfl) | (simp only [← hji2, ← hji3]; first | rfl | (simp [errW_none, errW_some] <;> rfl)) | (simp [*, errW_none, errW_some] <;> rfl), beu HB.out⟩
def outbox_Sent.j0 : Nat → List (S27) → Int → Int → Bool → Option ((List (S27)) × Int)
 | 0, _, _, _, _ => none
 | k + 1, x0, x2, x8, x24 => if x24 = true then (some (([] : List (S27)), 131)) else ((api_Effect_32.f x0).bind fun t171 => (if 0 ≤ x8 then (if x8 < (t171.length : Int) then ((outbox_Backoff.f ((rd_T27 t171 x8).f4)).bind fun t174 => ((some (t171.set (x8 : Int).toNat (⟨(rd_T27 t171 x8).f0, (rd_T27 t171 x8).f1, mn (wrap64 (x2 + t174)) 1099511627776, (rd_T27 t171 x8).f3, (rd_T27 t171 x8).f4, (rd_T27 t171 x8).f5⟩ : S27) : List (S27))).bind fun y175 => (some ((y175.set (x8 : Int).toNat (⟨(rd_T27 y175 x8).f0, (rd_T27 y175 x8).f1, (rd_T27 y175 x8).f2, (rd_T27 y175 x8).f3, mn (wrap64 (((rd_T27 y175 x8).f4) + 1)) 1000000, (rd_T27 y175 x8).f5⟩ : S27)), 0)))) else (none)) else (none)))
def outbox_Sent.f (k : Nat) (l0 : List (S27)) (a1 : Int) (a2 : Int) : Option ((List (S27)) × Int) := (outbox_place.f k l0 a1).bind fun bt168 => (if bt168.2 = true then ((day_Right.f a2).bind fun t170 => (outbox_Sent.j0 k l0 a2 bt168.1 (!t170))) else (outbox_Sent.j0 k l0 a2 bt168.1 true))
theorem outbox_Sent.mono_l : ∀ k, (∀ y0 y1 y2 y3, LeO (outbox_Sent.j0 k y0 y1 y2 y3) (outbox_Sent.j0 (k + 1) y0 y1 y2 y3))
 | 0 => fun _ _ _ _ r h => by simp [outbox_Sent.j0] at h
 | k + 1 => by
  have ih0 := outbox_Sent.mono_l k
  ·intro y0 y1 y2 y3
   unfold outbox_Sent.j0
   repeat' first
   | (with_reducible exact ih0 _ _ _ _)
   | (with_reducible exact outbox_place.mono _ _ _)
   | (with_reducible exact LeO.refl _)
   | (with_reducible exact LeO.none _)
   | (with_reducible refine LeO.ite ?_ ?_)
   | (with_reducible refine LeO.bind ?_ (fun _ => ?_))
   | exact ih0 _ _ _ _
   | exact outbox_place.mono _ _ _
   | exact LeO.none _
   | refine LeO.ite ?_ ?_
   | refine LeO.bind ?_ (fun _ => ?_)
theorem outbox_Sent.mono : ∀ a0 a1 a2 k, LeO (outbox_Sent.f k a0 a1 a2) (outbox_Sent.f (k + 1) a0 a1 a2) := by
 intro a0 a1 a2 k; have ih0 := outbox_Sent.mono_l k
 unfold outbox_Sent.f
 repeat' first
   | (with_reducible exact ih0 _ _ _ _)
   | (with_reducible exact outbox_place.mono _ _ _)
   | (with_reducible exact LeO.refl _)
   | (with_reducible exact LeO.none _)
   | (with_reducible refine LeO.ite ?_ ?_)
   | (with_reducible refine LeO.bind ?_ (fun _ => ?_))
   | exact ih0 _ _ _ _
   | exact outbox_place.mono _ _ _
   | exact LeO.none _
   | refine LeO.ite ?_ ?_
   | refine LeO.bind ?_ (fun _ => ?_)
set_option maxHeartbeats 8000000 in
set_option maxRecDepth 100000 in
theorem outbox_Sent.calls (k : Nat) (A0 : Option Addr) (c0 : Nat) (l0 : List (S27)) (a1 : Int) (a2 : Int) (r1 : List (S27)) (r2 : Int) (w : World) (hr0 : Kd.C k27 w A0 l0.length l0) (hc0 : l0.length ≤ c0) (h : outbox_Sent.f k l0 a1 a2 = some (r1, r2)) :
  Calls Tryd.prog 15 #[.slice A0 l0.length c0, .int .i64 a1, .int .i64 a2] w fun e w' => ∃ v0_ : Value, e = .returned (.tuple #[v0_, .int .i64 r2]) ∧ Kd.R k27 27 w' w.heap.size (fun _ => True) v0_ r1 ∧ Below w.heap.size w w' := by
 have HR0 := am hr0; have HC0 := am hc0; clear hr0 hc0; have HB := am (Below.refl w.heap.size w); have H : ((outbox_place.f k l0 a1).bind fun bt168 => (if bt168.2 = true then ((day_Right.f a2).bind fun t170 => (outbox_Sent.j0 k l0 a2 bt168.1 (!t170))) else (outbox_Sent.j0 k l0 a2 bt168.1 true))) = some (r1, r2) := h; clear h; replace H := obm H; obtain ⟨⟨t168, t169⟩, A40, H⟩ := H; replace H : (if t169 = true then ((day_Right.f a2).bind fun t170 => (outbox_Sent.j0 k l0 a2 t168 (!t170))) else (outbox_Sent.j0 k l0 a2 t168 true)) = some (r1, r2) := H; have A4 := am A40; clear A40; have HC5 := am H; clear H
 go_enter Tryd.func15, Tryd.ntmps15
 go_upto_region 2 with (first | ((with_reducible refine gate_callee (f := 33) rfl ?_); refine goesL_ (some 15) rfl rfl Tryd.func33 (by kernel_rfl) rfl #[.slice A0 l0.length c0, .int .i64 a1] rfl ap1 ?_; (with_reducible refine (outbox_place.calls k _ _ l0 a1 t168 t169 _ ?side1 ?side2 A4.out).mono ?_); (case side1 => repeat (first | exact HR0.out | (with_reducible refine Kd.C_alloc ?_ _) | (with_reducible refine Kd.C_drewN ?_ _) | (with_reducible refine Kd.C_drew ?_))); (case side2 => exact HC0.out); rintro e w6 ⟨rfl, hb⟩; refine ⟨_, rfl, ?_⟩; have _ := am (below_step (beu HB.out) hb); clear HB; rename_i HB; (try clear hb)))
 (try simp only [Act.put, sA, sB, sC])
 go_cut [24] (fun v24 wc => ∃ (kq : Nat) (x24_4 : Bool), v24 = .bool x24_4 ∧ Aside0 (outbox_Sent.j0 kq l0 a2 t168 x24_4 = some (r1, r2)) ∧ Aside0 (kq ≤ k) ∧ Aside0 (Below w.heap.size w wc))
 case first =>
  have H := HC5.out; clear HC5
  by_cases c7 : t169 = true
  ·subst c7
   have H1 : ((day_Right.f a2).bind fun t170 => (outbox_Sent.j0 k l0 a2 t168 (!t170))) = some (r1, r2) := by rw [if_pos rfl] at H; exact H
   clear H; have H := H1; clear H1; replace H := obm H; obtain ⟨t170, A80, H⟩ := H; replace H : (outbox_Sent.j0 k l0 a2 t168 (!t170)) = some (r1, r2) := H; have A8 := am A80; clear A80; have H' := am H; clear H
   go_wp2_with (first | (go_at_call 35; (with_reducible refine (day_Right.calls a2 t170 _ A8.out).mono ?_); rintro e w' ⟨rfl, ⟨nd, rfl⟩⟩))
   go_meet
   case rel => exact ⟨_, (!t170), ap3, H', ⟨by first | omega | exact Nat.le_refl _⟩, ⟨beu HB.out⟩⟩
  ·replace c7 := Bool.eq_false_iff.mpr c7
   subst c7
   have H1 : (outbox_Sent.j0 k l0 a2 t168 true) = some (r1, r2) := by rw [if_neg (show ¬ (false = true) by decide)] at H; exact H
   clear H; have H := H1; clear H1; have H' := am H; clear H
   go_wp2
   go_meet
   case rel => exact ⟨_, (true), ap3, H', ⟨by first | omega | exact Nat.le_refl _⟩, ⟨beu HB.out⟩⟩
 case rest =>
  clear HC5; (try clear c1); (try clear p2); (try clear c3); (try clear c7); obtain ⟨kq, x24_4, rfl, HA, HJ4, HB⟩ := hcut
  cases kq with
  | zero => exact absurd HA.out (by simp [outbox_Sent.j0])
  | succ kj4 =>
   have H := HA.out; clear HA; simp only [outbox_Sent.j0] at H
   by_cases c9 : x24_4 = true
   ·subst c9
    have H1 : (some (([] : List (S27)), 131)) = some (r1, r2) := by rw [if_pos rfl] at H; exact H
    clear H; have H := H1; clear H1; simp only [Option.some.injEq, Prod.mk.injEq] at H; obtain ⟨rfl, rfl⟩ := H
    go_wp2
    go_ret2
    exact ⟨_, ap4, by first | exact Kd.R_nil _ _ _ _ _ | exact Kd.N_nil _ _ _ _ _ | exact Kd.V_nil _ _ _ _ _ | exact Kd.Q_nil _ _ _ _ _ | exact Kd.S_nil _ _ _ _ _, beu HB.out⟩
   ·replace c9 := Bool.eq_false_iff.mpr c9
    subst c9
    have H1 : ((api_Effect_32.f l0).bind fun t171 => (if 0 ≤ t168 then (if t168 < (t171.length : Int) then ((outbox_Backoff.f ((rd_T27 t171 t168).f4)).bind fun t174 => ((some (t171.set (t168 : Int).toNat (⟨(rd_T27 t171 t168).f0, (rd_T27 t171 t168).f1, mn (wrap64 (a2 + t174)) 1099511627776, (rd_T27 t171 t168).f3, (rd_T27 t171 t168).f4, (rd_T27 t171 t168).f5⟩ : S27) : List (S27))).bind fun y175 => (some ((y175.set (t168 : Int).toNat (⟨(rd_T27 y175 t168).f0, (rd_T27 y175 t168).f1, (rd_T27 y175 t168).f2, (rd_T27 y175 t168).f3, mn (wrap64 (((rd_T27 y175 t168).f4) + 1)) 1000000, (rd_T27 y175 t168).f5⟩ : S27)), 0)))) else (none)) else (none))) = some (r1, r2) := by rw [if_neg (show ¬ (false = true) by decide)] at H; exact H
    clear H; have H := H1; clear H1; replace H := obm H; obtain ⟨t171, A100, H⟩ := H; replace H : (if 0 ≤ t168 then (if t168 < (t171.length : Int) then ((outbox_Backoff.f ((rd_T27 t171 t168).f4)).bind fun t174 => ((some (t171.set (t168 : Int).toNat (⟨(rd_T27 t171 t168).f0, (rd_T27 t171 t168).f1, mn (wrap64 (a2 + t174)) 1099511627776, (rd_T27 t171 t168).f3, (rd_T27 t171 t168).f4, (rd_T27 t171 t168).f5⟩ : S27) : List (S27))).bind fun y175 => (some ((y175.set (t168 : Int).toNat (⟨(rd_T27 y175 t168).f0, (rd_T27 y175 t168).f1, (rd_T27 y175 t168).f2, (rd_T27 y175 t168).f3, mn (wrap64 (((rd_T27 y175 t168).f4) + 1)) 1000000, (rd_T27 y175 t168).f5⟩ : S27)), 0)))) else (none)) else (none)) = some (r1, r2) := H; have A10 := am A100; clear A100
    by_cases c11 : 0 ≤ t168
    ·rw [if_pos c11] at H
     have c11b0 : decide (0 ≤ t168) = true := decide_eq_true c11; clear c11
     by_cases c12 : t168 < (t171.length : Int)
     ·rw [if_pos c12] at H
      have c12b0 : decide (t168 < (t171.length : Int)) = true := decide_eq_true c12; clear c12; replace H := obm H; obtain ⟨t174, A140, H⟩ := H; replace H : ((some (t171.set (t168 : Int).toNat (⟨(rd_T27 t171 t168).f0, (rd_T27 t171 t168).f1, mn (wrap64 (a2 + t174)) 1099511627776, (rd_T27 t171 t168).f3, (rd_T27 t171 t168).f4, (rd_T27 t171 t168).f5⟩ : S27) : List (S27))).bind fun y175 => (some ((y175.set (t168 : Int).toNat (⟨(rd_T27 y175 t168).f0, (rd_T27 y175 t168).f1, (rd_T27 y175 t168).f2, (rd_T27 y175 t168).f3, mn (wrap64 (((rd_T27 y175 t168).f4) + 1)) 1000000, (rd_T27 y175 t168).f5⟩ : S27)), 0))) = some (r1, r2) := H; have A14 := am A140; clear A140; obtain ⟨ji15, hji15⟩ : ∃ j_ : Int, (mn (wrap64 (a2 + t174)) 1099511627776) = j_ := ⟨_, rfl⟩
      replace H : ((some (t171.set (t168 : Int).toNat (⟨(rd_T27 t171 t168).f0, (rd_T27 t171 t168).f1, ji15, (rd_T27 t171 t168).f3, (rd_T27 t171 t168).f4, (rd_T27 t171 t168).f5⟩ : S27) : List (S27))).bind fun y175 => (some ((y175.set (t168 : Int).toNat (⟨(rd_T27 y175 t168).f0, (rd_T27 y175 t168).f1, (rd_T27 y175 t168).f2, (rd_T27 y175 t168).f3, mn (wrap64 (((rd_T27 y175 t168).f4) + 1)) 1000000, (rd_T27 y175 t168).f5⟩ : S27)), 0))) = some (r1, r2) := by first | (rw [hji15] at H; exact H) | (simp only [hji15] at H ⊢; exact H)
      (try rw [hji15] at A10)
      (try rw [hji15] at A14)
      have hji15_ : (if 1099511627776 < (wrap64 (a2 + t174)) then 1099511627776 else (wrap64 (a2 + t174))) = ji15 := hji15; obtain ⟨y175, hy175⟩ : ∃ y_ : List (S27), y_ = (t171.set (t168 : Int).toNat (⟨(rd_T27 t171 t168).f0, (rd_T27 t171 t168).f1, ji15, (rd_T27 t171 t168).f3, (rd_T27 t171 t168).f4, (rd_T27 t171 t168).f5⟩ : S27)) := ⟨_, rfl⟩
      replace H : (some ((y175.set (t168 : Int).toNat (⟨(rd_T27 y175 t168).f0, (rd_T27 y175 t168).f1, (rd_T27 y175 t168).f2, (rd_T27 y175 t168).f3, mn (wrap64 (((rd_T27 y175 t168).f4) + 1)) 1000000, (rd_T27 y175 t168).f5⟩ : S27)), 0)) = some (r1, r2) := by first | (rw [hy175]; with_reducible exact H) | (have H2_ := (Option.bind_some _ _).symm.trans H; rw [hy175]; with_reducible exact H2_) | (have H2_ := (Option.bind_some _ _).symm.trans H; with_reducible exact H2_) | with_reducible exact H | (rw [hy175]; exact H) | exact H
      have Ny175 := am hy175; clear hy175; obtain ⟨ji16, hji16⟩ : ∃ j_ : Int, (mn (wrap64 (((rd_T27 y175 t168).f4) + 1)) 1000000) = j_ := ⟨_, rfl⟩
      replace H : (some ((y175.set (t168 : Int).toNat (⟨(rd_T27 y175 t168).f0, (rd_T27 y175 t168).f1, (rd_T27 y175 t168).f2, (rd_T27 y175 t168).f3, ji16, (rd_T27 y175 t168).f5⟩ : S27)), 0)) = some (r1, r2) := by first | (rw [hji16] at H; exact H) | (simp only [hji16] at H ⊢; exact H)
      (try rw [hji16] at A10)
      (try rw [hji16] at A14)
      have hji16_ : (if 1000000 < (wrap64 (((rd_T27 y175 t168).f4) + 1)) then 1000000 else (wrap64 (((rd_T27 y175 t168).f4) + 1))) = ji16 := hji16; obtain ⟨y176, hy176⟩ : ∃ y_ : List (S27), y_ = (y175.set (t168 : Int).toNat (⟨(rd_T27 y175 t168).f0, (rd_T27 y175 t168).f1, (rd_T27 y175 t168).f2, (rd_T27 y175 t168).f3, ji16, (rd_T27 y175 t168).f5⟩ : S27)) := ⟨_, rfl⟩
      replace H : (some (y176, 0)) = some (r1, r2) := by first | (rw [hy176]; with_reducible exact H) | (have H2_ := (Option.bind_some _ _).symm.trans H; rw [hy176]; with_reducible exact H2_) | (have H2_ := (Option.bind_some _ _).symm.trans H; with_reducible exact H2_) | with_reducible exact H | (rw [hy176]; exact H) | exact H
      have Ny176 := am hy176; clear hy176; simp only [Option.some.injEq, Prod.mk.injEq] at H; obtain ⟨rfl, rfl⟩ := H
      go_wp2_with (first | ((with_reducible refine gate_callee (f := 32) rfl ?_); refine goesL_ (some 26) rfl rfl Tryd.func32 (by kernel_rfl) rfl #[.slice A0 l0.length c0] rfl ap1 ?_; (with_reducible refine (api_Effect_32.calls _ _ l0 t171 _ ?side1 ?side2 A10.out).mono ?_); (case side1 => exact cu (Kd.C_below HR0.out HB.out)); (case side2 => exact HC0.out); rintro e w17 ⟨v172, rfl, ho0, hb⟩; refine ⟨_, rfl, ?_⟩; have _ := am (Kd.R_lower ho0 (below_size (beu HB.out))); have _ := am (below_step (beu HB.out) hb); clear HB; rename_i HO173 HB; (try clear hb); (try clear ho0); have p13 : 0 ≤ (t168 : Int) := of_decide_eq_true ap2; have q13 : (t168 : Int) < ((t171.length : Int) : Int) := of_decide_eq_true ap2; obtain ⟨go13, co13, eo13, gb13, gl13, cl13, HG13⟩ := Kd.R_form HO173.out (by omega); (first | cases eo13 | (injection eo13 with ea_ en_ ec_; (first | subst ea_ | (injection ea_ with ea_; subst ea_)); subst ec_; clear en_)); have GB13 := am gb13; have GG13 := am HG13; clear gb13 gl13 HG13; obtain ⟨ce13, hcl13, hM13, hcc13, hfr13⟩ := Kd.R_elem HO173.out z27 (t168 : Int) p13 q13; obtain rfl := k27_openM hM13; have hx13_0 : w17.cell? ⟨go13, (t168 : Int).toNat * 6, none⟩ = some (.int .i64 ((rd_T27 t171 t168).f0)) := hcc13 0 _ rfl; have hx13_1 : w17.cell? ⟨go13, (t168 : Int).toNat * 6 + 1, none⟩ = some (.int .i64 ((rd_T27 t171 t168).f1)) := hcc13 1 _ rfl; have hx13_2 : w17.cell? ⟨go13, (t168 : Int).toNat * 6 + 2, none⟩ = some (.int .i64 ((rd_T27 t171 t168).f2)) := hcc13 2 _ rfl; have hx13_3 : w17.cell? ⟨go13, (t168 : Int).toNat * 6 + 3, none⟩ = some (.int .i64 ((rd_T27 t171 t168).f3)) := hcc13 3 _ rfl; have hx13_4 : w17.cell? ⟨go13, (t168 : Int).toNat * 6 + 4, none⟩ = some (.int .i64 ((rd_T27 t171 t168).f4)) := hcc13 4 _ rfl; have hx13_5 : w17.cell? ⟨go13, (t168 : Int).toNat * 6 + 5, none⟩ = some (.string ((rd_T27 t171 t168).f5)) := hcc13 5 _ rfl; have hf13_0 : w17.frozen? ⟨go13, (t168 : Int).toNat * 6, none⟩ = false := hfr13 0; have hf13_1 : w17.frozen? ⟨go13, (t168 : Int).toNat * 6 + 1, none⟩ = false := hfr13 1; have hf13_2 : w17.frozen? ⟨go13, (t168 : Int).toNat * 6 + 2, none⟩ = false := hfr13 2; have hf13_3 : w17.frozen? ⟨go13, (t168 : Int).toNat * 6 + 3, none⟩ = false := hfr13 3; have hf13_4 : w17.frozen? ⟨go13, (t168 : Int).toNat * 6 + 4, none⟩ = false := hfr13 4; have hf13_5 : w17.frozen? ⟨go13, (t168 : Int).toNat * 6 + 5, none⟩ = false := hfr13 5; clear hcl13 hcc13 hfr13 hM13; replace p13 := eq_true p13; replace q13 := eq_true q13) | ((with_reducible refine gate_callee (f := 13) rfl ?_); refine goesL_ (some 36) rfl rfl Tryd.func13 (by kernel_rfl) rfl #[.int .i64 ((rd_T27 t171 t168).f4)] rfl ap1 ?_; (with_reducible refine (outbox_Backoff.calls ((rd_T27 t171 t168).f4) t174 _ A14.out).mono ?_); rintro e w18 ⟨rfl, hb⟩; refine ⟨_, rfl, ?_⟩; have _ := am (Kd.R_below (ru HO173.out) hb); have _ := am (below_step (beu HB.out) hb); clear HO173 HB; rename_i HO173 HB; (try clear hb); have HX19 := am (show Kd.R k27 27 w18 w.heap.size (fun _ => True) (.slice (some ⟨go13, 0, none⟩) t171.length co13) t171 from (ru HO173.out)); obtain ⟨ce19, hcl19, hM19, hcc19, hfr19⟩ := Kd.R_elem HX19.out z27 (t168 : Int) (of_decide_eq_true ap2) (by have h_ : (t168 : Int) < ((t171.length : Int) : Int) := of_decide_eq_true ap2; first | exact h_ | (have e_ := (Kd.R_reads' HO173.out).1; omega) | simpa using h_); obtain rfl := k27_openM hM19; have hx19_4 : w18.cell? ⟨go13, (t168 : Int).toNat * 6 + 4, none⟩ = some (.int .i64 ((rd_T27 t171 t168).f4)) := hcc19 4 _ rfl; have HP19 := Kd.R_seg HX19.out (t168 : Int) (of_decide_eq_true ap2) (by have h_ : (t168 : Int) < ((t171.length : Int) : Int) := of_decide_eq_true ap2; first | exact h_ | (have e_ := (Kd.R_reads' HO173.out).1; omega) | simpa using h_) (seg := [.int .i64 ji15]) (j := 2) hcl19 hcc19 (show 3 ≤ 6 from by decide) (x' := (⟨(rd_T27 t171 t168).f0, (rd_T27 t171 t168).f1, ji15, (rd_T27 t171 t168).f3, (rd_T27 t171 t168).f4, (rd_T27 t171 t168).f5⟩ : S27)) (k27_mkM _ _ _ (⟨(rd_T27 t171 t168).f0, (rd_T27 t171 t168).f1, ji15, (rd_T27 t171 t168).f3, (rd_T27 t171 t168).f4, (rd_T27 t171 t168).f5⟩ : S27) ) (fun _ hk => hk); have hx19_2 := hcc19 2 _ rfl; (try simp only [show (k27).sz = 6 from rfl, Nat.mul_one, Nat.add_zero] at hx19_2); have hf19_2 := hfr19 2; (try simp only [show (k27).sz = 6 from rfl, Nat.mul_one, Nat.add_zero] at hf19_2); clear hcl19 hcc19 hfr19 hM19) | ((with_reducible refine gate_store (t := 2) (p := 40) rfl ?_); refine store_event (t := 2) (p := 40) (v := ?vo_w20) (w1 := (w18.setCell ⟨go13, (t168 : Int).toNat * 6 + 2, none⟩ (.int .i64 ji15))) ?hg ?ho ?hn ?hr ?_; (case ho => rfl); (case hg => rfl); (case hn => rfl); (case hr => first | (go_simp; done) | (go_simp; rfl)); intro w20 hw; have hg : w18.grownBy w20 (some go13) := (by rw [hw]; exact HP19.2); have hp_ : Kd.R k27 27 w20 w.heap.size (fun _ => True) (.slice (some ⟨go13, 0, none⟩) t171.length co13) y175 := (by rw [hw, Ny175.out]; exact HP19.1); clear HP19; have _ := am (hp_); have _ := am ((by rw [hw]; exact below_set (HB.out) GB13.out : Below w.heap.size w w20)); clear HO173 HB; rename_i HO173 HB; clear hg hw hp_; have HX21 := am (show Kd.R k27 27 w20 w.heap.size (fun _ => True) (.slice (some ⟨go13, 0, none⟩) t171.length co13) y175 from (ru HO173.out)); obtain ⟨ce21, hcl21, hM21, hcc21, hfr21⟩ := Kd.R_elem HX21.out z27 (t168 : Int) (of_decide_eq_true ap2) (by have h_ : (t168 : Int) < ((t171.length : Int) : Int) := of_decide_eq_true ap2; first | exact h_ | (have e_ := (Kd.R_reads' HO173.out).1; omega) | simpa using h_); obtain rfl := k27_openM hM21; have hx21_4 : w20.cell? ⟨go13, (t168 : Int).toNat * 6 + 4, none⟩ = some (.int .i64 ((rd_T27 y175 t168).f4)) := hcc21 4 _ rfl; have HP21 := Kd.R_seg HX21.out (t168 : Int) (of_decide_eq_true ap2) (by have h_ : (t168 : Int) < ((t171.length : Int) : Int) := of_decide_eq_true ap2; first | exact h_ | (have e_ := (Kd.R_reads' HO173.out).1; omega) | simpa using h_) (seg := [.int .i64 ji16]) (j := 4) hcl21 hcc21 (show 5 ≤ 6 from by decide) (x' := (⟨(rd_T27 y175 t168).f0, (rd_T27 y175 t168).f1, (rd_T27 y175 t168).f2, (rd_T27 y175 t168).f3, ji16, (rd_T27 y175 t168).f5⟩ : S27)) (k27_mkM _ _ _ (⟨(rd_T27 y175 t168).f0, (rd_T27 y175 t168).f1, (rd_T27 y175 t168).f2, (rd_T27 y175 t168).f3, ji16, (rd_T27 y175 t168).f5⟩ : S27) ) (fun _ hk => hk); have hx21_4 := hcc21 4 _ rfl; (try simp only [show (k27).sz = 6 from rfl, Nat.mul_one, Nat.add_zero] at hx21_4); have hf21_4 := hfr21 4; (try simp only [show (k27).sz = 6 from rfl, Nat.mul_one, Nat.add_zero] at hf21_4); clear hcl21 hcc21 hfr21 hM21) | ((with_reducible refine gate_store (t := 3) (p := 49) rfl ?_); refine store_event (t := 3) (p := 49) (v := ?vo_w22) (w1 := (w20.setCell ⟨go13, (t168 : Int).toNat * 6 + 4, none⟩ (.int .i64 ji16))) ?hg ?ho ?hn ?hr ?_; (case ho => rfl); (case hg => rfl); (case hn => rfl); (case hr => first | (go_simp; done) | (go_simp; rfl)); intro w22 hw; have hg : w20.grownBy w22 (some go13) := (by rw [hw]; exact HP21.2); have hp_ : Kd.R k27 27 w22 w.heap.size (fun _ => True) (.slice (some ⟨go13, 0, none⟩) t171.length co13) y176 := (by rw [hw, Ny176.out]; exact HP21.1); clear HP21; have _ := am (hp_); have _ := am ((by rw [hw]; exact below_set (HB.out) GB13.out : Below w.heap.size w w22)); clear HO173 HB; rename_i HO173 HB; clear hg hw hp_))
      go_ret2
      exact ⟨_, by first | rfl | (simp [errW_none, errW_some] <;> rfl) | (simp only [← hji15, ← hji16]; first | rfl | (simp [errW_none, errW_some] <;> rfl)) | (simp [*, errW_none, errW_some] <;> rfl), ru HO173.out, beu HB.out⟩
     ·rw [if_neg c12] at H
      exact absurd H (by simp)
    ·rw [if_neg c11] at H
     exact absurd H (by simp)
def packhorselaw13_outboxAlive.f (k : Nat)  : Option (Bool) := (outbox_Add.f k ([] : List (S27)) 1 0 10 1 0 (⟨#[97]⟩ : ByteArray)).bind fun bt177 => ((outbox_Sent.f k bt177.1 1 10).bind fun bt181 => ((outbox_Sent.f k bt181.1 1 11).bind fun bt185 => (if bt177.2 = 0 then (if bt181.2 = 0 then (if bt185.2 = 0 then (if (bt185.1.length : Int) = 1 then (if 0 < (bt181.1.length : Int) then (if ((rd_T27 bt181.1 0).f2) = 11 then (if 0 < (bt185.1.length : Int) then (if ((rd_T27 bt185.1 0).f2) = 13 then (if ((rd_T27 bt185.1 0).f4) = 2 then (if 0 < (bt177.1.length : Int) then (some (((rd_T27 bt177.1 0).f4) == 0)) else (none)) else (some false)) else (some false)) else (none)) else (some false)) else (none)) else (some false)) else (some false)) else (some false)) else (some false))))
theorem packhorselaw13_outboxAlive.mono : ∀ k, LeO (packhorselaw13_outboxAlive.f k ) (packhorselaw13_outboxAlive.f (k + 1) ) := by
 intro  k
 unfold packhorselaw13_outboxAlive.f
 repeat' first
   | (with_reducible exact outbox_Add.mono _ _ _ _ _ _ _ _)
   | (with_reducible exact outbox_Sent.mono _ _ _ _)
   | (with_reducible exact LeO.refl _)
   | (with_reducible exact LeO.none _)
   | (with_reducible refine LeO.ite ?_ ?_)
   | (with_reducible refine LeO.bind ?_ (fun _ => ?_))
   | exact outbox_Add.mono _ _ _ _ _ _ _ _
   | exact outbox_Sent.mono _ _ _ _
   | exact LeO.none _
   | refine LeO.ite ?_ ?_
   | refine LeO.bind ?_ (fun _ => ?_)
set_option maxHeartbeats 8000000 in
set_option maxRecDepth 100000 in
theorem packhorselaw13_outboxAlive.calls (k : Nat)  (r : Bool) (w : World) (hT : Tabs w) (h : packhorselaw13_outboxAlive.f k  = some r) (hr_ : r = true) :
  Calls Tryd.prog 12 #[] w fun e w' => e = .returned (.bool r) ∧ Below w.heap.size w w' := by
 have hu27 := Tryd.underlying27; have HRT := am hr_; clear hr_; have HT := am hT; clear hT; have HB := am (Below.refl w.heap.size w); have H : ((outbox_Add.f k ([] : List (S27)) 1 0 10 1 0 (⟨#[97]⟩ : ByteArray)).bind fun bt177 => ((outbox_Sent.f k bt177.1 1 10).bind fun bt181 => ((outbox_Sent.f k bt181.1 1 11).bind fun bt185 => (if bt177.2 = 0 then (if bt181.2 = 0 then (if bt185.2 = 0 then (if (bt185.1.length : Int) = 1 then (if 0 < (bt181.1.length : Int) then (if ((rd_T27 bt181.1 0).f2) = 11 then (if 0 < (bt185.1.length : Int) then (if ((rd_T27 bt185.1 0).f2) = 13 then (if ((rd_T27 bt185.1 0).f4) = 2 then (if 0 < (bt177.1.length : Int) then (some (((rd_T27 bt177.1 0).f4) == 0)) else (none)) else (some false)) else (some false)) else (none)) else (some false)) else (none)) else (some false)) else (some false)) else (some false)) else (some false))))) = some r := h; clear h; replace H := obm H; obtain ⟨⟨t177, t180⟩, A10, H⟩ := H; replace H : ((outbox_Sent.f k t177 1 10).bind fun bt181 => ((outbox_Sent.f k bt181.1 1 11).bind fun bt185 => (if t180 = 0 then (if bt181.2 = 0 then (if bt185.2 = 0 then (if (bt185.1.length : Int) = 1 then (if 0 < (bt181.1.length : Int) then (if ((rd_T27 bt181.1 0).f2) = 11 then (if 0 < (bt185.1.length : Int) then (if ((rd_T27 bt185.1 0).f2) = 13 then (if ((rd_T27 bt185.1 0).f4) = 2 then (if 0 < (t177.length : Int) then (some (((rd_T27 t177 0).f4) == 0)) else (none)) else (some false)) else (some false)) else (none)) else (some false)) else (none)) else (some false)) else (some false)) else (some false)) else (some false)))) = some r := H; have A1 := am A10; clear A10; replace H := obm H; obtain ⟨⟨t181, t182⟩, A20, H⟩ := H; replace H : ((outbox_Sent.f k t181 1 11).bind fun bt185 => (if t180 = 0 then (if t182 = 0 then (if bt185.2 = 0 then (if (bt185.1.length : Int) = 1 then (if 0 < (t181.length : Int) then (if ((rd_T27 t181 0).f2) = 11 then (if 0 < (bt185.1.length : Int) then (if ((rd_T27 bt185.1 0).f2) = 13 then (if ((rd_T27 bt185.1 0).f4) = 2 then (if 0 < (t177.length : Int) then (some (((rd_T27 t177 0).f4) == 0)) else (none)) else (some false)) else (some false)) else (none)) else (some false)) else (none)) else (some false)) else (some false)) else (some false)) else (some false))) = some r := H; have A2 := am A20; clear A20; replace H := obm H; obtain ⟨⟨t185, t186⟩, A30, H⟩ := H; replace H : (if t180 = 0 then (if t182 = 0 then (if t186 = 0 then (if (t185.length : Int) = 1 then (if 0 < (t181.length : Int) then (if ((rd_T27 t181 0).f2) = 11 then (if 0 < (t185.length : Int) then (if ((rd_T27 t185 0).f2) = 13 then (if ((rd_T27 t185 0).f4) = 2 then (if 0 < (t177.length : Int) then (some (((rd_T27 t177 0).f4) == 0)) else (none)) else (some false)) else (some false)) else (none)) else (some false)) else (none)) else (some false)) else (some false)) else (some false)) else (some false)) = some r := H; have A3 := am A30; clear A30
 by_cases c4 : t180 = 0
 ·rw [if_pos c4] at H
  have c4b0 : (t180 == 0) = true := beq_iff_eq.mpr c4; have c4b1 : (t180 != 0) = false := bne_eq_false_iff_eq.mpr c4; clear c4
  by_cases c5 : t182 = 0
  ·rw [if_pos c5] at H
   have c5b0 : (t182 == 0) = true := beq_iff_eq.mpr c5; have c5b1 : (t182 != 0) = false := bne_eq_false_iff_eq.mpr c5; clear c5
   by_cases c6 : t186 = 0
   ·rw [if_pos c6] at H
    have c6b0 : (t186 == 0) = true := beq_iff_eq.mpr c6; have c6b1 : (t186 != 0) = false := bne_eq_false_iff_eq.mpr c6; clear c6
    by_cases c7 : (t185.length : Int) = 1
    ·rw [if_pos c7] at H
     have c7b0 : ((t185.length : Int) == 1) = true := beq_iff_eq.mpr c7; have c7b1 : ((t185.length : Int) != 1) = false := bne_eq_false_iff_eq.mpr c7; clear c7
     by_cases c8 : 0 < (t181.length : Int)
     ·rw [if_pos c8] at H
      have c8b0 : decide (0 < (t181.length : Int)) = true := decide_eq_true c8; have c8b1 : decide (0 < t181.length) = true := decide_eq_true (by omega); clear c8
      by_cases c9 : ((rd_T27 t181 0).f2) = 11
      ·rw [if_pos c9] at H
       have c9b0 : (((rd_T27 t181 0).f2) == 11) = true := beq_iff_eq.mpr c9; have c9b1 : (((rd_T27 t181 0).f2) != 11) = false := bne_eq_false_iff_eq.mpr c9; clear c9
       by_cases c10 : 0 < (t185.length : Int)
       ·rw [if_pos c10] at H
        have c10b0 : decide (0 < (t185.length : Int)) = true := decide_eq_true c10; have c10b1 : decide (0 < t185.length) = true := decide_eq_true (by omega); clear c10
        by_cases c11 : ((rd_T27 t185 0).f2) = 13
        ·rw [if_pos c11] at H
         have c11b0 : (((rd_T27 t185 0).f2) == 13) = true := beq_iff_eq.mpr c11; have c11b1 : (((rd_T27 t185 0).f2) != 13) = false := bne_eq_false_iff_eq.mpr c11; clear c11
         by_cases c12 : ((rd_T27 t185 0).f4) = 2
         ·rw [if_pos c12] at H
          have c12b0 : (((rd_T27 t185 0).f4) == 2) = true := beq_iff_eq.mpr c12; have c12b1 : (((rd_T27 t185 0).f4) != 2) = false := bne_eq_false_iff_eq.mpr c12; clear c12
          by_cases c13 : 0 < (t177.length : Int)
          ·rw [if_pos c13] at H
           have c13b0 : decide (0 < (t177.length : Int)) = true := decide_eq_true c13; have c13b1 : decide (0 < t177.length) = true := decide_eq_true (by omega); clear c13; obtain rfl := Option.some.inj H; simp only [Option.some.injEq, Prod.mk.injEq] at H; obtain ⟨rfl⟩ := H
           go_enter Tryd.func12, Tryd.ntmps12
           go_wp2_with (first | ((with_reducible refine gate_callee (f := 15) rfl ?_); refine goesL_ (some 14) rfl rfl Tryd.func15 (by kernel_rfl) rfl #[.slice Ao15 t177.length co15, .int .i64 1, .int .i64 10] rfl ap1 ?_; (with_reducible refine (outbox_Sent.calls k _ _ t177 1 10 t181 t182 _ ?side1 ?side2 A2.out).mono ?_); (case side1 => exact cu (Kd.R_reads' HO179.out).2.2); (case side2 => exact (Kd.R_reads' HO179.out).2.1); rintro e w16 ⟨v183, rfl, ho0, hb⟩; refine ⟨_, rfl, ?_⟩; have _ := am (Kd.R_elder' (ru HO179.out) (Kd.R_base ho0) hb); have _ := am (Kd.R_lower (Kd.R_new' ho0 (Kd.R_lt (ru HO179.out))) (below_size (beu HB.out))); have _ := am (below_step (beu HB.out) hb); clear HO179 HB; rename_i HO179 HO184 HB; (try clear hb); (try clear ho0); obtain ⟨Ao17, co17, eo17⟩ := Kd.R_slice HO184.out; subst eo17) | ((with_reducible refine gate_callee (f := 15) rfl ?_); refine goesL_ (some 19) rfl rfl Tryd.func15 (by kernel_rfl) rfl #[.slice Ao17 t181.length co17, .int .i64 1, .int .i64 11] rfl ap1 ?_; (with_reducible refine (outbox_Sent.calls k _ _ t181 1 11 t185 t186 _ ?side1 ?side2 A3.out).mono ?_); (case side1 => exact cu (Kd.R_reads' HO184.out).2.2); (case side2 => exact (Kd.R_reads' HO184.out).2.1); rintro e w18 ⟨v187, rfl, ho0, hb⟩; refine ⟨_, rfl, ?_⟩; have _ := am (Kd.R_elder' (ru HO179.out) (Kd.R_base ho0) hb); have _ := am (Kd.R_elder' (ru HO184.out) (Kd.R_base ho0) hb); have _ := am (Kd.R_lower (Kd.R_new' (Kd.R_new' ho0 (Kd.R_lt (ru HO179.out))) (Kd.R_lt (ru HO184.out))) (below_size (beu HB.out))); have _ := am (below_step (beu HB.out) hb); clear HO179 HO184 HB; rename_i HO179 HO184 HO188 HB; (try clear hb); (try clear ho0); obtain ⟨Ao19, co19, eo19⟩ := Kd.R_slice HO188.out; subst eo19; have p189 : 0 ≤ (0 : Int) := (by omega); have q189 : 0 < (t181.length : Int) := of_decide_eq_true ap2; obtain ⟨ad189, e189, hx189_0, hx189_1, hx189_2, hx189_3, hx189_4, hx189_5⟩ := at_T27 (Kd.R_reads' HO184.out).2.2 0 p189 q189; cases e189; have qi189 : (0 < t181.length) = True := eq_true (by omega); (try rw [show ((0 : Int)).toNat = 0 from rfl] at hx189_0); (try rw [show 0 * 6 = 0 from rfl] at hx189_0); (try rw [Addr.add_zero'] at hx189_0); (try rw [show ((0 : Int)).toNat = 0 from rfl] at hx189_1); (try rw [show 0 * 6 = 0 from rfl] at hx189_1); (try rw [Addr.add_zero'] at hx189_1); (try rw [show ((0 : Int)).toNat = 0 from rfl] at hx189_2); (try rw [show 0 * 6 = 0 from rfl] at hx189_2); (try rw [Addr.add_zero'] at hx189_2); (try rw [show ((0 : Int)).toNat = 0 from rfl] at hx189_3); (try rw [show 0 * 6 = 0 from rfl] at hx189_3); (try rw [Addr.add_zero'] at hx189_3); (try rw [show ((0 : Int)).toNat = 0 from rfl] at hx189_4); (try rw [show 0 * 6 = 0 from rfl] at hx189_4); (try rw [Addr.add_zero'] at hx189_4); (try rw [show ((0 : Int)).toNat = 0 from rfl] at hx189_5); (try rw [show 0 * 6 = 0 from rfl] at hx189_5); (try rw [Addr.add_zero'] at hx189_5); replace p189 := eq_true p189; replace q189 := eq_true q189; have p190 : 0 ≤ (0 : Int) := (by omega); have q190 : 0 < (t185.length : Int) := of_decide_eq_true ap2; obtain ⟨ad190, e190, hx190_0, hx190_1, hx190_2, hx190_3, hx190_4, hx190_5⟩ := at_T27 (Kd.R_reads' HO188.out).2.2 0 p190 q190; cases e190; have qi190 : (0 < t185.length) = True := eq_true (by omega); (try rw [show ((0 : Int)).toNat = 0 from rfl] at hx190_0); (try rw [show 0 * 6 = 0 from rfl] at hx190_0); (try rw [Addr.add_zero'] at hx190_0); (try rw [show ((0 : Int)).toNat = 0 from rfl] at hx190_1); (try rw [show 0 * 6 = 0 from rfl] at hx190_1); (try rw [Addr.add_zero'] at hx190_1); (try rw [show ((0 : Int)).toNat = 0 from rfl] at hx190_2); (try rw [show 0 * 6 = 0 from rfl] at hx190_2); (try rw [Addr.add_zero'] at hx190_2); (try rw [show ((0 : Int)).toNat = 0 from rfl] at hx190_3); (try rw [show 0 * 6 = 0 from rfl] at hx190_3); (try rw [Addr.add_zero'] at hx190_3); (try rw [show ((0 : Int)).toNat = 0 from rfl] at hx190_4); (try rw [show 0 * 6 = 0 from rfl] at hx190_4); (try rw [Addr.add_zero'] at hx190_4); (try rw [show ((0 : Int)).toNat = 0 from rfl] at hx190_5); (try rw [show 0 * 6 = 0 from rfl] at hx190_5); (try rw [Addr.add_zero'] at hx190_5); replace p190 := eq_true p190; replace q190 := eq_true q190; have p191 : 0 ≤ (0 : Int) := (by omega); have q191 : 0 < (t185.length : Int) := of_decide_eq_true ap2; obtain ⟨ad191, e191, hx191_0, hx191_1, hx191_2, hx191_3, hx191_4, hx191_5⟩ := at_T27 (Kd.R_reads' HO188.out).2.2 0 p191 q191; obtain rfl : ad190 = ad191 := (by injection e191); have qi191 : (0 < t185.length) = True := eq_true (by omega); (try rw [show ((0 : Int)).toNat = 0 from rfl] at hx191_0); (try rw [show 0 * 6 = 0 from rfl] at hx191_0); (try rw [Addr.add_zero'] at hx191_0); (try rw [show ((0 : Int)).toNat = 0 from rfl] at hx191_1); (try rw [show 0 * 6 = 0 from rfl] at hx191_1); (try rw [Addr.add_zero'] at hx191_1); (try rw [show ((0 : Int)).toNat = 0 from rfl] at hx191_2); (try rw [show 0 * 6 = 0 from rfl] at hx191_2); (try rw [Addr.add_zero'] at hx191_2); (try rw [show ((0 : Int)).toNat = 0 from rfl] at hx191_3); (try rw [show 0 * 6 = 0 from rfl] at hx191_3); (try rw [Addr.add_zero'] at hx191_3); (try rw [show ((0 : Int)).toNat = 0 from rfl] at hx191_4); (try rw [show 0 * 6 = 0 from rfl] at hx191_4); (try rw [Addr.add_zero'] at hx191_4); (try rw [show ((0 : Int)).toNat = 0 from rfl] at hx191_5); (try rw [show 0 * 6 = 0 from rfl] at hx191_5); (try rw [Addr.add_zero'] at hx191_5); replace p191 := eq_true p191; replace q191 := eq_true q191; have p192 : 0 ≤ (0 : Int) := (by omega); have q192 : 0 < (t177.length : Int) := of_decide_eq_true ap2; obtain ⟨ad192, e192, hx192_0, hx192_1, hx192_2, hx192_3, hx192_4, hx192_5⟩ := at_T27 (Kd.R_reads' HO179.out).2.2 0 p192 q192; cases e192; have qi192 : (0 < t177.length) = True := eq_true (by omega); (try rw [show ((0 : Int)).toNat = 0 from rfl] at hx192_0); (try rw [show 0 * 6 = 0 from rfl] at hx192_0); (try rw [Addr.add_zero'] at hx192_0); (try rw [show ((0 : Int)).toNat = 0 from rfl] at hx192_1); (try rw [show 0 * 6 = 0 from rfl] at hx192_1); (try rw [Addr.add_zero'] at hx192_1); (try rw [show ((0 : Int)).toNat = 0 from rfl] at hx192_2); (try rw [show 0 * 6 = 0 from rfl] at hx192_2); (try rw [Addr.add_zero'] at hx192_2); (try rw [show ((0 : Int)).toNat = 0 from rfl] at hx192_3); (try rw [show 0 * 6 = 0 from rfl] at hx192_3); (try rw [Addr.add_zero'] at hx192_3); (try rw [show ((0 : Int)).toNat = 0 from rfl] at hx192_4); (try rw [show 0 * 6 = 0 from rfl] at hx192_4); (try rw [Addr.add_zero'] at hx192_4); (try rw [show ((0 : Int)).toNat = 0 from rfl] at hx192_5); (try rw [show 0 * 6 = 0 from rfl] at hx192_5); (try rw [Addr.add_zero'] at hx192_5); replace p192 := eq_true p192; replace q192 := eq_true q192) | ((with_reducible refine gate_callee (f := 9) rfl ?_); refine goesL_ (some 9) rfl rfl Tryd.func9 (by kernel_rfl) rfl #[.slice none 0 0, .agg #[.int .i64 1, .int .i64 0, .int .i64 10, .int .i64 1, .int .i64 0, .string (⟨#[97]⟩ : ByteArray)]] rfl ap1 ?_; (refine (outbox_Add.calls k _ _ ([] : List (S27)) 1 0 10 1 0 (⟨#[97]⟩ : ByteArray) t177 t180 _ ?side1 ?side2 ?side3 A1.out).mono ?_); (case side1 => exact Kd.C_nil _ _); (case side2 => exact Nat.le_refl _); (case side3 => first | (with_reducible exact HT.out) | exact Tabs.below HT.out (beu HB.out)); rintro e w14 ⟨v178, rfl, ho0, hb⟩; refine ⟨_, rfl, ?_⟩; have _ := am (Kd.R_lower ho0 (below_size (beu HB.out))); have _ := am (below_step (beu HB.out) hb); clear HB; rename_i HO179 HB; (try clear hb); (try clear ho0); obtain ⟨Ao15, co15, eo15⟩ := Kd.R_slice HO179.out; subst eo15))
           go_ret
           exact ⟨ap4, beu HB.out⟩
          ·rw [if_neg c13] at H
           exact absurd H (by simp)
         ·rw [if_neg c12] at H
          have c12b0 : (((rd_T27 t185 0).f4) == 2) = false := beq_eq_false_iff_ne.mpr c12; have c12b1 : (((rd_T27 t185 0).f4) != 2) = true := bne_iff_ne.mpr c12; obtain rfl := Option.some.inj H; exact absurd HRT.out (by decide)
        ·rw [if_neg c11] at H
         have c11b0 : (((rd_T27 t185 0).f2) == 13) = false := beq_eq_false_iff_ne.mpr c11; have c11b1 : (((rd_T27 t185 0).f2) != 13) = true := bne_iff_ne.mpr c11; obtain rfl := Option.some.inj H; exact absurd HRT.out (by decide)
       ·rw [if_neg c10] at H
        exact absurd H (by simp)
      ·rw [if_neg c9] at H
       have c9b0 : (((rd_T27 t181 0).f2) == 11) = false := beq_eq_false_iff_ne.mpr c9; have c9b1 : (((rd_T27 t181 0).f2) != 11) = true := bne_iff_ne.mpr c9; obtain rfl := Option.some.inj H; exact absurd HRT.out (by decide)
     ·rw [if_neg c8] at H
      exact absurd H (by simp)
    ·rw [if_neg c7] at H
     have c7b0 : ((t185.length : Int) == 1) = false := beq_eq_false_iff_ne.mpr c7; have c7b1 : ((t185.length : Int) != 1) = true := bne_iff_ne.mpr c7; obtain rfl := Option.some.inj H; exact absurd HRT.out (by decide)
   ·rw [if_neg c6] at H
    have c6b0 : (t186 == 0) = false := beq_eq_false_iff_ne.mpr c6; have c6b1 : (t186 != 0) = true := bne_iff_ne.mpr c6; obtain rfl := Option.some.inj H; exact absurd HRT.out (by decide)
  ·rw [if_neg c5] at H
   have c5b0 : (t182 == 0) = false := beq_eq_false_iff_ne.mpr c5; have c5b1 : (t182 != 0) = true := bne_iff_ne.mpr c5; obtain rfl := Option.some.inj H; exact absurd HRT.out (by decide)
 ·rw [if_neg c4] at H
  have c4b0 : (t180 == 0) = false := beq_eq_false_iff_ne.mpr c4; have c4b1 : (t180 != 0) = true := bne_iff_ne.mpr c4; obtain rfl := Option.some.inj H; exact absurd HRT.out (by decide)
def outbox_Due.l0 : Nat → Int → List (S27) → List (S27) → Int → Int → Option ((List (S27)))
 | 0, _, _, _, _, _ => none
 | k + 1, x1, x5, x8, x9, x10 => if x10 < x9 then (if 0 ≤ x10 then (if x10 < (x8.length : Int) then (if ((rd_T27 x8 x10).f2) ≤ x1 then (if x5.length < 2513169434916 then (outbox_Due.l0 k x1 (x5 ++ [(⟨(rd_T27 x8 x10).f0, (rd_T27 x8 x10).f1, (rd_T27 x8 x10).f2, (rd_T27 x8 x10).f3, (rd_T27 x8 x10).f4, (rd_T27 x8 x10).f5⟩ : S27)]) x8 x9 (wrap64 (x10 + 1))) else (none)) else (outbox_Due.l0 k x1 x5 x8 x9 (wrap64 (x10 + 1)))) else (none)) else (none)) else (some x5)
def outbox_Due.f (k : Nat) (l0 : List (S27)) (a1 : Int) : Option ((List (S27))) := outbox_Due.l0 k a1 ([] : List (S27)) l0 (l0.length : Int) 0
set_option maxHeartbeats 8000000 in
set_option maxRecDepth 100000 in
theorem outbox_Due.calls (k : Nat) (A0 : Option Addr) (c0 : Nat) (l0 : List (S27)) (a1 : Int) (r : List (S27)) (w : World) (hr0 : Kd.C k27 w A0 l0.length l0) (hc0 : l0.length ≤ c0) (h : outbox_Due.f k l0 a1 = some r) :
  Calls Tryd.prog 14 #[.slice A0 l0.length c0, .int .i64 a1] w fun e w' => ∃ v0_ : Value, e = .returned (v0_) ∧ Kd.R k27 27 w' w.heap.size (fun _ => True) v0_ r ∧ Below w.heap.size w w' := by
 have hu27 := Tryd.underlying27; have HR0 := am hr0; have HC0 := am hc0; clear hr0 hc0; have HB := am (Below.refl w.heap.size w); have H : (outbox_Due.l0 k a1 ([] : List (S27)) l0 (l0.length : Int) 0) = some r := h; clear h; have H' := am H; clear H
 go_enter Tryd.func14, Tryd.ntmps14
 go_wp2
 go_loopg [5, 10] k (fun kq v5 v10 w' => ∃ (x5_1 : List (S27)) (x10_1 : Int), v10 = .int .i64 x10_1 ∧ Aside0 (outbox_Due.l0 kq a1 x5_1 l0 (l0.length : Int) x10_1 = some r) ∧ Aside0 (kq ≤ k) ∧ Aside0 (Kd.R k27 27 w' w.heap.size (fun _ => True) v5 x5_1) ∧ Aside0 (Below w.heap.size w w'))
 case atStart => exact ⟨(([] : List (S27))), (0), ap3, H', ⟨Nat.le_refl _⟩, ⟨by first | exact Kd.R_nil _ _ _ _ _ | exact Kd.N_nil _ _ _ _ _ | exact Kd.V_nil _ _ _ _ _ | exact Kd.Q_nil _ _ _ _ _ | exact Kd.S_nil _ _ _ _ _⟩, ⟨beu HB.out⟩⟩
 case round =>
  clear H'; (try clear c1); (try clear p2); obtain ⟨x5_1, x10_1, rfl, HA, HK1, HO_5, HB⟩ := hrel
  cases gk with
  | zero => exact absurd HA.out (by simp [outbox_Due.l0])
  | succ k1 =>
   have H := HA.out; clear HA; simp only [outbox_Due.l0] at H
   by_cases c3 : x10_1 < (l0.length : Int)
   ·rw [if_pos c3] at H
    have c3b0 : decide (x10_1 < (l0.length : Int)) = true := decide_eq_true c3; clear c3
    by_cases c4 : 0 ≤ x10_1
    ·rw [if_pos c4] at H
     have c4b0 : decide (0 ≤ x10_1) = true := decide_eq_true c4; clear c4
     by_cases c5 : x10_1 < (l0.length : Int)
     ·rw [if_pos c5] at H
      have c5b0 : decide (x10_1 < (l0.length : Int)) = true := decide_eq_true c5; clear c5
      by_cases c6 : ((rd_T27 l0 x10_1).f2) ≤ a1
      ·rw [if_pos c6] at H
       have c6b0 : decide (((rd_T27 l0 x10_1).f2) ≤ a1) = true := decide_eq_true c6; clear c6
       by_cases c7 : x5_1.length < 2513169434916
       ·rw [if_pos c7] at H
        have LMc7 := am c7; clear c7; obtain ⟨y215, hy215⟩ : ∃ y_ : List (S27), y_ = (x5_1 ++ [(⟨(rd_T27 l0 x10_1).f0, (rd_T27 l0 x10_1).f1, (rd_T27 l0 x10_1).f2, (rd_T27 l0 x10_1).f3, (rd_T27 l0 x10_1).f4, (rd_T27 l0 x10_1).f5⟩ : S27)]) := ⟨_, rfl⟩
        replace H : (outbox_Due.l0 k1 a1 y215 l0 (l0.length : Int) (wrap64 (x10_1 + 1))) = some r := by first | (rw [hy215]; with_reducible exact H) | (have H2_ := (Option.bind_some _ _).symm.trans H; rw [hy215]; with_reducible exact H2_) | (have H2_ := (Option.bind_some _ _).symm.trans H; with_reducible exact H2_) | with_reducible exact H | (rw [hy215]; exact H) | exact H
        have Ny215 := am hy215; clear hy215; have H' := am H; clear H; have p213 : 0 ≤ (x10_1 : Int) := of_decide_eq_true ap2; have q213 : x10_1 < (l0.length : Int) := of_decide_eq_true ap2; obtain ⟨ad213, e213, hx213_0, hx213_1, hx213_2, hx213_3, hx213_4, hx213_5⟩ := at_T27 HR0.out x10_1 p213 q213
        cases e213
        replace hx213_0 := (HB.out.cell (World.block_lt_of_cell? w _ hx213_0)).trans hx213_0; replace hx213_1 := (HB.out.cell (World.block_lt_of_cell? w _ hx213_1)).trans hx213_1; replace hx213_2 := (HB.out.cell (World.block_lt_of_cell? w _ hx213_2)).trans hx213_2; replace hx213_3 := (HB.out.cell (World.block_lt_of_cell? w _ hx213_3)).trans hx213_3; replace hx213_4 := (HB.out.cell (World.block_lt_of_cell? w _ hx213_4)).trans hx213_4; replace hx213_5 := (HB.out.cell (World.block_lt_of_cell? w _ hx213_5)).trans hx213_5; replace p213 := eq_true p213; replace q213 := eq_true q213
        go_wp2_with (first | ((with_reducible refine gate_dst (N := 7) rfl ?_); refine box_event ?hg (N := 7) ?hd (cs := #[.int .i64 0, .int .i64 0, .int .i64 0, .int .i64 0, .int .i64 0, .string ⟨#[]⟩]) (t := 27) ?hr ?_; (case hd => rfl); (case hg => rfl); (case hr => first | (go_simp; done) | (go_simp; rfl)); intro gb214 hg w8 hbox hb; have _ := am (Kd.R_below (Kd.R_elderB (ru HO_5.out) gb214 (Nat.le_of_eq hg.symm)) hb); have _ := am (below_step (beu HB.out) hb); have _ := am (hbox); have _ := am ((by rw [hg]; exact (below_size (beu HB.out)) : w.heap.size ≤ gb214)); have _ := am ((by rw [hg]; exact (below_size (beu HB.out)) : w.heap.size ≤ gb214)); clear HO_5 HB; rename_i HO_5 HB BK214 GW214 GE214; clear hb hbox hg; obtain ⟨hcz9_0, hcz9_1, hcz9_2, hcz9_3, hcz9_4, hcz9_5⟩ := cells6 BK214.out; obtain ⟨hfz9_0, hfz9_1, hfz9_2, hfz9_3, hfz9_4, hfz9_5⟩ := frozens6 BK214.out) | ((with_reducible refine gate_builtin (b := .append) (xs := #[.tmp 18, .tmp 20]) rfl ?_); at_builtin; refine Kd.R_append k27 (w0 := w) w.heap.size rfl (.tmp 18) (.tmp 20) 22 27 (.agg #[(.int .i64 0), (.int .i64 0), (.int .i64 0), (.int .i64 0), (.int .i64 0), (.string ⟨#[]⟩)]) 56 rfl Tryd.underlying22 info27 rfl (by decide) (by omega) u5 x5_1 (⟨(rd_T27 l0 x10_1).f0, (rd_T27 l0 x10_1).f1, (rd_T27 l0 x10_1).f2, (rd_T27 l0 x10_1).f3, (rd_T27 l0 x10_1).f4, (rd_T27 l0 x10_1).f5⟩ : S27) [.int .i64 ((rd_T27 l0 x10_1).f0), .int .i64 ((rd_T27 l0 x10_1).f1), .int .i64 ((rd_T27 l0 x10_1).f2), .int .i64 ((rd_T27 l0 x10_1).f3), .int .i64 ((rd_T27 l0 x10_1).f4), .string ((rd_T27 l0 x10_1).f5)] (fun k_ => k_ ≠ gb214) (fun _ => False) rfl (by first | (go_simp; done) | (go_simp; rfl)) ?aP (fun _ hk => hk.elim) ?aF ?aO ?aB ?aS ?aL ?_; (case aP => exact k27_mkM _ _ _ (⟨(rd_T27 l0 x10_1).f0, (rd_T27 l0 x10_1).f1, (rd_T27 l0 x10_1).f2, (rd_T27 l0 x10_1).f3, (rd_T27 l0 x10_1).f4, (rd_T27 l0 x10_1).f5⟩ : S27)); (case aB => exact (beu HB.out)); (case aF => exact (fun k_ hk => Kd.freshB (g := gb214) (o := .cells #[.int .i64 ((rd_T27 l0 x10_1).f0), .int .i64 ((rd_T27 l0 x10_1).f1), .int .i64 ((rd_T27 l0 x10_1).f2), .int .i64 ((rd_T27 l0 x10_1).f3), .int .i64 ((rd_T27 l0 x10_1).f4), .string ((rd_T27 l0 x10_1).f5)] 27 (0, 0)) (by refine bu ?_; refine blk_put (cs := #[.int .i64 ((rd_T27 l0 x10_1).f0), .int .i64 ((rd_T27 l0 x10_1).f1), .int .i64 ((rd_T27 l0 x10_1).f2), .int .i64 ((rd_T27 l0 x10_1).f3), .int .i64 ((rd_T27 l0 x10_1).f4), .string ⟨#[]⟩]) ?_ 5 _ rfl; refine bu ?_; refine blk_put (cs := #[.int .i64 ((rd_T27 l0 x10_1).f0), .int .i64 ((rd_T27 l0 x10_1).f1), .int .i64 ((rd_T27 l0 x10_1).f2), .int .i64 ((rd_T27 l0 x10_1).f3), .int .i64 0, .string ⟨#[]⟩]) ?_ 4 _ rfl; refine bu ?_; refine blk_put (cs := #[.int .i64 ((rd_T27 l0 x10_1).f0), .int .i64 ((rd_T27 l0 x10_1).f1), .int .i64 ((rd_T27 l0 x10_1).f2), .int .i64 0, .int .i64 0, .string ⟨#[]⟩]) ?_ 3 _ rfl; refine bu ?_; refine blk_put (cs := #[.int .i64 ((rd_T27 l0 x10_1).f0), .int .i64 ((rd_T27 l0 x10_1).f1), .int .i64 0, .int .i64 0, .int .i64 0, .string ⟨#[]⟩]) ?_ 2 _ rfl; refine bu ?_; refine blk_put (cs := #[.int .i64 ((rd_T27 l0 x10_1).f0), .int .i64 0, .int .i64 0, .int .i64 0, .int .i64 0, .string ⟨#[]⟩]) ?_ 1 _ rfl; refine bu ?_; refine blk_put (cs := #[.int .i64 0, .int .i64 0, .int .i64 0, .int .i64 0, .int .i64 0, .string ⟨#[]⟩]) ?_ 0 _ rfl; refine bu ?_; exact BK214.out) k_ hk)); (case aO => exact (ru (Kd.R_mono (rf gb214 5 (rf gb214 4 (rf gb214 3 (rf gb214 2 (rf gb214 1 (rf gb214 0 (Kd.R_mono HO_5.out (fun k_ hk => (⟨hk, by first | exact hk.2 | exact hk.2.2.2 | exact hk.2.2 | exact hk.2.1 | exact hk.2.2.1⟩ : _ ∧ k_ ≠ gb214))) (.int .i64 ((rd_T27 l0 x10_1).f0))) (.int .i64 ((rd_T27 l0 x10_1).f1))) (.int .i64 ((rd_T27 l0 x10_1).f2))) (.int .i64 ((rd_T27 l0 x10_1).f3))) (.int .i64 ((rd_T27 l0 x10_1).f4))) (.string ((rd_T27 l0 x10_1).f5))) (fun _ hk => hk.1.2)))); (case aS => exact (below_size (beu HB.out))); (case aL => have := LMc7.out; omega); intro v216 w10 ho hb hg hat; rw [← Ny215.out] at ho; have _ := am (blk_grown (g := gb214) (o := .cells #[.int .i64 ((rd_T27 l0 x10_1).f0), .int .i64 ((rd_T27 l0 x10_1).f1), .int .i64 ((rd_T27 l0 x10_1).f2), .int .i64 ((rd_T27 l0 x10_1).f3), .int .i64 ((rd_T27 l0 x10_1).f4), .string ((rd_T27 l0 x10_1).f5)] 27 (0, 0)) (by refine bu ?_; refine blk_put (cs := #[.int .i64 ((rd_T27 l0 x10_1).f0), .int .i64 ((rd_T27 l0 x10_1).f1), .int .i64 ((rd_T27 l0 x10_1).f2), .int .i64 ((rd_T27 l0 x10_1).f3), .int .i64 ((rd_T27 l0 x10_1).f4), .string ⟨#[]⟩]) ?_ 5 _ rfl; refine bu ?_; refine blk_put (cs := #[.int .i64 ((rd_T27 l0 x10_1).f0), .int .i64 ((rd_T27 l0 x10_1).f1), .int .i64 ((rd_T27 l0 x10_1).f2), .int .i64 ((rd_T27 l0 x10_1).f3), .int .i64 0, .string ⟨#[]⟩]) ?_ 4 _ rfl; refine bu ?_; refine blk_put (cs := #[.int .i64 ((rd_T27 l0 x10_1).f0), .int .i64 ((rd_T27 l0 x10_1).f1), .int .i64 ((rd_T27 l0 x10_1).f2), .int .i64 0, .int .i64 0, .string ⟨#[]⟩]) ?_ 3 _ rfl; refine bu ?_; refine blk_put (cs := #[.int .i64 ((rd_T27 l0 x10_1).f0), .int .i64 ((rd_T27 l0 x10_1).f1), .int .i64 0, .int .i64 0, .int .i64 0, .string ⟨#[]⟩]) ?_ 2 _ rfl; refine bu ?_; refine blk_put (cs := #[.int .i64 ((rd_T27 l0 x10_1).f0), .int .i64 0, .int .i64 0, .int .i64 0, .int .i64 0, .string ⟨#[]⟩]) ?_ 1 _ rfl; refine bu ?_; refine blk_put (cs := #[.int .i64 0, .int .i64 0, .int .i64 0, .int .i64 0, .int .i64 0, .string ⟨#[]⟩]) ?_ 0 _ rfl; refine bu ?_; exact BK214.out) hg (Kd.R_away HO_5.out (fun _ hk => hk.2))); have _ := am (hb); have _ := am (ho); clear BK214 HB HO_5; rename_i BK214 HB HO217; clear ho hb hg hat))
        go_roundg k1
        case measure => have := HK1.out; omega
        case rel => exact ⟨(y215), (wrap64 (x10_1 + 1)), ap3, H', ⟨by have := HK1.out; omega⟩, ⟨ru (Kd.R_mono HO217.out (fun _ hk => trivial))⟩, ⟨beu HB.out⟩⟩
       ·rw [if_neg c7] at H
        exact absurd H (by simp)
      ·rw [if_neg c6] at H
       have c6b0 : decide (((rd_T27 l0 x10_1).f2) ≤ a1) = false := decide_eq_false c6; clear c6; have H' := am H; clear H; have p213 : 0 ≤ (x10_1 : Int) := of_decide_eq_true ap2; have q213 : x10_1 < (l0.length : Int) := of_decide_eq_true ap2; obtain ⟨ad213, e213, hx213_0, hx213_1, hx213_2, hx213_3, hx213_4, hx213_5⟩ := at_T27 HR0.out x10_1 p213 q213
       cases e213
       replace hx213_0 := (HB.out.cell (World.block_lt_of_cell? w _ hx213_0)).trans hx213_0; replace hx213_1 := (HB.out.cell (World.block_lt_of_cell? w _ hx213_1)).trans hx213_1; replace hx213_2 := (HB.out.cell (World.block_lt_of_cell? w _ hx213_2)).trans hx213_2; replace hx213_3 := (HB.out.cell (World.block_lt_of_cell? w _ hx213_3)).trans hx213_3; replace hx213_4 := (HB.out.cell (World.block_lt_of_cell? w _ hx213_4)).trans hx213_4; replace hx213_5 := (HB.out.cell (World.block_lt_of_cell? w _ hx213_5)).trans hx213_5; replace p213 := eq_true p213; replace q213 := eq_true q213
       go_wp2_with (first | ((with_reducible refine gate_dst (N := 7) rfl ?_); refine box_event ?hg (N := 7) ?hd (cs := #[.int .i64 0, .int .i64 0, .int .i64 0, .int .i64 0, .int .i64 0, .string ⟨#[]⟩]) (t := 27) ?hr ?_; (case hd => rfl); (case hg => rfl); (case hr => first | (go_simp; done) | (go_simp; rfl)); intro gb214 hg w11 hbox hb; have _ := am (Kd.R_below (Kd.R_elderB (ru HO_5.out) gb214 (Nat.le_of_eq hg.symm)) hb); have _ := am (below_step (beu HB.out) hb); have _ := am (hbox); have _ := am ((by rw [hg]; exact (below_size (beu HB.out)) : w.heap.size ≤ gb214)); have _ := am ((by rw [hg]; exact (below_size (beu HB.out)) : w.heap.size ≤ gb214)); clear HO_5 HB; rename_i HO_5 HB BK214 GW214 GE214; clear hb hbox hg; obtain ⟨hcz12_0, hcz12_1, hcz12_2, hcz12_3, hcz12_4, hcz12_5⟩ := cells6 BK214.out; obtain ⟨hfz12_0, hfz12_1, hfz12_2, hfz12_3, hfz12_4, hfz12_5⟩ := frozens6 BK214.out))
       go_roundg k1
       case measure => have := HK1.out; omega
       case rel => exact ⟨(x5_1), (wrap64 (x10_1 + 1)), ap3, H', ⟨by have := HK1.out; omega⟩, ⟨ru (Kd.R_mono (rf gb214 5 (rf gb214 4 (rf gb214 3 (rf gb214 2 (rf gb214 1 (rf gb214 0 (Kd.R_mono HO_5.out (fun k_ hk => (⟨hk, by first | exact hk.2 | exact hk.2.2.2 | exact hk.2.2 | exact hk.2.1 | exact hk.2.2.1⟩ : _ ∧ k_ ≠ gb214))) (.int .i64 ((rd_T27 l0 x10_1).f0))) (.int .i64 ((rd_T27 l0 x10_1).f1))) (.int .i64 ((rd_T27 l0 x10_1).f2))) (.int .i64 ((rd_T27 l0 x10_1).f3))) (.int .i64 ((rd_T27 l0 x10_1).f4))) (.string ((rd_T27 l0 x10_1).f5))) (fun _ hk => trivial))⟩, ⟨beu HB.out⟩⟩
     ·rw [if_neg c5] at H
      exact absurd H (by simp)
    ·rw [if_neg c4] at H
     exact absurd H (by simp)
   ·rw [if_neg c3] at H
    have c3b0 : decide (x10_1 < (l0.length : Int)) = false := decide_eq_false c3; clear c3; obtain rfl := Option.some.inj H; simp only [Option.some.injEq, Prod.mk.injEq] at H; obtain ⟨rfl⟩ := H
    go_wp2
    go_ret
    exact ⟨_, ap4, ru HO_5.out, beu HB.out⟩
end Go.Proofs.YtnacmehhmheooaaDoor.PAll
