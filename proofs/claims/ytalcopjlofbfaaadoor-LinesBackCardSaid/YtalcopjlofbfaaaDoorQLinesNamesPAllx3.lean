
import Derived.Test.YtalcopjlofbfaaaDoorQLinesNamesPAllx0
import Derived.Test.YtalcopjlofbfaaaDoorQLinesNamesPAllx1
import Derived.Test.YtalcopjlofbfaaaDoorQLinesNamesPAllx2
import Derived.Test.YtalcopjlofbfaaaDoorQLinesNamesIns
namespace Go.Proofs.YtalcopjlofbfaaaDoor.PAll
open Go.RowKit Go.Proofs.YtalcopjlofbfaaaDoorW.PrintWords Go.Proofs.YtalcopjlofbfaaaDoorW.PrintLast Go.Proofs.YtalcopjlofbfaaaDoorW.PrintMore
attribute [local go_sem] max2_int min2_int max_two min_two
set_option linter.unusedVariables false
set_option linter.unusedSimpArgs false
attribute [local go_sem high] eqA37
mutual
def lines_Merge.l0 : Nat → List (S37) → List (S37) → Int → Int → Option ((List (S37)) × Int)
 | 0, _, _, _, _ => none
 | k + 1, x4, x11, x12, x13 => if x13 < x12 then (if 0 ≤ x13 then (if x13 < (x11.length : Int) then ((api_Line_25.f k x4 ((rd_T37 x11 x13).f0) ((rd_T37 x11 x13).f1) ((rd_T37 x11 x13).f2) 26).bind fun bt141 => (if bt141.2 = true then (lines_Merge.j1 k x4 bt141.1 bt141.2 x11 x12 x13 false ((rd_T37 x11 x13).f0) ((rd_T37 x11 x13).f1) ((rd_T37 x11 x13).f2)) else (lines_Merge.j1 k x4 bt141.1 bt141.2 x11 x12 x13 ((x4.length : Int) == 8) ((rd_T37 x11 x13).f0) ((rd_T37 x11 x13).f1) ((rd_T37 x11 x13).f2)))) else (none)) else (none)) else ((lines_Right.f k x4).bind fun t138 => (if t138 = true then (some (x4, 0)) else (some (([] : List (S37)), 41))))
def lines_Merge.j1 : Nat → List (S37) → Int → Bool → List (S37) → Int → Int → Bool → ByteArray → Int → Int → Option ((List (S37)) × Int)
 | 0, _, _, _, _, _, _, _, _, _, _ => none
 | k + 1, x4, x7, x8, x11, x12, x13, x33, X0, X1, X2 => if x33 = true then (some (([] : List (S37)), 41)) else (if x8 = true then (if 0 ≤ x7 then (if x7 < (x4.length : Int) then (if ((rd_T37 x4 x7).f2) = X2 then (if (wrap64 (((rd_T37 x4 x7).f1) + X1)) > 1000 then (some (([] : List (S37)), 41)) else (lines_Merge.l0 k (x4.set (x7 : Int).toNat (⟨(rd_T37 x4 x7).f0, wrap64 (((rd_T37 x4 x7).f1) + X1), (rd_T37 x4 x7).f2⟩ : S37)) x11 x12 (wrap64 (x13 + 1)))) else (some (([] : List (S37)), 41))) else (none)) else (none)) else (if (x4.length < 4398046511104 ∧ 0 ≤ x7 ∧ x7 ≤ (x4.length : Int)) then (lines_Merge.l0 k (ins x4 x7 (⟨X0, X1, X2⟩ : S37)) x11 x12 (wrap64 (x13 + 1))) else (none)))
end
def lines_Merge.f (k : Nat) (l0 : List (S37)) : Option ((List (S37)) × Int) := (api_Line_22.f k l0 23).bind fun t137 => (if t137 = true then (some (([] : List (S37)), 41)) else (lines_Merge.l0 k ([] : List (S37)) l0 (l0.length : Int) 0))
theorem lines_Merge.mono_l : ∀ k, (∀ y0 y1 y2 y3, LeO (lines_Merge.l0 k y0 y1 y2 y3) (lines_Merge.l0 (k + 1) y0 y1 y2 y3)) ∧ (∀ y0 y1 y2 y3 y4 y5 y6 y7 y8 y9, LeO (lines_Merge.j1 k y0 y1 y2 y3 y4 y5 y6 y7 y8 y9) (lines_Merge.j1 (k + 1) y0 y1 y2 y3 y4 y5 y6 y7 y8 y9))
 | 0 => ⟨fun _ _ _ _ r h => by simp [lines_Merge.l0] at h, fun _ _ _ _ _ _ _ _ _ _ r h => by simp [lines_Merge.j1] at h⟩
 | k + 1 => by
  obtain ⟨ih0, ih1⟩ := lines_Merge.mono_l k; refine ⟨?_, ?_⟩
  ·intro y0 y1 y2 y3
   unfold lines_Merge.l0
   repeat' first
   | (with_reducible exact ih0 _ _ _ _)
   | (with_reducible exact ih1 _ _ _ _ _ _ _ _ _ _)
   | (with_reducible exact api_Line_22.mono _ _ _)
   | (with_reducible exact api_Line_25.mono _ _ _ _ _ _)
   | (with_reducible exact lines_Right.mono _ _)
   | (with_reducible exact LeO.refl _)
   | (with_reducible exact LeO.none _)
   | (with_reducible refine LeO.ite ?_ ?_)
   | (with_reducible refine LeO.bind ?_ (fun _ => ?_))
   | exact ih0 _ _ _ _
   | exact ih1 _ _ _ _ _ _ _ _ _ _
   | exact api_Line_22.mono _ _ _
   | exact api_Line_25.mono _ _ _ _ _ _
   | exact lines_Right.mono _ _
   | exact LeO.none _
   | refine LeO.ite ?_ ?_
   | refine LeO.bind ?_ (fun _ => ?_)
  ·intro y0 y1 y2 y3 y4 y5 y6 y7 y8 y9
   unfold lines_Merge.j1
   repeat' first
   | (with_reducible exact ih0 _ _ _ _)
   | (with_reducible exact ih1 _ _ _ _ _ _ _ _ _ _)
   | (with_reducible exact api_Line_22.mono _ _ _)
   | (with_reducible exact api_Line_25.mono _ _ _ _ _ _)
   | (with_reducible exact lines_Right.mono _ _)
   | (with_reducible exact LeO.refl _)
   | (with_reducible exact LeO.none _)
   | (with_reducible refine LeO.ite ?_ ?_)
   | (with_reducible refine LeO.bind ?_ (fun _ => ?_))
   | exact ih0 _ _ _ _
   | exact ih1 _ _ _ _ _ _ _ _ _ _
   | exact api_Line_22.mono _ _ _
   | exact api_Line_25.mono _ _ _ _ _ _
   | exact lines_Right.mono _ _
   | exact LeO.none _
   | refine LeO.ite ?_ ?_
   | refine LeO.bind ?_ (fun _ => ?_)
theorem lines_Merge.mono : ∀ a0 k, LeO (lines_Merge.f k a0) (lines_Merge.f (k + 1) a0) := by
 intro a0 k; obtain ⟨ih0, ih1⟩ := lines_Merge.mono_l k
 unfold lines_Merge.f
 repeat' first
   | (with_reducible exact ih0 _ _ _ _)
   | (with_reducible exact ih1 _ _ _ _ _ _ _ _ _ _)
   | (with_reducible exact api_Line_22.mono _ _ _)
   | (with_reducible exact api_Line_25.mono _ _ _ _ _ _)
   | (with_reducible exact lines_Right.mono _ _)
   | (with_reducible exact LeO.refl _)
   | (with_reducible exact LeO.none _)
   | (with_reducible refine LeO.ite ?_ ?_)
   | (with_reducible refine LeO.bind ?_ (fun _ => ?_))
   | exact ih0 _ _ _ _
   | exact ih1 _ _ _ _ _ _ _ _ _ _
   | exact api_Line_22.mono _ _ _
   | exact api_Line_25.mono _ _ _ _ _ _
   | exact lines_Right.mono _ _
   | exact LeO.none _
   | refine LeO.ite ?_ ?_
   | refine LeO.bind ?_ (fun _ => ?_)
def lines_Merge.T8 : Bool × List (List Nat × List Nat) := (true, [([], []), ([], []), ([0, 1], [0, 1]), ([2], [2]), ([3], [3]), ([], []), ([5], [5]), ([4, 6], [4, 6]), ([0, 1, 0, 1, 2, 3, 4, 5, 6, 7], [0, 1]), ([8, 0, 1, 2, 3, 4, 5, 6, 7], [8]), ([9, 7, 0, 1, 2, 3, 4, 5, 6, 7], [7, 9])])
def lines_Merge.B8 : List Nat := [0, 0, 3, 7, 15, 0, 32, 127, 255, 511, 1023]
theorem lines_Merge.tab8 : rtab .any (opsOf Tryd.f11 8) = lines_Merge.T8 := by kernel_rfl
theorem lines_Merge.bits8 : waitsOk lines_Merge.T8.2 lines_Merge.B8 = true := by kernel_rfl
def lines_Merge.T13 : Bool × List (List Nat × List Nat) := (true, [([], []), ([], []), ([0, 1], [0, 1]), ([2], [2]), ([3], [3]), ([], []), ([5], [5]), ([4, 6], [4, 6]), ([7], [7]), ([8], [8]), ([8], [8]), ([9, 10, 8], [8, 9, 10]), ([11, 8], [8, 11]), ([12, 8], [8, 12]), ([8], [8]), ([14, 8], [8, 14]), ([13, 15, 8], [8, 13, 15]), ([16, 8], [8, 16]), ([8, 17], [8, 17]), ([18, 8], [18])])
def lines_Merge.B13 : List Nat := [0, 0, 3, 7, 15, 0, 32, 127, 255, 511, 511, 2047, 4095, 8191, 511, 16895, 65535, 131071, 262143, 524287]
theorem lines_Merge.tab13 : rtab .any (opsOf Tryd.f11 13) = lines_Merge.T13 := by kernel_rfl
theorem lines_Merge.bits13 : waitsOk lines_Merge.T13.2 lines_Merge.B13 = true := by kernel_rfl
set_option maxHeartbeats 8000000 in
set_option maxRecDepth 100000 in
theorem lines_Merge.calls (k : Nat) (A0 : Option Addr) (c0 : Nat) (l0 : List (S37)) (r1 : List (S37)) (r2 : Int) (w : World) (hr0 : Kd.C k37 w A0 l0.length l0) (hc0 : l0.length ≤ c0) (hT : Tabs w) (h : lines_Merge.f k l0 = some (r1, r2)) :
  Calls Tryd.prog 11 #[.slice A0 l0.length c0] w fun e w' => ∃ v0_ : Value, e = .returned (.tuple #[v0_, .int .i64 r2]) ∧ Kd.R k37 37 w' w.heap.size (fun _ => True) v0_ r1 ∧ Below w.heap.size w w' := by
 have hu37 := Tryd.underlying37; have HR0 := am hr0; have HC0 := am hc0; clear hr0 hc0; have HT := am hT; clear hT; have HB := am (Below.refl w.heap.size w); have H : ((api_Line_22.f k l0 23).bind fun t137 => (if t137 = true then (some (([] : List (S37)), 41)) else (lines_Merge.l0 k ([] : List (S37)) l0 (l0.length : Int) 0))) = some (r1, r2) := h; clear h; replace H := obm H; obtain ⟨t137, A20, H⟩ := H; replace H : (if t137 = true then (some (([] : List (S37)), 41)) else (lines_Merge.l0 k ([] : List (S37)) l0 (l0.length : Int) 0)) = some (r1, r2) := H; have A2 := am A20; clear A20
 by_cases c3 : t137 = true
 ·subst c3
  have H1 : (some (([] : List (S37)), 41)) = some (r1, r2) := by rw [if_pos rfl] at H; exact H
  clear H; have H := H1; clear H1; simp only [Option.some.injEq, Prod.mk.injEq] at H; obtain ⟨rfl, rfl⟩ := H
  go_enter Tryd.func11, Tryd.ntmps11
  go_wp2_with (first | ((with_reducible refine gate_callee (f := 22) rfl ?_); refine goesL_ (some 10) rfl rfl Tryd.func22 (by kernel_rfl) rfl #[.slice A0 l0.length c0, (.func (.func 23) #[] #[])] rfl ap1 ?_; (with_reducible refine (api_Line_22.calls k _ _ l0 23 true _ ?side1 ?side2 ?side3 A2.out).mono ?_); (case side1 => repeat (first | exact HR0.out | (with_reducible refine Kd.C_alloc ?_ _) | (with_reducible refine Kd.C_drewN ?_ _) | (with_reducible refine Kd.C_drew ?_))); (case side2 => exact HC0.out); (case side3 => first | (with_reducible exact HT.out) | exact Tabs.below HT.out (beu HB.out)); rintro e w4 ⟨rfl, hb⟩; refine ⟨_, rfl, ?_⟩; have _ := am (below_step (beu HB.out) hb); clear HB; rename_i HB; (try clear hb)))
  go_ret2
  exact ⟨_, ap4, by first | exact Kd.R_nil _ _ _ _ _ | exact Kd.N_nil _ _ _ _ _ | exact Kd.V_nil _ _ _ _ _ | exact Kd.Q_nil _ _ _ _ _ | exact Kd.S_nil _ _ _ _ _, beu HB.out⟩
 ·replace c3 := Bool.eq_false_iff.mpr c3
  subst c3
  have H1 : (lines_Merge.l0 k ([] : List (S37)) l0 (l0.length : Int) 0) = some (r1, r2) := by rw [if_neg (show ¬ (false = true) by decide)] at H; exact H
  clear H; have H := H1; clear H1; have H' := am H; clear H
  go_enter Tryd.func11, Tryd.ntmps11
  go_wp2_with (first | ((with_reducible refine gate_callee (f := 22) rfl ?_); refine goesL_ (some 10) rfl rfl Tryd.func22 (by kernel_rfl) rfl #[.slice A0 l0.length c0, (.func (.func 23) #[] #[])] rfl ap1 ?_; (with_reducible refine (api_Line_22.calls k _ _ l0 23 false _ ?side1 ?side2 ?side3 A2.out).mono ?_); (case side1 => repeat (first | exact HR0.out | (with_reducible refine Kd.C_alloc ?_ _) | (with_reducible refine Kd.C_drewN ?_ _) | (with_reducible refine Kd.C_drew ?_))); (case side2 => exact HC0.out); (case side3 => first | (with_reducible exact HT.out) | exact Tabs.below HT.out (beu HB.out)); rintro e w5 ⟨rfl, hb⟩; refine ⟨_, rfl, ?_⟩; have _ := am (below_step (beu HB.out) hb); clear HB; rename_i HB; (try clear hb)))
  go_loopg [4, 13] k (fun kq v4 v13 w' => ∃ (x4_1 : List (S37)) (x13_1 : Int), v13 = .int .i64 x13_1 ∧ Aside0 (lines_Merge.l0 kq x4_1 l0 (l0.length : Int) x13_1 = some (r1, r2)) ∧ Aside0 (kq ≤ k) ∧ Aside0 (Kd.R k37 37 w' w.heap.size (fun _ => True) v4 x4_1) ∧ Aside0 (Below w.heap.size w w'))
  case atStart => exact ⟨(([] : List (S37))), (0), ap3, H', ⟨Nat.le_refl _⟩, ⟨by first | exact Kd.R_nil _ _ _ _ _ | exact Kd.N_nil _ _ _ _ _ | exact Kd.V_nil _ _ _ _ _ | exact Kd.Q_nil _ _ _ _ _ | exact Kd.S_nil _ _ _ _ _⟩, ⟨beu HB.out⟩⟩
  case round =>
   clear H'; (try clear c1); (try clear c2); (try clear p2); (try clear c3); obtain ⟨x4_1, x13_1, rfl, HA, HK1, HO_4, HB⟩ := hrel
   cases gk with
   | zero => exact absurd HA.out (by simp [lines_Merge.l0])
   | succ k1 =>
    have H := HA.out; clear HA; simp only [lines_Merge.l0] at H
    by_cases c6 : x13_1 < (l0.length : Int)
    ·rw [if_pos c6] at H
     have c6b0 : decide (x13_1 < (l0.length : Int)) = true := decide_eq_true c6; clear c6
     by_cases c7 : 0 ≤ x13_1
     ·rw [if_pos c7] at H
      have c7b0 : decide (0 ≤ x13_1) = true := decide_eq_true c7; clear c7
      by_cases c8 : x13_1 < (l0.length : Int)
      ·rw [if_pos c8] at H
       have c8b0 : decide (x13_1 < (l0.length : Int)) = true := decide_eq_true c8; clear c8; replace H := obm H; obtain ⟨⟨t141, t142⟩, A90, H⟩ := H; replace H : (if t142 = true then (lines_Merge.j1 k1 x4_1 t141 t142 l0 (l0.length : Int) x13_1 false ((rd_T37 l0 x13_1).f0) ((rd_T37 l0 x13_1).f1) ((rd_T37 l0 x13_1).f2)) else (lines_Merge.j1 k1 x4_1 t141 t142 l0 (l0.length : Int) x13_1 ((x4_1.length : Int) == 8) ((rd_T37 l0 x13_1).f0) ((rd_T37 l0 x13_1).f1) ((rd_T37 l0 x13_1).f2))) = some (r1, r2) := H; have A9 := am A90; clear A90; have HC10 := am H; clear H; have p139 : 0 ≤ (x13_1 : Int) := of_decide_eq_true ap2; have q139 : x13_1 < (l0.length : Int) := of_decide_eq_true ap2; obtain ⟨ad139, e139, hx139_0, hx139_1, hx139_2⟩ := at_T37 HR0.out x13_1 p139 q139
       cases e139
       replace hx139_0 := (HB.out.cell (World.block_lt_of_cell? w _ hx139_0)).trans hx139_0; replace hx139_1 := (HB.out.cell (World.block_lt_of_cell? w _ hx139_1)).trans hx139_1; replace hx139_2 := (HB.out.cell (World.block_lt_of_cell? w _ hx139_2)).trans hx139_2; replace p139 := eq_true p139; replace q139 := eq_true q139
       go_upto_region 9 with (first | ((with_reducible refine gate_dst (N := 6) rfl ?_); (try (refine gate_guard (by rfl) ?_; dsimp only)); refine box_event ?hg (N := 6) ?hd (cs := #[.string ⟨#[]⟩, .int .i64 0, .int .i64 0]) (t := 37) ?hr ?_; (case hd => rfl); (case hg => rfl); (case hr => first | (go_simp; done) | (go_simp; rfl)); intro gb140 hg w11 hbox hb; have _ := am (Kd.R_below (Kd.R_elderB (ru HO_4.out) gb140 (Nat.le_of_eq hg.symm)) hb); have _ := am (below_step (beu HB.out) hb); have _ := am (hbox); have _ := am ((by rw [hg]; exact (below_size (beu HB.out)) : w.heap.size ≤ gb140)); have _ := am ((by rw [hg]; exact (below_size (beu HB.out)) : w.heap.size ≤ gb140)); clear HO_4 HB; rename_i HO_4 HB BK140 GW140 GE140; clear hb hbox hg; obtain ⟨hcz12_0, hcz12_1, hcz12_2⟩ := cells3 BK140.out; obtain ⟨hfz12_0, hfz12_1, hfz12_2⟩ := frozens3 BK140.out; obtain ⟨Ao13, co13, eo13⟩ := Kd.R_slice HO_4.out; subst eo13) | ((with_reducible refine gate_callee (f := 25) rfl ?_); refine goesL_ (some 20) rfl rfl Tryd.func25 (by kernel_rfl) rfl #[.slice Ao13 x4_1.length co13, .agg #[.string ((rd_T37 l0 x13_1).f0), .int .i64 ((rd_T37 l0 x13_1).f1), .int .i64 ((rd_T37 l0 x13_1).f2)], (.func (.func 26) #[] #[])] rfl ap1 ?_; (with_reducible refine (api_Line_25.calls k1 _ _ x4_1 ((rd_T37 l0 x13_1).f0) ((rd_T37 l0 x13_1).f1) ((rd_T37 l0 x13_1).f2) 26 t141 t142 _ ?side1 ?side2 A9.out).mono ?_); (case side1 => refine (Kd.R_reads' (e := 37) (base := w.heap.size) (ok := fun k_ => (True ∧ k_ ≠ gb140)) (n := x4_1.length) (c := co13) ?_).2.2; exact (ru (Kd.R_mono (rf gb140 2 (rf gb140 1 (rf gb140 0 (Kd.R_mono HO_4.out (fun k_ hk => (⟨hk, by first | exact hk.2 | exact hk.2.2.2 | exact hk.2.2 | exact hk.2.1 | exact hk.2.2.1⟩ : _ ∧ k_ ≠ gb140))) (.string ((rd_T37 l0 x13_1).f0))) (.int .i64 ((rd_T37 l0 x13_1).f1))) (.int .i64 ((rd_T37 l0 x13_1).f2))) (fun _ h_ => h_.1)))); (case side2 => exact (Kd.R_reads' HO_4.out).2.1); rintro e w14 ⟨rfl, hb⟩; refine ⟨_, rfl, ?_⟩; have _ := am (Kd.R_below (ru (Kd.R_mono (rf gb140 2 (rf gb140 1 (rf gb140 0 (Kd.R_mono HO_4.out (fun k_ hk => (⟨hk, by first | exact hk.2 | exact hk.2.2.2 | exact hk.2.2 | exact hk.2.1 | exact hk.2.2.1⟩ : _ ∧ k_ ≠ gb140))) (.string ((rd_T37 l0 x13_1).f0))) (.int .i64 ((rd_T37 l0 x13_1).f1))) (.int .i64 ((rd_T37 l0 x13_1).f2))) (fun _ h_ => h_.1))) hb); have _ := am (blk_below (g := gb140) (o := .cells #[.string ((rd_T37 l0 x13_1).f0), .int .i64 ((rd_T37 l0 x13_1).f1), .int .i64 ((rd_T37 l0 x13_1).f2)] 37 (0, 0)) (by refine bu ?_; refine blk_put (cs := #[.string ((rd_T37 l0 x13_1).f0), .int .i64 ((rd_T37 l0 x13_1).f1), .int .i64 0]) ?_ 2 _ rfl; refine bu ?_; refine blk_put (cs := #[.string ((rd_T37 l0 x13_1).f0), .int .i64 0, .int .i64 0]) ?_ 1 _ rfl; refine bu ?_; refine blk_put (cs := #[.string ⟨#[]⟩, .int .i64 0, .int .i64 0]) ?_ 0 _ rfl; refine bu ?_; exact BK140.out) hb); have _ := am (below_step (beu HB.out) hb); clear HO_4 BK140 HB; rename_i HO_4 BK140 HB; (try clear hb)))
       (try simp only [Act.put, sA, sB, sC])
       go_cut [33] (fun v33 wc => ∃ (kq : Nat) (x33_9 : Bool), v33 = .bool x33_9 ∧ Aside0 (lines_Merge.j1 kq x4_1 t141 t142 l0 (l0.length : Int) x13_1 x33_9 ((rd_T37 l0 x13_1).f0) ((rd_T37 l0 x13_1).f1) ((rd_T37 l0 x13_1).f2) = some (r1, r2)) ∧ Aside0 (kq ≤ k1) ∧ Aside0 (Kd.R k37 37 wc w.heap.size (fun k_ => k_ ≠ gb140) (.slice Ao13 x4_1.length co13) x4_1) ∧ Aside0 (wc.heap[gb140]? = some (.cells #[.string ((rd_T37 l0 x13_1).f0), .int .i64 ((rd_T37 l0 x13_1).f1), .int .i64 ((rd_T37 l0 x13_1).f2)] 37 (0, 0))) ∧ Aside0 (Below w.heap.size w wc))
       case first =>
        have H := HC10.out; clear HC10
        by_cases c15 : t142 = true
        ·subst c15
         have H1 : (lines_Merge.j1 k1 x4_1 t141 true l0 (l0.length : Int) x13_1 false ((rd_T37 l0 x13_1).f0) ((rd_T37 l0 x13_1).f1) ((rd_T37 l0 x13_1).f2)) = some (r1, r2) := by rw [if_pos rfl] at H; exact H
         clear H; have H := H1; clear H1; have H' := am H; clear H
         go_wp2
         go_meet
         case rel => exact ⟨_, (false), ap3, H', ⟨by have := HK1.out; first | omega | exact Nat.le_refl _⟩, ⟨ru (Kd.R_mono HO_4.out (fun _ hk => by first | exact hk.2 | exact trivial))⟩, ⟨by refine bu ?_; exact BK140.out⟩, ⟨beu HB.out⟩⟩
        ·replace c15 := Bool.eq_false_iff.mpr c15
         subst c15
         have H1 : (lines_Merge.j1 k1 x4_1 t141 false l0 (l0.length : Int) x13_1 ((x4_1.length : Int) == 8) ((rd_T37 l0 x13_1).f0) ((rd_T37 l0 x13_1).f1) ((rd_T37 l0 x13_1).f2)) = some (r1, r2) := by rw [if_neg (show ¬ (false = true) by decide)] at H; exact H
         clear H; have H := H1; clear H1; have H' := am H; clear H
         go_wp2
         go_meet
         case rel => exact ⟨_, (((x4_1.length : Int) == 8)), ap3, H', ⟨by have := HK1.out; first | omega | exact Nat.le_refl _⟩, ⟨ru (Kd.R_mono HO_4.out (fun _ hk => by first | exact hk.2 | exact trivial))⟩, ⟨by refine bu ?_; exact BK140.out⟩, ⟨beu HB.out⟩⟩
       case rest =>
        clear HC10; (try clear c1); (try clear p1); (try clear q1); (try clear hx1); (try clear c2); (try clear p2); (try clear c3); (try clear c6); (try clear c6b0); (try clear c7); (try clear c7b0); (try clear c8); (try clear c8b0); (try clear c11); (try clear p13); (try clear q13); (try clear hx13); (try clear c15); (try clear hcz12_0); (try clear hcz12_1); (try clear hcz12_2); (try clear hfz12_0); (try clear hfz12_1); (try clear hfz12_2); (try clear hx139_0); (try clear hx139_1); (try clear hx139_2); (try clear p139); (try clear p2); (try clear q139); obtain ⟨kq, x33_9, rfl, HA, HJ9, HO_4, BK140, HB⟩ := hcut
        cases kq with
        | zero => exact absurd HA.out (by simp [lines_Merge.j1])
        | succ kj9 =>
         have H := HA.out; clear HA; simp only [lines_Merge.j1] at H
         by_cases c16 : x33_9 = true
         ·subst c16
          have H1 : (some (([] : List (S37)), 41)) = some (r1, r2) := by rw [if_pos rfl] at H; exact H
          clear H; have H := H1; clear H1; simp only [Option.some.injEq, Prod.mk.injEq] at H; obtain ⟨rfl, rfl⟩ := H
          go_wp2
          go_ret2
          exact ⟨_, ap4, by first | exact Kd.R_nil _ _ _ _ _ | exact Kd.N_nil _ _ _ _ _ | exact Kd.V_nil _ _ _ _ _ | exact Kd.Q_nil _ _ _ _ _ | exact Kd.S_nil _ _ _ _ _, beu HB.out⟩
         ·replace c16 := Bool.eq_false_iff.mpr c16
          subst c16
          have H1 : (if t142 = true then (if 0 ≤ t141 then (if t141 < (x4_1.length : Int) then (if ((rd_T37 x4_1 t141).f2) = ((rd_T37 l0 x13_1).f2) then (if (wrap64 (((rd_T37 x4_1 t141).f1) + ((rd_T37 l0 x13_1).f1))) > 1000 then (some (([] : List (S37)), 41)) else (lines_Merge.l0 kj9 (x4_1.set (t141 : Int).toNat (⟨(rd_T37 x4_1 t141).f0, wrap64 (((rd_T37 x4_1 t141).f1) + ((rd_T37 l0 x13_1).f1)), (rd_T37 x4_1 t141).f2⟩ : S37)) l0 (l0.length : Int) (wrap64 (x13_1 + 1)))) else (some (([] : List (S37)), 41))) else (none)) else (none)) else (if (x4_1.length < 4398046511104 ∧ 0 ≤ t141 ∧ t141 ≤ (x4_1.length : Int)) then (lines_Merge.l0 kj9 (ins x4_1 t141 (⟨((rd_T37 l0 x13_1).f0), ((rd_T37 l0 x13_1).f1), ((rd_T37 l0 x13_1).f2)⟩ : S37)) l0 (l0.length : Int) (wrap64 (x13_1 + 1))) else (none))) = some (r1, r2) := by rw [if_neg (show ¬ (false = true) by decide)] at H; exact H
          clear H; have H := H1; clear H1
          by_cases c17 : t142 = true
          ·subst c17
           have H1 : (if 0 ≤ t141 then (if t141 < (x4_1.length : Int) then (if ((rd_T37 x4_1 t141).f2) = ((rd_T37 l0 x13_1).f2) then (if (wrap64 (((rd_T37 x4_1 t141).f1) + ((rd_T37 l0 x13_1).f1))) > 1000 then (some (([] : List (S37)), 41)) else (lines_Merge.l0 kj9 (x4_1.set (t141 : Int).toNat (⟨(rd_T37 x4_1 t141).f0, wrap64 (((rd_T37 x4_1 t141).f1) + ((rd_T37 l0 x13_1).f1)), (rd_T37 x4_1 t141).f2⟩ : S37)) l0 (l0.length : Int) (wrap64 (x13_1 + 1)))) else (some (([] : List (S37)), 41))) else (none)) else (none)) = some (r1, r2) := by rw [if_pos rfl] at H; exact H
           clear H; have H := H1; clear H1
           by_cases c18 : 0 ≤ t141
           ·rw [if_pos c18] at H
            have c18b0 : decide (0 ≤ t141) = true := decide_eq_true c18; clear c18
            by_cases c19 : t141 < (x4_1.length : Int)
            ·rw [if_pos c19] at H
             have c19b0 : decide (t141 < (x4_1.length : Int)) = true := decide_eq_true c19; clear c19
             by_cases c20 : ((rd_T37 x4_1 t141).f2) = ((rd_T37 l0 x13_1).f2)
             ·rw [if_pos c20] at H
              have c20b0 : (((rd_T37 x4_1 t141).f2) == ((rd_T37 l0 x13_1).f2)) = true := beq_iff_eq.mpr c20; have c20b1 : (((rd_T37 x4_1 t141).f2) != ((rd_T37 l0 x13_1).f2)) = false := bne_eq_false_iff_eq.mpr c20; clear c20
              by_cases c21 : (wrap64 (((rd_T37 x4_1 t141).f1) + ((rd_T37 l0 x13_1).f1))) > 1000
              ·rw [if_pos c21] at H
               have c21b0 : decide (1000 < (wrap64 (((rd_T37 x4_1 t141).f1) + ((rd_T37 l0 x13_1).f1)))) = true := decide_eq_true c21; clear c21; simp only [Option.some.injEq, Prod.mk.injEq] at H; obtain ⟨rfl, rfl⟩ := H
               try go_wp2
               (try (rw [drewN_self wc]; generalize hq_ : World.drewN wc _ = wc; have _ := am (show Kd.R _ _ wc _ _ _ _ from by rw [← hq_]; exact Kd.R_drewN HO_4.out _); have _ := am (blk_at hq_ BK140.out); have _ := am (below_at hq_ HB.out); clear hq_ HO_4 BK140 HB; rename_i HO_4 BK140 HB))
               have n0_ := am (Kd.R_drew HO_4.out); have n1_ := am (blk_drew BK140.out); have n2_ := am (below_drew1 HB.out); clear HO_4 BK140 HB; have HO_4 := n0_; have BK140 := n1_; have HB := n2_; clear n0_ n1_ n2_; have p143 : 0 ≤ (t141 : Int) := of_decide_eq_true ap2; have q143 : t141 < (x4_1.length : Int) := of_decide_eq_true ap2; obtain ⟨ad143, e143, hx143_0, hx143_1, hx143_2⟩ := at_T37 (Kd.R_reads' HO_4.out).2.2 t141 p143 q143
               cases e143
               replace p143 := eq_true p143; replace q143 := eq_true q143; have p144 : 0 ≤ (t141 : Int) := of_decide_eq_true ap2; have q144 : t141 < (x4_1.length : Int) := of_decide_eq_true ap2; obtain ⟨ad144, e144, hx144_0, hx144_1, hx144_2⟩ := at_T37 (Kd.R_reads' HO_4.out).2.2 t141 p144 q144; obtain rfl : ad143 = ad144 := (by injection e144); replace p144 := eq_true p144; replace q144 := eq_true q144
               refine start_ (n := 20) (S := fun w' => w'.cell? ⟨gb140, 0, none⟩ = some (.string ((rd_T37 l0 x13_1).f0)) ∧ w'.cell? ⟨gb140, 1, none⟩ = some (.int .i64 ((rd_T37 l0 x13_1).f1)) ∧ w'.cell? ⟨gb140, 2, none⟩ = some (.int .i64 ((rd_T37 l0 x13_1).f2)) ∧ w'.cell? (ad143.add ((t141).toNat * 3)) = some (.string ((rd_T37 x4_1 t141).f0)) ∧ w'.cell? ⟨(ad143.add ((t141).toNat * 3)).block, (ad143.add ((t141).toNat * 3)).off + 1, none⟩ = some (.int .i64 ((rd_T37 x4_1 t141).f1)) ∧ w'.cell? ⟨(ad143.add ((t141).toNat * 3)).block, (ad143.add ((t141).toNat * 3)).off + 2, none⟩ = some (.int .i64 ((rd_T37 x4_1 t141).f2)) ∧ w'.cell? (ad143.add ((t141).toNat * 3)) = some (.string ((rd_T37 x4_1 t141).f0)) ∧ w'.cell? ⟨(ad143.add ((t141).toNat * 3)).block, (ad143.add ((t141).toNat * 3)).off + 1, none⟩ = some (.int .i64 ((rd_T37 x4_1 t141).f1)) ∧ w'.cell? ⟨(ad143.add ((t141).toNat * 3)).block, (ad143.add ((t141).toNat * 3)).off + 2, none⟩ = some (.int .i64 ((rd_T37 x4_1 t141).f2))) (ds := []) #[false, false, false, false, false, false, false, false, false, false, false, false, false, false, false, false, false, false, false, false] (by kernel_rfl) rfl rfl ⟨(blk_cell BK140.out 0).trans rfl, (blk_cell BK140.out 1).trans rfl, (blk_cell BK140.out 2).trans rfl, hx143_0, hx143_1, hx143_2, hx144_0, hx144_1, hx144_2⟩ (fun hHeld => ?_); refine with_tabW lines_Merge.tab13 lines_Merge.bits13 (fun HT_ HW_ => ?_)
               generalize wc.drew = w22 at HO_4 BK140 HB hx143_0 hx143_1 hx143_2 hx144_0 hx144_1 hx144_2 hHeld ⊢; refine pure_ (i := 0) (N := some 50) (v := ?_) (a' := ?_) (bs 20 1) rfl rfl (ak HT_.out) (fun _ _ _ h => h) (Or.inl ⟨by rfl, ?_⟩) ?_ ?_; rotate_left
               ·intro w'
                go_simp
                with_reducible rfl
               rotate_left
               ·simp only [Act.put, sA, sB, sC, i64_w, i32_w]
                rfl
               refine pure_ (i := 1) (N := some 51) (v := ?_) (a' := ?_) (bs 20 3) rfl rfl (ak HT_.out) (fun _ _ _ h => h) (Or.inl ⟨by rfl, ?_⟩) ?_ ?_; rotate_left
               ·intro w'
                go_simp
                with_reducible rfl
               rotate_left
               ·simp only [Act.put, sA, sB, sC, i64_w, i32_w]
                rfl
               refine pure_ (i := 2) (N := some 52) (v := ?_) (a' := ?_) (bs 20 7) rfl rfl (ak HT_.out) (fun _ _ _ h => h) (Or.inl ⟨by rfl, ?_⟩) ?_ ?_; rotate_left
               ·intro w'
                go_simp
                with_reducible rfl
               rotate_left
               ·simp only [Act.put, sA, sB, sC, i64_w, i32_w]
                rfl
               refine pure_ (i := 3) (N := some 53) (v := ?_) (a' := ?_) (bs 20 15) rfl rfl (ak HT_.out) (fun _ _ _ h => h) (Or.inl ⟨by rfl, ?_⟩) ?_ ?_; rotate_left
               ·intro w'
                go_simp
                with_reducible rfl
               rotate_left
               ·simp only [Act.put, sA, sB, sC, i64_w, i32_w]
                rfl
               refine pure_ (i := 5) (N := some 55) (v := ?_) (a' := ?_) (bs 20 47) rfl rfl (ak HT_.out) (fun _ _ _ h => h) (Or.inl ⟨by rfl, ?_⟩) ?_ ?_; rotate_left
               ·intro w'
                go_simp
                with_reducible rfl
               rotate_left
               ·simp only [Act.put, sA, sB, sC, i64_w, i32_w]
                rfl
               refine take_ (i := 4) (N := some 54) (v := ?_) (a' := ?_) (bs 20 63) rfl rfl (take_ofW HT_.out HW_.out (by kernel_rfl)) (fun _ _ _ h => h) (Or.inl ⟨by rfl, ?_⟩) hHeld ?_ ?_; rotate_left
               ·rintro w' ⟨s0, s1, s2, s3, s4, s5, s6, s7, s8⟩
                go_simp
                with_reducible rfl
               rotate_left
               ·simp only [Act.put, sA, sB, sC, i64_w, i32_w]
                rfl
               refine take_ (i := 6) (N := some 56) (v := ?_) (a' := ?_) (bs 20 127) rfl rfl (take_ofW HT_.out HW_.out (by kernel_rfl)) (fun _ _ _ h => h) (Or.inl ⟨by rfl, ?_⟩) hHeld ?_ ?_; rotate_left
               ·rintro w' ⟨s0, s1, s2, s3, s4, s5, s6, s7, s8⟩
                go_simp
                with_reducible rfl
               rotate_left
               ·simp only [Act.put, sA, sB, sC, i64_w, i32_w]
                rfl
               refine pure_ (i := 7) (N := some 57) (v := ?_) (a' := ?_) (bs 20 255) rfl rfl (ak HT_.out) (fun _ _ _ h => h) (Or.inl ⟨by rfl, ?_⟩) ?_ ?_; rotate_left
               ·intro w'
                go_simp
                with_reducible rfl
               rotate_left
               ·simp only [Act.put, sA, sB, sC, i64_w, i32_w]
                rfl
               refine pure_ (i := 8) (N := some 58) (v := ?_) (a' := ?_) (bs 20 511) rfl rfl (ak HT_.out) (fun _ _ _ h => h) (Or.inl ⟨by rfl, ?_⟩) ?_ ?_; rotate_left
               ·intro w'
                go_simp
                with_reducible rfl
               rotate_left
               ·simp only [Act.put, sA, sB, sC, i64_w, i32_w]
                rfl
               refine pure_ (i := 9) (N := some 59) (v := ?_) (a' := ?_) (bs 20 1023) rfl rfl (ak HT_.out) (fun _ _ _ h => h) (Or.inl ⟨by rfl, ?_⟩) ?_ ?_; rotate_left
               ·intro w'
                go_simp
                with_reducible rfl
               rotate_left
               ·simp only [Act.put, sA, sB, sC, i64_w, i32_w]
                rfl
               refine pure_ (i := 10) (N := some 60) (v := ?_) (a' := ?_) (bs 20 2047) rfl rfl (ak HT_.out) (fun _ _ _ h => h) (Or.inl ⟨by rfl, ?_⟩) ?_ ?_; rotate_left
               ·intro w'
                go_simp
                with_reducible rfl
               rotate_left
               ·simp only [Act.put, sA, sB, sC, i64_w, i32_w]
                rfl
               refine pure_ (i := 11) (N := some 61) (v := ?_) (a' := ?_) (bs 20 4095) rfl rfl (ak HT_.out) (fun _ _ _ h => h) (Or.inl ⟨by rfl, ?_⟩) ?_ ?_; rotate_left
               ·intro w'
                go_simp
                with_reducible rfl
               rotate_left
               ·simp only [Act.put, sA, sB, sC, i64_w, i32_w]
                rfl
               refine pure_ (i := 12) (N := some 62) (v := ?_) (a' := ?_) (bs 20 8191) rfl rfl (ak HT_.out) (fun _ _ _ h => h) (Or.inl ⟨by rfl, ?_⟩) ?_ ?_; rotate_left
               ·intro w'
                go_simp
                with_reducible rfl
               rotate_left
               ·simp only [Act.put, sA, sB, sC, i64_w, i32_w]
                rfl
               refine pure_ (i := 14) (N := some 64) (v := ?_) (a' := ?_) (bs 20 24575) rfl rfl (ak HT_.out) (fun _ _ _ h => h) (Or.inl ⟨by rfl, ?_⟩) ?_ ?_; rotate_left
               ·intro w'
                go_simp
                with_reducible rfl
               rotate_left
               ·simp only [Act.put, sA, sB, sC, i64_w, i32_w]
                rfl
               refine take_ (i := 13) (N := some 63) (v := ?_) (a' := ?_) (bs 20 32767) rfl rfl (take_ofW HT_.out HW_.out (by kernel_rfl)) (fun _ _ _ h => h) (Or.inl ⟨by rfl, ?_⟩) hHeld ?_ ?_; rotate_left
               ·rintro w' ⟨s0, s1, s2, s3, s4, s5, s6, s7, s8⟩
                go_simp
                with_reducible rfl
               rotate_left
               ·simp only [Act.put, sA, sB, sC, i64_w, i32_w]
                rfl
               refine take_ (i := 15) (N := some 65) (v := ?_) (a' := ?_) (bs 20 65535) rfl rfl (take_ofW HT_.out HW_.out (by kernel_rfl)) (fun _ _ _ h => h) (Or.inl ⟨by rfl, ?_⟩) hHeld ?_ ?_; rotate_left
               ·rintro w' ⟨s0, s1, s2, s3, s4, s5, s6, s7, s8⟩
                go_simp
                with_reducible rfl
               rotate_left
               ·simp only [Act.put, sA, sB, sC, i64_w, i32_w]
                rfl
               refine pure_ (i := 16) (N := some 66) (v := ?_) (a' := ?_) (bs 20 131071) rfl rfl (ak HT_.out) (fun _ _ _ h => h) (Or.inl ⟨by rfl, ?_⟩) ?_ ?_; rotate_left
               ·intro w'
                go_simp
                with_reducible rfl
               rotate_left
               ·simp only [Act.put, sA, sB, sC, i64_w, i32_w]
                rfl
               refine pure_ (i := 17) (N := some 67) (v := ?_) (a' := ?_) (bs 20 262143) rfl rfl (ak HT_.out) (fun _ _ _ h => h) (Or.inl ⟨by rfl, ?_⟩) ?_ ?_; rotate_left
               ·intro w'
                go_simp
                with_reducible rfl
               rotate_left
               ·simp only [Act.put, sA, sB, sC, i64_w, i32_w]
                rfl
               refine pure_ (i := 18) (N := some 68) (v := ?_) (a' := ?_) (bs 20 524287) rfl rfl (ak HT_.out) (fun _ _ _ h => h) (Or.inl ⟨by rfl, ?_⟩) ?_ ?_; rotate_left
               ·intro w'
                go_simp
                with_reducible rfl
               rotate_left
               ·simp only [Act.put, sA, sB, sC, i64_w, i32_w]
                rfl
               refine pure_ (i := 19) (N := some 49) (v := ?_) (a' := ?_) (bs 20 1048575) rfl rfl (ak HT_.out) (fun _ _ _ h => h) (Or.inl ⟨by rfl, ?_⟩) ?_ ?_; rotate_left
               ·intro w'
                go_simp
                with_reducible rfl
               rotate_left
               ·simp only [Act.put, sA, sB, sC, i64_w, i32_w]
                rfl
               refine done_ (done_of HT_.out (by kernel_rfl)) ?_
               try go_wp2
               go_ret2
               exact ⟨_, ap4, by first | exact Kd.R_nil _ _ _ _ _ | exact Kd.N_nil _ _ _ _ _ | exact Kd.V_nil _ _ _ _ _ | exact Kd.Q_nil _ _ _ _ _ | exact Kd.S_nil _ _ _ _ _, beu HB.out⟩
              ·rw [if_neg c21] at H
               have c21b0 : decide (1000 < (wrap64 (((rd_T37 x4_1 t141).f1) + ((rd_T37 l0 x13_1).f1)))) = false := decide_eq_false c21; clear c21; obtain ⟨y146, hy146⟩ : ∃ y_ : List (S37), y_ = (x4_1.set (t141 : Int).toNat (⟨(rd_T37 x4_1 t141).f0, wrap64 (((rd_T37 x4_1 t141).f1) + ((rd_T37 l0 x13_1).f1)), (rd_T37 x4_1 t141).f2⟩ : S37)) := ⟨_, rfl⟩
               replace H : (lines_Merge.l0 kj9 y146 l0 (l0.length : Int) (wrap64 (x13_1 + 1))) = some (r1, r2) := by first | (rw [hy146]; with_reducible exact H) | (have H2_ := (Option.bind_some _ _).symm.trans H; rw [hy146]; with_reducible exact H2_) | (have H2_ := (Option.bind_some _ _).symm.trans H; with_reducible exact H2_) | with_reducible exact H | (rw [hy146]; exact H) | exact H
               have Ny146 := am hy146; clear hy146; have H' := am H; clear H
               try go_wp2
               (try (rw [drewN_self wc]; generalize hq_ : World.drewN wc _ = wc; have _ := am (show Kd.R _ _ wc _ _ _ _ from by rw [← hq_]; exact Kd.R_drewN HO_4.out _); have _ := am (blk_at hq_ BK140.out); have _ := am (below_at hq_ HB.out); clear hq_ HO_4 BK140 HB; rename_i HO_4 BK140 HB))
               have n0_ := am (Kd.R_drew HO_4.out); have n1_ := am (blk_drew BK140.out); have n2_ := am (below_drew1 HB.out); clear HO_4 BK140 HB; have HO_4 := n0_; have BK140 := n1_; have HB := n2_; clear n0_ n1_ n2_; have p143 : 0 ≤ (t141 : Int) := of_decide_eq_true ap2; have q143 : t141 < (x4_1.length : Int) := of_decide_eq_true ap2; obtain ⟨ad143, e143, hx143_0, hx143_1, hx143_2⟩ := at_T37 (Kd.R_reads' HO_4.out).2.2 t141 p143 q143
               cases e143
               replace p143 := eq_true p143; replace q143 := eq_true q143; have p144 : 0 ≤ (t141 : Int) := of_decide_eq_true ap2; have q144 : t141 < (x4_1.length : Int) := of_decide_eq_true ap2; obtain ⟨ad144, e144, hx144_0, hx144_1, hx144_2⟩ := at_T37 (Kd.R_reads' HO_4.out).2.2 t141 p144 q144; obtain rfl : ad143 = ad144 := (by injection e144); replace p144 := eq_true p144; replace q144 := eq_true q144
               refine start_ (n := 20) (S := fun w' => w'.cell? ⟨gb140, 0, none⟩ = some (.string ((rd_T37 l0 x13_1).f0)) ∧ w'.cell? ⟨gb140, 1, none⟩ = some (.int .i64 ((rd_T37 l0 x13_1).f1)) ∧ w'.cell? ⟨gb140, 2, none⟩ = some (.int .i64 ((rd_T37 l0 x13_1).f2)) ∧ w'.cell? (ad143.add ((t141).toNat * 3)) = some (.string ((rd_T37 x4_1 t141).f0)) ∧ w'.cell? ⟨(ad143.add ((t141).toNat * 3)).block, (ad143.add ((t141).toNat * 3)).off + 1, none⟩ = some (.int .i64 ((rd_T37 x4_1 t141).f1)) ∧ w'.cell? ⟨(ad143.add ((t141).toNat * 3)).block, (ad143.add ((t141).toNat * 3)).off + 2, none⟩ = some (.int .i64 ((rd_T37 x4_1 t141).f2)) ∧ w'.cell? (ad143.add ((t141).toNat * 3)) = some (.string ((rd_T37 x4_1 t141).f0)) ∧ w'.cell? ⟨(ad143.add ((t141).toNat * 3)).block, (ad143.add ((t141).toNat * 3)).off + 1, none⟩ = some (.int .i64 ((rd_T37 x4_1 t141).f1)) ∧ w'.cell? ⟨(ad143.add ((t141).toNat * 3)).block, (ad143.add ((t141).toNat * 3)).off + 2, none⟩ = some (.int .i64 ((rd_T37 x4_1 t141).f2))) (ds := []) #[false, false, false, false, false, false, false, false, false, false, false, false, false, false, false, false, false, false, false, false] (by kernel_rfl) rfl rfl ⟨(blk_cell BK140.out 0).trans rfl, (blk_cell BK140.out 1).trans rfl, (blk_cell BK140.out 2).trans rfl, hx143_0, hx143_1, hx143_2, hx144_0, hx144_1, hx144_2⟩ (fun hHeld => ?_); refine with_tabW lines_Merge.tab13 lines_Merge.bits13 (fun HT_ HW_ => ?_)
               generalize wc.drew = w24 at HO_4 BK140 HB hx143_0 hx143_1 hx143_2 hx144_0 hx144_1 hx144_2 hHeld ⊢; refine pure_ (i := 0) (N := some 50) (v := ?_) (a' := ?_) (bs 20 1) rfl rfl (ak HT_.out) (fun _ _ _ h => h) (Or.inl ⟨by rfl, ?_⟩) ?_ ?_; rotate_left
               ·intro w'
                go_simp
                with_reducible rfl
               rotate_left
               ·simp only [Act.put, sA, sB, sC, i64_w, i32_w]
                rfl
               refine pure_ (i := 1) (N := some 51) (v := ?_) (a' := ?_) (bs 20 3) rfl rfl (ak HT_.out) (fun _ _ _ h => h) (Or.inl ⟨by rfl, ?_⟩) ?_ ?_; rotate_left
               ·intro w'
                go_simp
                with_reducible rfl
               rotate_left
               ·simp only [Act.put, sA, sB, sC, i64_w, i32_w]
                rfl
               refine pure_ (i := 2) (N := some 52) (v := ?_) (a' := ?_) (bs 20 7) rfl rfl (ak HT_.out) (fun _ _ _ h => h) (Or.inl ⟨by rfl, ?_⟩) ?_ ?_; rotate_left
               ·intro w'
                go_simp
                with_reducible rfl
               rotate_left
               ·simp only [Act.put, sA, sB, sC, i64_w, i32_w]
                rfl
               refine pure_ (i := 3) (N := some 53) (v := ?_) (a' := ?_) (bs 20 15) rfl rfl (ak HT_.out) (fun _ _ _ h => h) (Or.inl ⟨by rfl, ?_⟩) ?_ ?_; rotate_left
               ·intro w'
                go_simp
                with_reducible rfl
               rotate_left
               ·simp only [Act.put, sA, sB, sC, i64_w, i32_w]
                rfl
               refine pure_ (i := 5) (N := some 55) (v := ?_) (a' := ?_) (bs 20 47) rfl rfl (ak HT_.out) (fun _ _ _ h => h) (Or.inl ⟨by rfl, ?_⟩) ?_ ?_; rotate_left
               ·intro w'
                go_simp
                with_reducible rfl
               rotate_left
               ·simp only [Act.put, sA, sB, sC, i64_w, i32_w]
                rfl
               refine take_ (i := 4) (N := some 54) (v := ?_) (a' := ?_) (bs 20 63) rfl rfl (take_ofW HT_.out HW_.out (by kernel_rfl)) (fun _ _ _ h => h) (Or.inl ⟨by rfl, ?_⟩) hHeld ?_ ?_; rotate_left
               ·rintro w' ⟨s0, s1, s2, s3, s4, s5, s6, s7, s8⟩
                go_simp
                with_reducible rfl
               rotate_left
               ·simp only [Act.put, sA, sB, sC, i64_w, i32_w]
                rfl
               refine take_ (i := 6) (N := some 56) (v := ?_) (a' := ?_) (bs 20 127) rfl rfl (take_ofW HT_.out HW_.out (by kernel_rfl)) (fun _ _ _ h => h) (Or.inl ⟨by rfl, ?_⟩) hHeld ?_ ?_; rotate_left
               ·rintro w' ⟨s0, s1, s2, s3, s4, s5, s6, s7, s8⟩
                go_simp
                with_reducible rfl
               rotate_left
               ·simp only [Act.put, sA, sB, sC, i64_w, i32_w]
                rfl
               refine pure_ (i := 7) (N := some 57) (v := ?_) (a' := ?_) (bs 20 255) rfl rfl (ak HT_.out) (fun _ _ _ h => h) (Or.inl ⟨by rfl, ?_⟩) ?_ ?_; rotate_left
               ·intro w'
                go_simp
                with_reducible rfl
               rotate_left
               ·simp only [Act.put, sA, sB, sC, i64_w, i32_w]
                rfl
               refine pure_ (i := 8) (N := some 58) (v := ?_) (a' := ?_) (bs 20 511) rfl rfl (ak HT_.out) (fun _ _ _ h => h) (Or.inl ⟨by rfl, ?_⟩) ?_ ?_; rotate_left
               ·intro w'
                go_simp
                with_reducible rfl
               rotate_left
               ·simp only [Act.put, sA, sB, sC, i64_w, i32_w]
                rfl
               refine pure_ (i := 9) (N := some 59) (v := ?_) (a' := ?_) (bs 20 1023) rfl rfl (ak HT_.out) (fun _ _ _ h => h) (Or.inl ⟨by rfl, ?_⟩) ?_ ?_; rotate_left
               ·intro w'
                go_simp
                with_reducible rfl
               rotate_left
               ·simp only [Act.put, sA, sB, sC, i64_w, i32_w]
                rfl
               refine pure_ (i := 10) (N := some 60) (v := ?_) (a' := ?_) (bs 20 2047) rfl rfl (ak HT_.out) (fun _ _ _ h => h) (Or.inl ⟨by rfl, ?_⟩) ?_ ?_; rotate_left
               ·intro w'
                go_simp
                with_reducible rfl
               rotate_left
               ·simp only [Act.put, sA, sB, sC, i64_w, i32_w]
                rfl
               refine pure_ (i := 11) (N := some 61) (v := ?_) (a' := ?_) (bs 20 4095) rfl rfl (ak HT_.out) (fun _ _ _ h => h) (Or.inl ⟨by rfl, ?_⟩) ?_ ?_; rotate_left
               ·intro w'
                go_simp
                with_reducible rfl
               rotate_left
               ·simp only [Act.put, sA, sB, sC, i64_w, i32_w]
                rfl
               refine pure_ (i := 12) (N := some 62) (v := ?_) (a' := ?_) (bs 20 8191) rfl rfl (ak HT_.out) (fun _ _ _ h => h) (Or.inl ⟨by rfl, ?_⟩) ?_ ?_; rotate_left
               ·intro w'
                go_simp
                with_reducible rfl
               rotate_left
               ·simp only [Act.put, sA, sB, sC, i64_w, i32_w]
                rfl
               refine pure_ (i := 14) (N := some 64) (v := ?_) (a' := ?_) (bs 20 24575) rfl rfl (ak HT_.out) (fun _ _ _ h => h) (Or.inl ⟨by rfl, ?_⟩) ?_ ?_; rotate_left
               ·intro w'
                go_simp
                with_reducible rfl
               rotate_left
               ·simp only [Act.put, sA, sB, sC, i64_w, i32_w]
                rfl
               refine take_ (i := 13) (N := some 63) (v := ?_) (a' := ?_) (bs 20 32767) rfl rfl (take_ofW HT_.out HW_.out (by kernel_rfl)) (fun _ _ _ h => h) (Or.inl ⟨by rfl, ?_⟩) hHeld ?_ ?_; rotate_left
               ·rintro w' ⟨s0, s1, s2, s3, s4, s5, s6, s7, s8⟩
                go_simp
                with_reducible rfl
               rotate_left
               ·simp only [Act.put, sA, sB, sC, i64_w, i32_w]
                rfl
               refine take_ (i := 15) (N := some 65) (v := ?_) (a' := ?_) (bs 20 65535) rfl rfl (take_ofW HT_.out HW_.out (by kernel_rfl)) (fun _ _ _ h => h) (Or.inl ⟨by rfl, ?_⟩) hHeld ?_ ?_; rotate_left
               ·rintro w' ⟨s0, s1, s2, s3, s4, s5, s6, s7, s8⟩
                go_simp
                with_reducible rfl
               rotate_left
               ·simp only [Act.put, sA, sB, sC, i64_w, i32_w]
                rfl
               refine pure_ (i := 16) (N := some 66) (v := ?_) (a' := ?_) (bs 20 131071) rfl rfl (ak HT_.out) (fun _ _ _ h => h) (Or.inl ⟨by rfl, ?_⟩) ?_ ?_; rotate_left
               ·intro w'
                go_simp
                with_reducible rfl
               rotate_left
               ·simp only [Act.put, sA, sB, sC, i64_w, i32_w]
                rfl
               refine pure_ (i := 17) (N := some 67) (v := ?_) (a' := ?_) (bs 20 262143) rfl rfl (ak HT_.out) (fun _ _ _ h => h) (Or.inl ⟨by rfl, ?_⟩) ?_ ?_; rotate_left
               ·intro w'
                go_simp
                with_reducible rfl
               rotate_left
               ·simp only [Act.put, sA, sB, sC, i64_w, i32_w]
                rfl
               refine pure_ (i := 18) (N := some 68) (v := ?_) (a' := ?_) (bs 20 524287) rfl rfl (ak HT_.out) (fun _ _ _ h => h) (Or.inl ⟨by rfl, ?_⟩) ?_ ?_; rotate_left
               ·intro w'
                go_simp
                with_reducible rfl
               rotate_left
               ·simp only [Act.put, sA, sB, sC, i64_w, i32_w]
                rfl
               refine pure_ (i := 19) (N := some 49) (v := ?_) (a' := ?_) (bs 20 1048575) rfl rfl (ak HT_.out) (fun _ _ _ h => h) (Or.inl ⟨by rfl, ?_⟩) ?_ ?_; rotate_left
               ·intro w'
                go_simp
                with_reducible rfl
               rotate_left
               ·simp only [Act.put, sA, sB, sC, i64_w, i32_w]
                rfl
               refine done_ (done_of HT_.out (by kernel_rfl)) ?_
               try go_wp2
               (try (rw [drewN_self w24]; generalize hq_ : World.drewN w24 _ = w24; have _ := am (show Kd.R _ _ w24 _ _ _ _ from by rw [← hq_]; exact Kd.R_drewN HO_4.out _); have _ := am (blk_at hq_ BK140.out); have _ := am (below_at hq_ HB.out); clear hq_ HO_4 BK140 HB; rename_i HO_4 BK140 HB))
               have n0_ := am (Kd.R_drew HO_4.out); have n1_ := am (blk_drew BK140.out); have n2_ := am (below_drew1 HB.out); clear HO_4 BK140 HB; have HO_4 := n0_; have BK140 := n1_; have HB := n2_; clear n0_ n1_ n2_; have p145 : 0 ≤ (t141 : Int) := of_decide_eq_true ap2; have q145 : t141 < (x4_1.length : Int) := of_decide_eq_true ap2; obtain ⟨ad145, e145, hx145_0, hx145_1, hx145_2⟩ := at_T37 (Kd.R_reads' HO_4.out).2.2 t141 p145 q145; obtain rfl : ad143 = ad145 := (by injection e145); replace p145 := eq_true p145; replace q145 := eq_true q145; have p23 : 0 ≤ (t141 : Int) := of_decide_eq_true ap2; have q23 : (t141 : Int) < ((x4_1.length : Int) : Int) := of_decide_eq_true ap2; obtain ⟨go23, co23, eo23, gb23, gl23, cl23, HG23⟩ := Kd.R_form HO_4.out (by omega)
               (first | cases eo23 | (injection eo23 with ea_ en_ ec_; (first | subst ea_ | (injection ea_ with ea_; subst ea_)); subst ec_; clear en_))
               have GB23 := am gb23; have GG23 := am HG23; clear gb23 gl23 HG23
               (first | simp only [add_plain] at hx143_0 | skip)
               (first | simp only [add_plain] at hx143_1 | skip)
               (first | simp only [add_plain] at hx143_2 | skip)
               (first | simp only [add_plain] at hx144_0 | skip)
               (first | simp only [add_plain] at hx144_1 | skip)
               (first | simp only [add_plain] at hx144_2 | skip)
               (first | simp only [add_plain] at hx145_0 | skip)
               (first | simp only [add_plain] at hx145_1 | skip)
               (first | simp only [add_plain] at hx145_2 | skip)
               obtain ⟨ce23, hcl23, hM23, hcc23, hfr23⟩ := Kd.R_elem HO_4.out z37 (t141 : Int) p23 q23; obtain rfl := k37_openM hM23; have hx23_0 : World.cell? _ ⟨go23, (t141 : Int).toNat * 3, none⟩ = some (.string ((rd_T37 x4_1 t141).f0)) := hcc23 0 _ rfl; have hx23_1 : World.cell? _ ⟨go23, (t141 : Int).toNat * 3 + 1, none⟩ = some (.int .i64 ((rd_T37 x4_1 t141).f1)) := hcc23 1 _ rfl; have hx23_2 : World.cell? _ ⟨go23, (t141 : Int).toNat * 3 + 2, none⟩ = some (.int .i64 ((rd_T37 x4_1 t141).f2)) := hcc23 2 _ rfl; have hf23_0 : World.frozen? _ ⟨go23, (t141 : Int).toNat * 3, none⟩ = false := hfr23 0; have hf23_1 : World.frozen? _ ⟨go23, (t141 : Int).toNat * 3 + 1, none⟩ = false := hfr23 1; have hf23_2 : World.frozen? _ ⟨go23, (t141 : Int).toNat * 3 + 2, none⟩ = false := hfr23 2; clear hcl23 hcc23 hfr23 hM23; replace p23 := eq_true p23; replace q23 := eq_true q23; obtain ⟨ce26, hcl26, hM26, hcc26, hfr26⟩ := Kd.R_elem HO_4.out z37 (t141 : Int) (of_decide_eq_true ap2) (by have h_ : (t141 : Int) < ((x4_1.length : Int) : Int) := of_decide_eq_true ap2; first | exact h_ | (have e_ := (Kd.R_reads' HO_4.out).1; omega) | simpa using h_); obtain rfl := k37_openM hM26; have HP26 := (Kd.R_seg HO_4.out (t141 : Int) (of_decide_eq_true ap2) (by have h_ : (t141 : Int) < ((x4_1.length : Int) : Int) := of_decide_eq_true ap2; first | exact h_ | (have e_ := (Kd.R_reads' HO_4.out).1; omega) | simpa using h_) (seg := [.int .i64 (wrap64 (((rd_T37 x4_1 t141).f1) + ((rd_T37 l0 x13_1).f1)))]) (j := 1) hcl26 hcc26 (show 2 ≤ 3 from by decide) (x' := (⟨(rd_T37 x4_1 t141).f0, wrap64 (((rd_T37 x4_1 t141).f1) + ((rd_T37 l0 x13_1).f1)), (rd_T37 x4_1 t141).f2⟩ : S37)) (k37_mkM _ _ _ (⟨(rd_T37 x4_1 t141).f0, wrap64 (((rd_T37 x4_1 t141).f1) + ((rd_T37 l0 x13_1).f1)), (rd_T37 x4_1 t141).f2⟩ : S37) ) (fun _ hk => hk)).1; rw [← Ny146.out] at HP26; have HQ26 := am HP26; clear hcl26 hcc26 hfr26 hM26 HP26
               refine start_ (n := 11) (S := fun w' => w'.cell? ⟨gb140, 0, none⟩ = some (.string ((rd_T37 l0 x13_1).f0)) ∧ w'.cell? ⟨gb140, 1, none⟩ = some (.int .i64 ((rd_T37 l0 x13_1).f1)) ∧ w'.cell? ⟨gb140, 2, none⟩ = some (.int .i64 ((rd_T37 l0 x13_1).f2)) ∧ w'.cell? ⟨go23, ((t141).toNat * 3), none⟩ = some (.string ((rd_T37 x4_1 t141).f0)) ∧ w'.cell? ⟨go23, ((t141).toNat * 3) + 1, none⟩ = some (.int .i64 ((rd_T37 x4_1 t141).f1)) ∧ w'.cell? ⟨go23, ((t141).toNat * 3) + 2, none⟩ = some (.int .i64 ((rd_T37 x4_1 t141).f2))) (ds := [10]) #[false, false, false, false, false, false, false, false, false, false, false] (by kernel_rfl) rfl rfl ⟨(blk_cell BK140.out 0).trans rfl, (blk_cell BK140.out 1).trans rfl, (blk_cell BK140.out 2).trans rfl, hx145_0, hx145_1, hx145_2⟩ (fun hHeld => ?_); refine with_tabW lines_Merge.tab8 lines_Merge.bits8 (fun HT_ HW_ => ?_)
               generalize w24.drew = w25 at HO_4 BK140 HB GG23 HQ26 hf23_0 hf23_1 hf23_2 hx143_0 hx143_1 hx143_2 hx144_0 hx144_1 hx144_2 hx145_0 hx145_1 hx145_2 hx23_0 hx23_1 hx23_2 hHeld ⊢; refine pure_ (i := 0) (N := some 23) (v := ?_) (a' := ?_) (bs 11 1) rfl rfl (ak HT_.out) (fun _ _ _ h => h) (Or.inl ⟨by rfl, ?_⟩) ?_ ?_; rotate_left
               ·intro w'
                go_simp
                with_reducible rfl
               rotate_left
               ·simp only [Act.put, sA, sB, sC, i64_w, i32_w]
                rfl
               refine pure_ (i := 1) (N := some 24) (v := ?_) (a' := ?_) (bs 11 3) rfl rfl (ak HT_.out) (fun _ _ _ h => h) (Or.inl ⟨by rfl, ?_⟩) ?_ ?_; rotate_left
               ·intro w'
                go_simp
                with_reducible rfl
               rotate_left
               ·simp only [Act.put, sA, sB, sC, i64_w, i32_w]
                rfl
               refine pure_ (i := 2) (N := some 25) (v := ?_) (a' := ?_) (bs 11 7) rfl rfl (ak HT_.out) (fun _ _ _ h => h) (Or.inl ⟨by rfl, ?_⟩) ?_ ?_; rotate_left
               ·intro w'
                go_simp
                with_reducible rfl
               rotate_left
               ·simp only [Act.put, sA, sB, sC, i64_w, i32_w]
                rfl
               refine pure_ (i := 3) (N := some 26) (v := ?_) (a' := ?_) (bs 11 15) rfl rfl (ak HT_.out) (fun _ _ _ h => h) (Or.inl ⟨by rfl, ?_⟩) ?_ ?_; rotate_left
               ·intro w'
                go_simp
                with_reducible rfl
               rotate_left
               ·simp only [Act.put, sA, sB, sC, i64_w, i32_w]
                rfl
               refine pure_ (i := 5) (N := some 28) (v := ?_) (a' := ?_) (bs 11 47) rfl rfl (ak HT_.out) (fun _ _ _ h => h) (Or.inl ⟨by rfl, ?_⟩) ?_ ?_; rotate_left
               ·intro w'
                go_simp
                with_reducible rfl
               rotate_left
               ·simp only [Act.put, sA, sB, sC, i64_w, i32_w]
                rfl
               refine take_ (i := 4) (N := some 27) (v := ?_) (a' := ?_) (bs 11 63) rfl rfl (take_ofW HT_.out HW_.out (by kernel_rfl)) (fun _ _ _ h => h) (Or.inl ⟨by rfl, ?_⟩) hHeld ?_ ?_; rotate_left
               ·rintro w' ⟨s0, s1, s2, s3, s4, s5⟩
                go_simp
                with_reducible rfl
               rotate_left
               ·simp only [Act.put, sA, sB, sC, i64_w, i32_w]
                rfl
               refine take_ (i := 6) (N := some 29) (v := ?_) (a' := ?_) (bs 11 127) rfl rfl (take_ofW HT_.out HW_.out (by kernel_rfl)) (fun _ _ _ h => h) (Or.inl ⟨by rfl, ?_⟩) hHeld ?_ ?_; rotate_left
               ·rintro w' ⟨s0, s1, s2, s3, s4, s5⟩
                go_simp
                with_reducible rfl
               rotate_left
               ·simp only [Act.put, sA, sB, sC, i64_w, i32_w]
                rfl
               refine pure_ (i := 7) (N := some 30) (v := ?_) (a' := ?_) (bs 11 255) rfl rfl (ak HT_.out) (fun _ _ _ h => h) (Or.inl ⟨by rfl, ?_⟩) ?_ ?_; rotate_left
               ·intro w'
                go_simp
                with_reducible rfl
               rotate_left
               ·simp only [Act.put, sA, sB, sC, i64_w, i32_w]
                rfl
               refine pure_ (i := 8) (N := some 31) (v := ?_) (a' := ?_) (bs 11 511) rfl rfl (ak HT_.out) (fun _ _ _ h => h) (Or.inl ⟨by rfl, ?_⟩) ?_ ?_; rotate_left
               ·intro w'
                go_simp
                with_reducible rfl
               rotate_left
               ·simp only [Act.put, sA, sB, sC, i64_w, i32_w]
                rfl
               refine pure_ (i := 9) (N := some 32) (v := ?_) (a' := ?_) (bs 11 1023) rfl rfl (ak HT_.out) (fun _ _ _ h => h) (Or.inl ⟨by rfl, ?_⟩) ?_ ?_; rotate_left
               ·intro w'
                go_simp
                with_reducible rfl
               rotate_left
               ·simp only [Act.put, sA, sB, sC, i64_w, i32_w]
                rfl
               refine last_ (i := 10) (N := none) (bs 11 2047) rfl rfl (one_of HT_.out (by kernel_rfl)) (by decide) (fun K hK => ?_); refine skip_ (w1 := ?_) (by rfl) rfl ?_ ?_; rotate_left
               ·go_simp
                rfl
               refine hK.out _ _ ?_; clear hK K; refine done_ (done_of HT_.out (by kernel_rfl)) ?_
               try go_wp2
               go_roundg kj9
               case measure => have := HK1.out; have := HJ9.out; omega
               case rel => exact ⟨(y146), (wrap64 (x13_1 + 1)), ap3, H', ⟨by have := HK1.out; have := HJ9.out; omega⟩, ⟨ru (Kd.R_mono HQ26.out (fun _ hk => trivial))⟩, ⟨by repeat (first | (with_reducible first | exact HB.out | apply below_alloc | apply pw_below_drewN | apply below_drew1 | refine below_set ?_ GB23.out | refine below_set ?_ GE140.out) | exact HB.out)⟩⟩
             ·rw [if_neg c20] at H
              have c20b0 : (((rd_T37 x4_1 t141).f2) == ((rd_T37 l0 x13_1).f2)) = false := beq_eq_false_iff_ne.mpr c20; have c20b1 : (((rd_T37 x4_1 t141).f2) != ((rd_T37 l0 x13_1).f2)) = true := bne_iff_ne.mpr c20; simp only [Option.some.injEq, Prod.mk.injEq] at H; obtain ⟨rfl, rfl⟩ := H
              try go_wp2
              (try (rw [drewN_self wc]; generalize hq_ : World.drewN wc _ = wc; have _ := am (show Kd.R _ _ wc _ _ _ _ from by rw [← hq_]; exact Kd.R_drewN HO_4.out _); have _ := am (blk_at hq_ BK140.out); have _ := am (below_at hq_ HB.out); clear hq_ HO_4 BK140 HB; rename_i HO_4 BK140 HB))
              have n0_ := am (Kd.R_drew HO_4.out); have n1_ := am (blk_drew BK140.out); have n2_ := am (below_drew1 HB.out); clear HO_4 BK140 HB; have HO_4 := n0_; have BK140 := n1_; have HB := n2_; clear n0_ n1_ n2_; have p143 : 0 ≤ (t141 : Int) := of_decide_eq_true ap2; have q143 : t141 < (x4_1.length : Int) := of_decide_eq_true ap2; obtain ⟨ad143, e143, hx143_0, hx143_1, hx143_2⟩ := at_T37 (Kd.R_reads' HO_4.out).2.2 t141 p143 q143
              cases e143
              replace p143 := eq_true p143; replace q143 := eq_true q143
              refine start_ (n := 20) (S := fun w' => w'.cell? ⟨gb140, 0, none⟩ = some (.string ((rd_T37 l0 x13_1).f0)) ∧ w'.cell? ⟨gb140, 1, none⟩ = some (.int .i64 ((rd_T37 l0 x13_1).f1)) ∧ w'.cell? ⟨gb140, 2, none⟩ = some (.int .i64 ((rd_T37 l0 x13_1).f2)) ∧ w'.cell? (ad143.add ((t141).toNat * 3)) = some (.string ((rd_T37 x4_1 t141).f0)) ∧ w'.cell? ⟨(ad143.add ((t141).toNat * 3)).block, (ad143.add ((t141).toNat * 3)).off + 1, none⟩ = some (.int .i64 ((rd_T37 x4_1 t141).f1)) ∧ w'.cell? ⟨(ad143.add ((t141).toNat * 3)).block, (ad143.add ((t141).toNat * 3)).off + 2, none⟩ = some (.int .i64 ((rd_T37 x4_1 t141).f2))) (ds := []) #[false, false, false, false, false, false, false, false, false, false, false, false, false, false, false, false, false, false, false, false] (by kernel_rfl) rfl rfl ⟨(blk_cell BK140.out 0).trans rfl, (blk_cell BK140.out 1).trans rfl, (blk_cell BK140.out 2).trans rfl, hx143_0, hx143_1, hx143_2⟩ (fun hHeld => ?_); refine with_tabW lines_Merge.tab13 lines_Merge.bits13 (fun HT_ HW_ => ?_)
              generalize wc.drew = w27 at HO_4 BK140 HB hx143_0 hx143_1 hx143_2 hHeld ⊢; refine pure_ (i := 0) (N := some 50) (v := ?_) (a' := ?_) (bs 20 1) rfl rfl (ak HT_.out) (fun _ _ _ h => h) (Or.inl ⟨by rfl, ?_⟩) ?_ ?_; rotate_left
              ·intro w'
               go_simp
               with_reducible rfl
              rotate_left
              ·simp only [Act.put, sA, sB, sC, i64_w, i32_w]
               rfl
              refine pure_ (i := 1) (N := some 51) (v := ?_) (a' := ?_) (bs 20 3) rfl rfl (ak HT_.out) (fun _ _ _ h => h) (Or.inl ⟨by rfl, ?_⟩) ?_ ?_; rotate_left
              ·intro w'
               go_simp
               with_reducible rfl
              rotate_left
              ·simp only [Act.put, sA, sB, sC, i64_w, i32_w]
               rfl
              refine pure_ (i := 2) (N := some 52) (v := ?_) (a' := ?_) (bs 20 7) rfl rfl (ak HT_.out) (fun _ _ _ h => h) (Or.inl ⟨by rfl, ?_⟩) ?_ ?_; rotate_left
              ·intro w'
               go_simp
               with_reducible rfl
              rotate_left
              ·simp only [Act.put, sA, sB, sC, i64_w, i32_w]
               rfl
              refine pure_ (i := 3) (N := some 53) (v := ?_) (a' := ?_) (bs 20 15) rfl rfl (ak HT_.out) (fun _ _ _ h => h) (Or.inl ⟨by rfl, ?_⟩) ?_ ?_; rotate_left
              ·intro w'
               go_simp
               with_reducible rfl
              rotate_left
              ·simp only [Act.put, sA, sB, sC, i64_w, i32_w]
               rfl
              refine pure_ (i := 5) (N := some 55) (v := ?_) (a' := ?_) (bs 20 47) rfl rfl (ak HT_.out) (fun _ _ _ h => h) (Or.inl ⟨by rfl, ?_⟩) ?_ ?_; rotate_left
              ·intro w'
               go_simp
               with_reducible rfl
              rotate_left
              ·simp only [Act.put, sA, sB, sC, i64_w, i32_w]
               rfl
              refine take_ (i := 4) (N := some 54) (v := ?_) (a' := ?_) (bs 20 63) rfl rfl (take_ofW HT_.out HW_.out (by kernel_rfl)) (fun _ _ _ h => h) (Or.inl ⟨by rfl, ?_⟩) hHeld ?_ ?_; rotate_left
              ·rintro w' ⟨s0, s1, s2, s3, s4, s5⟩
               go_simp
               with_reducible rfl
              rotate_left
              ·simp only [Act.put, sA, sB, sC, i64_w, i32_w]
               rfl
              refine take_ (i := 6) (N := some 56) (v := ?_) (a' := ?_) (bs 20 127) rfl rfl (take_ofW HT_.out HW_.out (by kernel_rfl)) (fun _ _ _ h => h) (Or.inl ⟨by rfl, ?_⟩) hHeld ?_ ?_; rotate_left
              ·rintro w' ⟨s0, s1, s2, s3, s4, s5⟩
               go_simp
               with_reducible rfl
              rotate_left
              ·simp only [Act.put, sA, sB, sC, i64_w, i32_w]
               rfl
              refine pure_ (i := 7) (N := some 57) (v := ?_) (a' := ?_) (bs 20 255) rfl rfl (ak HT_.out) (fun _ _ _ h => h) (Or.inl ⟨by rfl, ?_⟩) ?_ ?_; rotate_left
              ·intro w'
               go_simp
               with_reducible rfl
              rotate_left
              ·simp only [Act.put, sA, sB, sC, i64_w, i32_w]
               rfl
              refine pure_ (i := 8) (N := some 58) (v := ?_) (a' := ?_) (bs 20 511) rfl rfl (ak HT_.out) (fun _ _ _ h => h) (Or.inl ⟨by rfl, ?_⟩) ?_ ?_; rotate_left
              ·intro w'
               go_simp
               with_reducible rfl
              rotate_left
              ·simp only [Act.put, sA, sB, sC, i64_w, i32_w]
               rfl
              refine pure_ (i := 9) (N := some 59) (v := undef) (a' := ?_) (bs 20 1023) rfl rfl (ak HT_.out) (fun _ _ _ h => h) (Or.inr ⟨by rfl, rfl⟩) ?_ ?_; rotate_left
              ·simp only [Act.put, sA, sB, sC, i64_w, i32_w]
               rfl
              refine pure_ (i := 10) (N := some 60) (v := undef) (a' := ?_) (bs 20 2047) rfl rfl (ak HT_.out) (fun _ _ _ h => h) (Or.inr ⟨by rfl, rfl⟩) ?_ ?_; rotate_left
              ·simp only [Act.put, sA, sB, sC, i64_w, i32_w]
               rfl
              refine pure_ (i := 11) (N := some 61) (v := undef) (a' := ?_) (bs 20 4095) rfl rfl (ak HT_.out) (fun _ _ _ h => h) (Or.inr ⟨by rfl, rfl⟩) ?_ ?_; rotate_left
              ·simp only [Act.put, sA, sB, sC, i64_w, i32_w]
               rfl
              refine pure_ (i := 12) (N := some 62) (v := undef) (a' := ?_) (bs 20 8191) rfl rfl (ak HT_.out) (fun _ _ _ h => h) (Or.inr ⟨by rfl, rfl⟩) ?_ ?_; rotate_left
              ·simp only [Act.put, sA, sB, sC, i64_w, i32_w]
               rfl
              refine pure_ (i := 13) (N := some 63) (v := undef) (a' := ?_) (bs 20 16383) rfl rfl (ak HT_.out) (fun _ _ _ h => h) (Or.inr ⟨by rfl, rfl⟩) ?_ ?_; rotate_left
              ·simp only [Act.put, sA, sB, sC, i64_w, i32_w]
               rfl
              refine pure_ (i := 14) (N := some 64) (v := undef) (a' := ?_) (bs 20 32767) rfl rfl (ak HT_.out) (fun _ _ _ h => h) (Or.inr ⟨by rfl, rfl⟩) ?_ ?_; rotate_left
              ·simp only [Act.put, sA, sB, sC, i64_w, i32_w]
               rfl
              refine pure_ (i := 15) (N := some 65) (v := undef) (a' := ?_) (bs 20 65535) rfl rfl (ak HT_.out) (fun _ _ _ h => h) (Or.inr ⟨by rfl, rfl⟩) ?_ ?_; rotate_left
              ·simp only [Act.put, sA, sB, sC, i64_w, i32_w]
               rfl
              refine pure_ (i := 16) (N := some 66) (v := undef) (a' := ?_) (bs 20 131071) rfl rfl (ak HT_.out) (fun _ _ _ h => h) (Or.inr ⟨by rfl, rfl⟩) ?_ ?_; rotate_left
              ·simp only [Act.put, sA, sB, sC, i64_w, i32_w]
               rfl
              refine pure_ (i := 17) (N := some 67) (v := undef) (a' := ?_) (bs 20 262143) rfl rfl (ak HT_.out) (fun _ _ _ h => h) (Or.inr ⟨by rfl, rfl⟩) ?_ ?_; rotate_left
              ·simp only [Act.put, sA, sB, sC, i64_w, i32_w]
               rfl
              refine pure_ (i := 18) (N := some 68) (v := ?_) (a' := ?_) (bs 20 524287) rfl rfl (ak HT_.out) (fun _ _ _ h => h) (Or.inl ⟨by rfl, ?_⟩) ?_ ?_; rotate_left
              ·intro w'
               go_simp
               with_reducible rfl
              rotate_left
              ·simp only [Act.put, sA, sB, sC, i64_w, i32_w]
               rfl
              refine pure_ (i := 19) (N := some 49) (v := ?_) (a' := ?_) (bs 20 1048575) rfl rfl (ak HT_.out) (fun _ _ _ h => h) (Or.inl ⟨by rfl, ?_⟩) ?_ ?_; rotate_left
              ·intro w'
               go_simp
               with_reducible rfl
              rotate_left
              ·simp only [Act.put, sA, sB, sC, i64_w, i32_w]
               rfl
              refine done_ (done_of HT_.out (by kernel_rfl)) ?_
              try go_wp2
              go_ret2
              exact ⟨_, ap4, by first | exact Kd.R_nil _ _ _ _ _ | exact Kd.N_nil _ _ _ _ _ | exact Kd.V_nil _ _ _ _ _ | exact Kd.Q_nil _ _ _ _ _ | exact Kd.S_nil _ _ _ _ _, beu HB.out⟩
            ·rw [if_neg c19] at H
             exact absurd H (by simp)
           ·rw [if_neg c18] at H
            exact absurd H (by simp)
          ·replace c17 := Bool.eq_false_iff.mpr c17
           subst c17
           have H1 : (if (x4_1.length < 4398046511104 ∧ 0 ≤ t141 ∧ t141 ≤ (x4_1.length : Int)) then (lines_Merge.l0 kj9 (ins x4_1 t141 (⟨((rd_T37 l0 x13_1).f0), ((rd_T37 l0 x13_1).f1), ((rd_T37 l0 x13_1).f2)⟩ : S37)) l0 (l0.length : Int) (wrap64 (x13_1 + 1))) else (none)) = some (r1, r2) := by rw [if_neg (show ¬ (false = true) by decide)] at H; exact H
           clear H; have H := H1; clear H1
           by_cases c28 : (x4_1.length < 4398046511104 ∧ 0 ≤ t141 ∧ t141 ≤ (x4_1.length : Int))
           ·rw [if_pos c28] at H
            have LMc28 := am c28; clear c28; obtain ⟨y147, hy147⟩ : ∃ y_ : List (S37), y_ = (ins x4_1 t141 (⟨((rd_T37 l0 x13_1).f0), ((rd_T37 l0 x13_1).f1), ((rd_T37 l0 x13_1).f2)⟩ : S37)) := ⟨_, rfl⟩
            replace H : (lines_Merge.l0 kj9 y147 l0 (l0.length : Int) (wrap64 (x13_1 + 1))) = some (r1, r2) := by first | (rw [hy147]; with_reducible exact H) | (have H2_ := (Option.bind_some _ _).symm.trans H; rw [hy147]; with_reducible exact H2_) | (have H2_ := (Option.bind_some _ _).symm.trans H; with_reducible exact H2_) | with_reducible exact H | (rw [hy147]; exact H) | exact H
            have Ny147 := am hy147; clear hy147; have H' := am H; clear H; obtain ⟨_, _, _⟩ := cells3 BK140.out; obtain ⟨_, _, _⟩ := frozens3 BK140.out
            go_wp2_with (first | ((with_reducible refine gate_callee (f := 27) rfl ?_); (try (refine gate_guard (by rfl) ?_; dsimp only)); refine ins_own (w0 := w) w.heap.size (some 48) rfl rfl rfl (.slice Ao13 x4_1.length co13) x4_1 t141 (⟨((rd_T37 l0 x13_1).f0), ((rd_T37 l0 x13_1).f1), ((rd_T37 l0 x13_1).f2)⟩ : S37) [.string ((rd_T37 l0 x13_1).f0), .int .i64 ((rd_T37 l0 x13_1).f1), .int .i64 ((rd_T37 l0 x13_1).f2)] (fun k_ => k_ ≠ gb140) (fun _ => False) ap1 ?aP (fun _ hk => hk.elim) ?aF ?aO ?aB ?aS ?aL ?_; (case aP => exact k37_mkM _ _ _ (⟨((rd_T37 l0 x13_1).f0), ((rd_T37 l0 x13_1).f1), ((rd_T37 l0 x13_1).f2)⟩ : S37)); (case aB => exact (beu HB.out)); (case aF => exact (fun k_ hk => Kd.freshB (bu BK140.out) k_ hk)); (case aO => exact (ru HO_4.out)); (case aS => exact (below_size (beu HB.out))); (case aL => exact LMc28.out); intro v148 w30 ho hb hg hat; rw [← Ny147.out] at ho; have _ := am (blk_grown (bu BK140.out) hg (Kd.R_away HO_4.out (fun _ hk => hk))); have _ := am (hb); have _ := am (ho); clear BK140 HB HO_4; rename_i BK140 HB HO149; clear ho hb hg hat))
            go_roundg kj9
            case measure => have := HK1.out; have := HJ9.out; omega
            case rel => exact ⟨(y147), (wrap64 (x13_1 + 1)), ap3, H', ⟨by have := HK1.out; have := HJ9.out; omega⟩, ⟨ru (Kd.R_mono HO149.out (fun _ hk => trivial))⟩, ⟨beu HB.out⟩⟩
           ·rw [if_neg c28] at H
            exact absurd H (by simp)
      ·rw [if_neg c8] at H
       exact absurd H (by simp)
     ·rw [if_neg c7] at H
      exact absurd H (by simp)
    ·rw [if_neg c6] at H
     have c6b0 : decide (x13_1 < (l0.length : Int)) = false := decide_eq_false c6; clear c6; replace H := obm H; obtain ⟨t138, A310, H⟩ := H; replace H : (if t138 = true then (some (x4_1, 0)) else (some (([] : List (S37)), 41))) = some (r1, r2) := H; have A31 := am A310; clear A310
     by_cases c32 : t138 = true
     ·subst c32
      have H1 : (some (x4_1, 0)) = some (r1, r2) := by rw [if_pos rfl] at H; exact H
      clear H; have H := H1; clear H1; simp only [Option.some.injEq, Prod.mk.injEq] at H; obtain ⟨rfl, rfl⟩ := H; obtain ⟨Ao33, co33, eo33⟩ := Kd.R_slice HO_4.out; subst eo33
      go_wp2_with (first | ((with_reducible refine gate_callee (f := 14) rfl ?_); refine goesL_ (some 71) rfl rfl Tryd.func14 (by kernel_rfl) rfl #[.slice Ao33 x4_1.length co33] rfl ap1 ?_; (with_reducible refine (lines_Right.calls k1 _ _ x4_1 true _ ?side1 ?side2 ?side3 A31.out).mono ?_); (case side1 => exact cu (Kd.R_reads' HO_4.out).2.2); (case side2 => exact (Kd.R_reads' HO_4.out).2.1); (case side3 => first | (with_reducible exact HT.out) | exact Tabs.below HT.out (beu HB.out)); rintro e w34 ⟨rfl, hb⟩; refine ⟨_, rfl, ?_⟩; have _ := am (Kd.R_below (ru HO_4.out) hb); have _ := am (below_step (beu HB.out) hb); clear HO_4 HB; rename_i HO_4 HB; (try clear hb)))
      go_ret2
      exact ⟨_, ap4, ru HO_4.out, beu HB.out⟩
     ·replace c32 := Bool.eq_false_iff.mpr c32
      subst c32
      have H1 : (some (([] : List (S37)), 41)) = some (r1, r2) := by rw [if_neg (show ¬ (false = true) by decide)] at H; exact H
      clear H; have H := H1; clear H1; simp only [Option.some.injEq, Prod.mk.injEq] at H; obtain ⟨rfl, rfl⟩ := H; obtain ⟨Ao35, co35, eo35⟩ := Kd.R_slice HO_4.out; subst eo35
      go_wp2_with (first | ((with_reducible refine gate_callee (f := 14) rfl ?_); refine goesL_ (some 71) rfl rfl Tryd.func14 (by kernel_rfl) rfl #[.slice Ao35 x4_1.length co35] rfl ap1 ?_; (with_reducible refine (lines_Right.calls k1 _ _ x4_1 false _ ?side1 ?side2 ?side3 A31.out).mono ?_); (case side1 => exact cu (Kd.R_reads' HO_4.out).2.2); (case side2 => exact (Kd.R_reads' HO_4.out).2.1); (case side3 => first | (with_reducible exact HT.out) | exact Tabs.below HT.out (beu HB.out)); rintro e w36 ⟨rfl, hb⟩; refine ⟨_, rfl, ?_⟩; have _ := am (Kd.R_below (ru HO_4.out) hb); have _ := am (below_step (beu HB.out) hb); clear HO_4 HB; rename_i HO_4 HB; (try clear hb)))
      go_ret2
      exact ⟨_, ap4, by first | exact Kd.R_nil _ _ _ _ _ | exact Kd.N_nil _ _ _ _ _ | exact Kd.V_nil _ _ _ _ _ | exact Kd.Q_nil _ _ _ _ _ | exact Kd.S_nil _ _ _ _ _, beu HB.out⟩
def packhorseref04_Same.l0 : Nat → List (S37) → List (S37) → Int → Int → Option (Bool)
 | 0, _, _, _, _ => none
 | k + 1, x0, x1, x12, x13 => if x13 < x12 then (if 0 ≤ x13 then (if x13 < (x0.length : Int) then (if x13 < (x1.length : Int) then (if (!((((rd_T37 x0 x13).f0).toList) == (((rd_T37 x1 x13).f0).toList)) || (!(((rd_T37 x0 x13).f1) == ((rd_T37 x1 x13).f1)) || (!(((rd_T37 x0 x13).f2) == ((rd_T37 x1 x13).f2))))) = true then (some false) else (packhorseref04_Same.l0 k x0 x1 x12 (wrap64 (x13 + 1)))) else (none)) else (none)) else (none)) else (some true)
def packhorseref04_Same.f (k : Nat) (l0 : List (S37)) (l1 : List (S37)) : Option (Bool) := if (l0.length : Int) = (l1.length : Int) then (packhorseref04_Same.l0 k l0 l1 (l0.length : Int) 0) else (some false)
theorem packhorseref04_Same.mono_l : ∀ k, (∀ y0 y1 y2 y3, LeO (packhorseref04_Same.l0 k y0 y1 y2 y3) (packhorseref04_Same.l0 (k + 1) y0 y1 y2 y3))
 | 0 => fun _ _ _ _ r h => by simp [packhorseref04_Same.l0] at h
 | k + 1 => by
  have ih0 := packhorseref04_Same.mono_l k
  ·intro y0 y1 y2 y3
   unfold packhorseref04_Same.l0
   repeat' first
   | (with_reducible exact ih0 _ _ _ _)
   | (with_reducible exact LeO.refl _)
   | (with_reducible exact LeO.none _)
   | (with_reducible refine LeO.ite ?_ ?_)
   | (with_reducible refine LeO.bind ?_ (fun _ => ?_))
   | exact ih0 _ _ _ _
   | exact LeO.none _
   | refine LeO.ite ?_ ?_
   | refine LeO.bind ?_ (fun _ => ?_)
theorem packhorseref04_Same.mono : ∀ a0 a1 k, LeO (packhorseref04_Same.f k a0 a1) (packhorseref04_Same.f (k + 1) a0 a1) := by
 intro a0 a1 k; have ih0 := packhorseref04_Same.mono_l k
 unfold packhorseref04_Same.f
 repeat' first
   | (with_reducible exact ih0 _ _ _ _)
   | (with_reducible exact LeO.refl _)
   | (with_reducible exact LeO.none _)
   | (with_reducible refine LeO.ite ?_ ?_)
   | (with_reducible refine LeO.bind ?_ (fun _ => ?_))
   | exact ih0 _ _ _ _
   | exact LeO.none _
   | refine LeO.ite ?_ ?_
   | refine LeO.bind ?_ (fun _ => ?_)
set_option maxHeartbeats 8000000 in
set_option maxRecDepth 100000 in
theorem packhorseref04_Same.calls (k : Nat) (A0 : Option Addr) (c0 : Nat) (l0 : List (S37)) (A1 : Option Addr) (c1 : Nat) (l1 : List (S37)) (r : Bool) (w : World) (hr0 : Kd.C k37 w A0 l0.length l0) (hc0 : l0.length ≤ c0) (hr1 : Kd.C k37 w A1 l1.length l1) (hc1 : l1.length ≤ c1) (h : packhorseref04_Same.f k l0 l1 = some r) :
  Calls Tryd.prog 13 #[.slice A0 l0.length c0, .slice A1 l1.length c1] w fun e w' => e = .returned (.bool r) ∧ Drawn0 w w' := by
 have hu37 := Tryd.underlying37; have HR0 := am hr0; have HC0 := am hc0; clear hr0 hc0; have HR1 := am hr1; have HC1 := am hc1; clear hr1 hc1; have H : (if (l0.length : Int) = (l1.length : Int) then (packhorseref04_Same.l0 k l0 l1 (l0.length : Int) 0) else (some false)) = some r := h; clear h
 by_cases c3 : (l0.length : Int) = (l1.length : Int)
 ·rw [if_pos c3] at H
  have c3b0 : ((l0.length : Int) == (l1.length : Int)) = true := beq_iff_eq.mpr c3; have c3b1 : ((l0.length : Int) != (l1.length : Int)) = false := bne_eq_false_iff_eq.mpr c3
  have c3b2 : (l0.length == l1.length) = true := by first | simpa using c3 | (simp at c3 ⊢; omega)
  clear c3; have H' := am H; clear H
  go_enter Tryd.func13, Tryd.ntmps13
  go_wp2
  repeat (go_quiet (fail); try go_wp2)
  go_loopg [13] k (fun kq v13 w' => ∃ (x13_1 : Int), v13 = .int .i64 x13_1 ∧ Aside0 (packhorseref04_Same.l0 kq l0 l1 (l0.length : Int) x13_1 = some r) ∧ Aside0 (kq ≤ k) ∧ Drawn0 w w')
  case atStart => exact ⟨(0), ap3, H', ⟨Nat.le_refl _⟩, ap5⟩
  case round =>
   clear H'; (try clear c1); (try clear p2); (try clear c3); (try clear c3b0); (try clear c3b1); (try clear c3b2); obtain ⟨x13_1, rfl, HA, HK1, ⟨m1, rfl⟩⟩ := hrel
   cases gk with
   | zero => exact absurd HA.out (by simp [packhorseref04_Same.l0])
   | succ k1 =>
    have H := HA.out; clear HA; simp only [packhorseref04_Same.l0] at H
    by_cases c4 : x13_1 < (l0.length : Int)
    ·rw [if_pos c4] at H
     have c4b0 : decide (x13_1 < (l0.length : Int)) = true := decide_eq_true c4; clear c4
     by_cases c5 : 0 ≤ x13_1
     ·rw [if_pos c5] at H
      have c5b0 : decide (0 ≤ x13_1) = true := decide_eq_true c5; clear c5
      by_cases c6 : x13_1 < (l0.length : Int)
      ·rw [if_pos c6] at H
       have c6b0 : decide (x13_1 < (l0.length : Int)) = true := decide_eq_true c6; clear c6
       by_cases c7 : x13_1 < (l1.length : Int)
       ·rw [if_pos c7] at H
        have c7b0 : decide (x13_1 < (l1.length : Int)) = true := decide_eq_true c7; clear c7
        by_cases c8 : (!((((rd_T37 l0 x13_1).f0).toList) == (((rd_T37 l1 x13_1).f0).toList)) || (!(((rd_T37 l0 x13_1).f1) == ((rd_T37 l1 x13_1).f1)) || (!(((rd_T37 l0 x13_1).f2) == ((rd_T37 l1 x13_1).f2))))) = true
        ·rw [if_pos c8] at H
         have c8b0 : (!((((rd_T37 l0 x13_1).f0).toList) == (((rd_T37 l1 x13_1).f0).toList)) || (!(((rd_T37 l0 x13_1).f1) == ((rd_T37 l1 x13_1).f1)) || (!(((rd_T37 l0 x13_1).f2) == ((rd_T37 l1 x13_1).f2))))) = true := c8; clear c8; obtain rfl := Option.some.inj H; simp only [Option.some.injEq, Prod.mk.injEq] at H; obtain ⟨rfl⟩ := H; have p150 : 0 ≤ (x13_1 : Int) := of_decide_eq_true ap2; have q150 : x13_1 < (l0.length : Int) := of_decide_eq_true ap2; obtain ⟨ad150, e150, hx150_0, hx150_1, hx150_2⟩ := at_T37 HR0.out x13_1 p150 q150
         cases e150
         replace p150 := eq_true p150; replace q150 := eq_true q150; have p151 : 0 ≤ (x13_1 : Int) := of_decide_eq_true ap2; have q151 : x13_1 < (l1.length : Int) := of_decide_eq_true ap2; obtain ⟨ad151, e151, hx151_0, hx151_1, hx151_2⟩ := at_T37 HR1.out x13_1 p151 q151
         cases e151
         replace p151 := eq_true p151; replace q151 := eq_true q151
         go_wp2
         repeat (go_quiet (fail); try go_wp2)
         go_ret
         exact ⟨ap3, ap5⟩
        ·rw [if_neg c8] at H
         have c8b0 : (!((((rd_T37 l0 x13_1).f0).toList) == (((rd_T37 l1 x13_1).f0).toList)) || (!(((rd_T37 l0 x13_1).f1) == ((rd_T37 l1 x13_1).f1)) || (!(((rd_T37 l0 x13_1).f2) == ((rd_T37 l1 x13_1).f2))))) = false := by simpa using c8
         clear c8; have H' := am H; clear H; have p150 : 0 ≤ (x13_1 : Int) := of_decide_eq_true ap2; have q150 : x13_1 < (l0.length : Int) := of_decide_eq_true ap2; obtain ⟨ad150, e150, hx150_0, hx150_1, hx150_2⟩ := at_T37 HR0.out x13_1 p150 q150
         cases e150
         replace p150 := eq_true p150; replace q150 := eq_true q150; have p151 : 0 ≤ (x13_1 : Int) := of_decide_eq_true ap2; have q151 : x13_1 < (l1.length : Int) := of_decide_eq_true ap2; obtain ⟨ad151, e151, hx151_0, hx151_1, hx151_2⟩ := at_T37 HR1.out x13_1 p151 q151
         cases e151
         replace p151 := eq_true p151; replace q151 := eq_true q151
         go_wp2
         repeat (go_quiet (fail); try go_wp2)
         go_roundg k1
         case measure => have := HK1.out; omega
         case rel => exact ⟨(wrap64 (x13_1 + 1)), ap3, H', ⟨by have := HK1.out; omega⟩, ap5⟩
       ·rw [if_neg c7] at H
        exact absurd H (by simp)
      ·rw [if_neg c6] at H
       exact absurd H (by simp)
     ·rw [if_neg c5] at H
      exact absurd H (by simp)
    ·rw [if_neg c4] at H
     have c4b0 : decide (x13_1 < (l0.length : Int)) = false := decide_eq_false c4; clear c4; obtain rfl := Option.some.inj H; simp only [Option.some.injEq, Prod.mk.injEq] at H; obtain ⟨rfl⟩ := H
     go_wp2
     repeat (go_quiet (fail); try go_wp2)
     go_ret
     exact ⟨ap3, ap5⟩
 ·rw [if_neg c3] at H
  have c3b0 : ((l0.length : Int) == (l1.length : Int)) = false := beq_eq_false_iff_ne.mpr c3; have c3b1 : ((l0.length : Int) != (l1.length : Int)) = true := bne_iff_ne.mpr c3
  have c3b2 : (l0.length == l1.length) = false := by first | simpa using c3 | (simp at c3 ⊢; omega)
  obtain rfl := Option.some.inj H; simp only [Option.some.injEq, Prod.mk.injEq] at H; obtain ⟨rfl⟩ := H
  go_enter Tryd.func13, Tryd.ntmps13
  go_wp2
  repeat (go_quiet (fail); try go_wp2)
  go_ret
  exact ⟨ap3, ap5⟩
def lines_Pieces_1.f (a0_0 : ByteArray) (a0_1 : Int) (a0_2 : Int) : Option (Int) := some a0_1
set_option maxHeartbeats 8000000 in
set_option maxRecDepth 100000 in
theorem lines_Pieces_1.calls (a0_0 : ByteArray) (a0_1 : Int) (a0_2 : Int) (r : Int) (w : World) (h : lines_Pieces_1.f a0_0 a0_1 a0_2 = some r) :
  Calls Tryd.prog 31 #[.agg #[.string a0_0, .int .i64 a0_1, .int .i64 a0_2]] w fun e w' => e = .returned (.int .i64 r) ∧ Below w.heap.size w w' := by
 have hu37 := Tryd.underlying37; have HB := am (Below.refl w.heap.size w); have H : (some a0_1) = some r := h; clear h; obtain rfl := Option.some.inj H; simp only [Option.some.injEq, Prod.mk.injEq] at H; obtain ⟨rfl⟩ := H
 go_enter Tryd.func31, Tryd.ntmps31
 go_wp2_with (first | ((with_reducible refine gate_dst (N := 1) rfl ?_); refine box_event ?hg (N := 1) ?hd (cs := #[.string a0_0, .int .i64 a0_1, .int .i64 a0_2]) (t := 37) ?hr ?_; (case hd => rfl); (case hg => rfl); (case hr => first | (go_simp; done) | (go_simp; rfl)); intro gb152 hg w2 hbox hb; have _ := am (below_step (beu HB.out) hb); have _ := am (hbox); have _ := am ((by rw [hg]; exact (below_size (beu HB.out)) : w.heap.size ≤ gb152)); have _ := am ((by rw [hg]; exact (below_size (beu HB.out)) : w.heap.size ≤ gb152)); clear HB; rename_i HB BK152 GW152 GE152; clear hb hbox hg; obtain ⟨_, _, _⟩ := cells3 BK152.out; obtain ⟨_, _, _⟩ := frozens3 BK152.out))
 go_ret
 exact ⟨ap4, beu HB.out⟩
def lines_total2.l0 : Nat → Int → List (S37) → Int → Int → Option (Int)
 | 0, _, _, _, _ => none
 | k + 1, x5, x12, x13, x14 => if x14 < x13 then (if 0 ≤ x14 then (if x14 < (x12.length : Int) then ((lines_Pieces_1.f ((rd_T37 x12 x14).f0) ((rd_T37 x12 x14).f1) ((rd_T37 x12 x14).f2)).bind fun t156 => (lines_total2.l0 k (wrap64 (x5 + t156)) x12 x13 (wrap64 (x14 + 1)))) else (none)) else (none)) else (some x5)
def lines_total2.f (k : Nat) (l0 : List (S37)) (a1 : Int) : Option (Int) := (lines_Right.f k l0).bind fun t153 => (if t153 = true then (lines_total2.l0 k 0 l0 (l0.length : Int) 0) else (some 0))
theorem lines_total2.mono_l : ∀ k, (∀ y0 y1 y2 y3, LeO (lines_total2.l0 k y0 y1 y2 y3) (lines_total2.l0 (k + 1) y0 y1 y2 y3))
 | 0 => fun _ _ _ _ r h => by simp [lines_total2.l0] at h
 | k + 1 => by
  have ih0 := lines_total2.mono_l k
  ·intro y0 y1 y2 y3
   unfold lines_total2.l0
   repeat' first
   | (with_reducible exact ih0 _ _ _ _)
   | (with_reducible exact lines_Right.mono _ _)
   | (with_reducible exact LeO.refl _)
   | (with_reducible exact LeO.none _)
   | (with_reducible refine LeO.ite ?_ ?_)
   | (with_reducible refine LeO.bind ?_ (fun _ => ?_))
   | exact ih0 _ _ _ _
   | exact lines_Right.mono _ _
   | exact LeO.none _
   | refine LeO.ite ?_ ?_
   | refine LeO.bind ?_ (fun _ => ?_)
theorem lines_total2.mono : ∀ a0 a1 k, LeO (lines_total2.f k a0 a1) (lines_total2.f (k + 1) a0 a1) := by
 intro a0 a1 k; have ih0 := lines_total2.mono_l k
 unfold lines_total2.f
 repeat' first
   | (with_reducible exact ih0 _ _ _ _)
   | (with_reducible exact lines_Right.mono _ _)
   | (with_reducible exact LeO.refl _)
   | (with_reducible exact LeO.none _)
   | (with_reducible refine LeO.ite ?_ ?_)
   | (with_reducible refine LeO.bind ?_ (fun _ => ?_))
   | exact ih0 _ _ _ _
   | exact lines_Right.mono _ _
   | exact LeO.none _
   | refine LeO.ite ?_ ?_
   | refine LeO.bind ?_ (fun _ => ?_)
set_option maxHeartbeats 8000000 in
set_option maxRecDepth 100000 in
theorem lines_total2.calls (k : Nat) (A0 : Option Addr) (c0 : Nat) (l0 : List (S37)) (a1 : Int) (r : Int) (w : World) (hr0 : Kd.C k37 w A0 l0.length l0) (hc0 : l0.length ≤ c0) (hT : Tabs w) (h : lines_total2.f k l0 a1 = some r) :
  Calls Tryd.prog 30 #[.slice A0 l0.length c0, (.func (.func 31) #[] #[])] w fun e w' => e = .returned (.int .i64 r) ∧ Below w.heap.size w w' := by
 have hu37 := Tryd.underlying37; have HR0 := am hr0; have HC0 := am hc0; clear hr0 hc0; have HT := am hT; clear hT; have HB := am (Below.refl w.heap.size w); have H : ((lines_Right.f k l0).bind fun t153 => (if t153 = true then (lines_total2.l0 k 0 l0 (l0.length : Int) 0) else (some 0))) = some r := h; clear h; replace H := obm H; obtain ⟨t153, A30, H⟩ := H; replace H : (if t153 = true then (lines_total2.l0 k 0 l0 (l0.length : Int) 0) else (some 0)) = some r := H; have A3 := am A30; clear A30
 by_cases c4 : t153 = true
 ·subst c4
  have H1 : (lines_total2.l0 k 0 l0 (l0.length : Int) 0) = some r := by rw [if_pos rfl] at H; exact H
  clear H; have H := H1; clear H1; have H' := am H; clear H
  go_enter Tryd.func30, Tryd.ntmps30
  go_wp2_with (first | ((with_reducible refine gate_callee (f := 14) rfl ?_); refine goesL_ (some 9) rfl rfl Tryd.func14 (by kernel_rfl) rfl #[.slice A0 l0.length c0] rfl ap1 ?_; (with_reducible refine (lines_Right.calls k _ _ l0 true _ ?side1 ?side2 ?side3 A3.out).mono ?_); (case side1 => repeat (first | exact HR0.out | (with_reducible refine Kd.C_alloc ?_ _) | (with_reducible refine Kd.C_drewN ?_ _) | (with_reducible refine Kd.C_drew ?_))); (case side2 => exact HC0.out); (case side3 => first | (with_reducible exact HT.out) | exact Tabs.below HT.out (beu HB.out)); rintro e w5 ⟨rfl, hb⟩; refine ⟨_, rfl, ?_⟩; have _ := am (below_step (beu HB.out) hb); clear HB; rename_i HB; (try clear hb)))
  go_loopg [5, 14] k (fun kq v5 v14 w' => ∃ (x5_1 : Int) (x14_1 : Int), v5 = .int .i64 x5_1 ∧ v14 = .int .i64 x14_1 ∧ Aside0 (lines_total2.l0 kq x5_1 l0 (l0.length : Int) x14_1 = some r) ∧ Aside0 (kq ≤ k) ∧ Aside0 (Below w.heap.size w w'))
  case atStart => exact ⟨(0), (0), ap3, ap3, H', ⟨Nat.le_refl _⟩, ⟨beu HB.out⟩⟩
  case round =>
   clear H'; (try clear c1); (try clear p2); (try clear c4); obtain ⟨x5_1, x14_1, rfl, rfl, HA, HK1, HB⟩ := hrel
   cases gk with
   | zero => exact absurd HA.out (by simp [lines_total2.l0])
   | succ k1 =>
    have H := HA.out; clear HA; simp only [lines_total2.l0] at H
    by_cases c6 : x14_1 < (l0.length : Int)
    ·rw [if_pos c6] at H
     have c6b0 : decide (x14_1 < (l0.length : Int)) = true := decide_eq_true c6; clear c6
     by_cases c7 : 0 ≤ x14_1
     ·rw [if_pos c7] at H
      have c7b0 : decide (0 ≤ x14_1) = true := decide_eq_true c7; clear c7
      by_cases c8 : x14_1 < (l0.length : Int)
      ·rw [if_pos c8] at H
       have c8b0 : decide (x14_1 < (l0.length : Int)) = true := decide_eq_true c8; clear c8; replace H := obm H; obtain ⟨t156, A90, H⟩ := H; replace H : (lines_total2.l0 k1 (wrap64 (x5_1 + t156)) l0 (l0.length : Int) (wrap64 (x14_1 + 1))) = some r := H; have A9 := am A90; clear A90; have H' := am H; clear H; have p154 : 0 ≤ (x14_1 : Int) := of_decide_eq_true ap2; have q154 : x14_1 < (l0.length : Int) := of_decide_eq_true ap2; obtain ⟨ad154, e154, hx154_0, hx154_1, hx154_2⟩ := at_T37 HR0.out x14_1 p154 q154
       cases e154
       replace hx154_0 := (HB.out.cell (World.block_lt_of_cell? w _ hx154_0)).trans hx154_0; replace hx154_1 := (HB.out.cell (World.block_lt_of_cell? w _ hx154_1)).trans hx154_1; replace hx154_2 := (HB.out.cell (World.block_lt_of_cell? w _ hx154_2)).trans hx154_2; replace p154 := eq_true p154; replace q154 := eq_true q154
       go_wp2_with (first | ((with_reducible refine gate_dst (N := 7) rfl ?_); refine box_event ?hg (N := 7) ?hd (cs := #[.string ⟨#[]⟩, .int .i64 0, .int .i64 0]) (t := 37) ?hr ?_; (case hd => rfl); (case hg => rfl); (case hr => first | (go_simp; done) | (go_simp; rfl)); intro gb155 hg w10 hbox hb; have _ := am (below_step (beu HB.out) hb); have _ := am (hbox); have _ := am ((by rw [hg]; exact (below_size (beu HB.out)) : w.heap.size ≤ gb155)); have _ := am ((by rw [hg]; exact (below_size (beu HB.out)) : w.heap.size ≤ gb155)); clear HB; rename_i HB BK155 GW155 GE155; clear hb hbox hg; obtain ⟨_, _, _⟩ := cells3 BK155.out; obtain ⟨_, _, _⟩ := frozens3 BK155.out) | ((with_reducible refine gate_dyn (x := .tmp 19) rfl ?_); refine goesD_ (some 21) (.tmp 19) rfl rfl rfl Tryd.func31 (by kernel_rfl) rfl #[.agg #[.string ((rd_T37 l0 x14_1).f0), .int .i64 ((rd_T37 l0 x14_1).f1), .int .i64 ((rd_T37 l0 x14_1).f2)]] rfl ap1 ?_; (with_reducible refine (lines_Pieces_1.calls ((rd_T37 l0 x14_1).f0) ((rd_T37 l0 x14_1).f1) ((rd_T37 l0 x14_1).f2) t156 _ A9.out).mono ?_); rintro e w12 ⟨rfl, hb⟩; refine ⟨_, rfl, ?_⟩; have _ := am (blk_below (g := gb155) (o := .cells #[.string ((rd_T37 l0 x14_1).f0), .int .i64 ((rd_T37 l0 x14_1).f1), .int .i64 ((rd_T37 l0 x14_1).f2)] 37 (0, 0)) (by refine bu ?_; refine blk_put (cs := #[.string ((rd_T37 l0 x14_1).f0), .int .i64 ((rd_T37 l0 x14_1).f1), .int .i64 0]) ?_ 2 _ rfl; refine bu ?_; refine blk_put (cs := #[.string ((rd_T37 l0 x14_1).f0), .int .i64 0, .int .i64 0]) ?_ 1 _ rfl; refine bu ?_; refine blk_put (cs := #[.string ⟨#[]⟩, .int .i64 0, .int .i64 0]) ?_ 0 _ rfl; refine bu ?_; exact BK155.out) hb); have _ := am (below_step (beu HB.out) hb); clear BK155 HB; rename_i BK155 HB; (try clear hb)))
       go_roundg k1
       case measure => have := HK1.out; omega
       case rel => exact ⟨(wrap64 (x5_1 + t156)), (wrap64 (x14_1 + 1)), ap3, ap3, H', ⟨by have := HK1.out; omega⟩, ⟨beu HB.out⟩⟩
      ·rw [if_neg c8] at H
       exact absurd H (by simp)
     ·rw [if_neg c7] at H
      exact absurd H (by simp)
    ·rw [if_neg c6] at H
     have c6b0 : decide (x14_1 < (l0.length : Int)) = false := decide_eq_false c6; clear c6; obtain rfl := Option.some.inj H; simp only [Option.some.injEq, Prod.mk.injEq] at H; obtain ⟨rfl⟩ := H
     go_wp2
     go_ret
     exact ⟨ap4, beu HB.out⟩
 ·replace c4 := Bool.eq_false_iff.mpr c4
  subst c4
  have H1 : (some 0) = some r := by rw [if_neg (show ¬ (false = true) by decide)] at H; exact H
  clear H; have H := H1; clear H1; obtain rfl := Option.some.inj H; simp only [Option.some.injEq, Prod.mk.injEq] at H; obtain ⟨rfl⟩ := H
  go_enter Tryd.func30, Tryd.ntmps30
  go_wp2_with (first | ((with_reducible refine gate_callee (f := 14) rfl ?_); refine goesL_ (some 9) rfl rfl Tryd.func14 (by kernel_rfl) rfl #[.slice A0 l0.length c0] rfl ap1 ?_; (with_reducible refine (lines_Right.calls k _ _ l0 false _ ?side1 ?side2 ?side3 A3.out).mono ?_); (case side1 => repeat (first | exact HR0.out | (with_reducible refine Kd.C_alloc ?_ _) | (with_reducible refine Kd.C_drewN ?_ _) | (with_reducible refine Kd.C_drew ?_))); (case side2 => exact HC0.out); (case side3 => first | (with_reducible exact HT.out) | exact Tabs.below HT.out (beu HB.out)); rintro e w13 ⟨rfl, hb⟩; refine ⟨_, rfl, ?_⟩; have _ := am (below_step (beu HB.out) hb); clear HB; rename_i HB; (try clear hb)))
  go_ret
  exact ⟨ap4, beu HB.out⟩
def lines_Pieces.f (k : Nat) (l0 : List (S37)) : Option (Int) := (lines_total2.f k l0 31).bind fun t157 => (some t157)
theorem lines_Pieces.mono : ∀ a0 k, LeO (lines_Pieces.f k a0) (lines_Pieces.f (k + 1) a0) := by
 intro a0 k
 unfold lines_Pieces.f
 repeat' first
   | (with_reducible exact lines_total2.mono _ _ _)
   | (with_reducible exact LeO.refl _)
   | (with_reducible exact LeO.none _)
   | (with_reducible refine LeO.ite ?_ ?_)
   | (with_reducible refine LeO.bind ?_ (fun _ => ?_))
   | exact lines_total2.mono _ _ _
   | exact LeO.none _
   | refine LeO.ite ?_ ?_
   | refine LeO.bind ?_ (fun _ => ?_)
set_option maxHeartbeats 8000000 in
set_option maxRecDepth 100000 in
theorem lines_Pieces.calls (k : Nat) (A0 : Option Addr) (c0 : Nat) (l0 : List (S37)) (r : Int) (w : World) (hr0 : Kd.C k37 w A0 l0.length l0) (hc0 : l0.length ≤ c0) (hT : Tabs w) (h : lines_Pieces.f k l0 = some r) :
  Calls Tryd.prog 16 #[.slice A0 l0.length c0] w fun e w' => e = .returned (.int .i64 r) ∧ Below w.heap.size w w' := by
 have HR0 := am hr0; have HC0 := am hc0; clear hr0 hc0; have HT := am hT; clear hT; have HB := am (Below.refl w.heap.size w); have H : ((lines_total2.f k l0 31).bind fun t157 => (some t157)) = some r := h; clear h; replace H := obm H; obtain ⟨t157, A20, H⟩ := H; replace H : (some t157) = some r := H; have A2 := am A20; clear A20; obtain rfl := Option.some.inj H; simp only [Option.some.injEq, Prod.mk.injEq] at H; obtain ⟨rfl⟩ := H
 go_enter Tryd.func16, Tryd.ntmps16
 go_wp2_with (first | ((with_reducible refine gate_callee (f := 30) rfl ?_); refine goesL_ (some 4) rfl rfl Tryd.func30 (by kernel_rfl) rfl #[.slice A0 l0.length c0, (.func (.func 31) #[] #[])] rfl ap1 ?_; (with_reducible refine (lines_total2.calls k _ _ l0 31 t157 _ ?side1 ?side2 ?side3 A2.out).mono ?_); (case side1 => repeat (first | exact HR0.out | (with_reducible refine Kd.C_alloc ?_ _) | (with_reducible refine Kd.C_drewN ?_ _) | (with_reducible refine Kd.C_drew ?_))); (case side2 => exact HC0.out); (case side3 => first | (with_reducible exact HT.out) | exact Tabs.below HT.out (beu HB.out)); rintro e w3 ⟨rfl, hb⟩; refine ⟨_, rfl, ?_⟩; have _ := am (below_step (beu HB.out) hb); clear HB; rename_i HB; (try clear hb)))
 go_ret
 exact ⟨ap4, beu HB.out⟩
def packhorselaw04_linesAlive.f (k : Nat)  : Option (Bool) := (lines_Merge.f k (([(⟨(⟨#[98]⟩ : ByteArray), 1, 0⟩ : S37), (⟨(⟨#[97]⟩ : ByteArray), 2, 0⟩ : S37), (⟨(⟨#[98]⟩ : ByteArray), 3, 0⟩ : S37)] : List (S37)))).bind fun bt161 => (if bt161.2 = 0 then ((packhorseref04_Same.f k bt161.1 (([(⟨(⟨#[97]⟩ : ByteArray), 2, 0⟩ : S37), (⟨(⟨#[98]⟩ : ByteArray), 4, 0⟩ : S37)] : List (S37)))).bind fun t168 => (if t168 = true then ((lines_Pieces.f k bt161.1).bind fun t169 => (some (t169 == 6))) else (some false))) else (some false))
theorem packhorselaw04_linesAlive.mono : ∀ k, LeO (packhorselaw04_linesAlive.f k ) (packhorselaw04_linesAlive.f (k + 1) ) := by
 intro  k
 unfold packhorselaw04_linesAlive.f
 repeat' first
   | (with_reducible exact lines_Merge.mono _ _)
   | (with_reducible exact lines_Pieces.mono _ _)
   | (with_reducible exact packhorseref04_Same.mono _ _ _)
   | (with_reducible exact LeO.refl _)
   | (with_reducible exact LeO.none _)
   | (with_reducible refine LeO.ite ?_ ?_)
   | (with_reducible refine LeO.bind ?_ (fun _ => ?_))
   | exact lines_Merge.mono _ _
   | exact lines_Pieces.mono _ _
   | exact packhorseref04_Same.mono _ _ _
   | exact LeO.none _
   | refine LeO.ite ?_ ?_
   | refine LeO.bind ?_ (fun _ => ?_)
set_option maxHeartbeats 8000000 in
set_option maxRecDepth 100000 in
theorem packhorselaw04_linesAlive.calls (k : Nat)  (r : Bool) (w : World) (hT : Tabs w) (h : packhorselaw04_linesAlive.f k  = some r) (hr_ : r = true) :
  Calls Tryd.prog 10 #[] w fun e w' => e = .returned (.bool r) ∧ Below w.heap.size w w' := by
 have hu37 := Tryd.underlying37; have HRT := am hr_; clear hr_; have HT := am hT; clear hT; have HB := am (Below.refl w.heap.size w); have H : ((lines_Merge.f k (([(⟨(⟨#[98]⟩ : ByteArray), 1, 0⟩ : S37), (⟨(⟨#[97]⟩ : ByteArray), 2, 0⟩ : S37), (⟨(⟨#[98]⟩ : ByteArray), 3, 0⟩ : S37)] : List (S37)))).bind fun bt161 => (if bt161.2 = 0 then ((packhorseref04_Same.f k bt161.1 (([(⟨(⟨#[97]⟩ : ByteArray), 2, 0⟩ : S37), (⟨(⟨#[98]⟩ : ByteArray), 4, 0⟩ : S37)] : List (S37)))).bind fun t168 => (if t168 = true then ((lines_Pieces.f k bt161.1).bind fun t169 => (some (t169 == 6))) else (some false))) else (some false))) = some r := h; clear h; obtain ⟨y158, hy158⟩ : ∃ y_ : List (S37), y_ = (([(⟨(⟨#[98]⟩ : ByteArray), 1, 0⟩ : S37), (⟨(⟨#[97]⟩ : ByteArray), 2, 0⟩ : S37), (⟨(⟨#[98]⟩ : ByteArray), 3, 0⟩ : S37)] : List (S37))) := ⟨_, rfl⟩
 replace H : ((lines_Merge.f k y158).bind fun bt161 => (if bt161.2 = 0 then ((packhorseref04_Same.f k bt161.1 (([(⟨(⟨#[97]⟩ : ByteArray), 2, 0⟩ : S37), (⟨(⟨#[98]⟩ : ByteArray), 4, 0⟩ : S37)] : List (S37)))).bind fun t168 => (if t168 = true then ((lines_Pieces.f k bt161.1).bind fun t169 => (some (t169 == 6))) else (some false))) else (some false))) = some r := by first | (rw [hy158]; with_reducible exact H) | (have H2_ := (Option.bind_some _ _).symm.trans H; rw [hy158]; with_reducible exact H2_) | (have H2_ := (Option.bind_some _ _).symm.trans H; with_reducible exact H2_) | with_reducible exact H | (rw [hy158]; exact H) | exact H
 have Ny158 := am hy158; clear hy158; replace H := obm H; obtain ⟨⟨t161, t162⟩, A10, H⟩ := H; replace H : (if t162 = 0 then ((packhorseref04_Same.f k t161 (([(⟨(⟨#[97]⟩ : ByteArray), 2, 0⟩ : S37), (⟨(⟨#[98]⟩ : ByteArray), 4, 0⟩ : S37)] : List (S37)))).bind fun t168 => (if t168 = true then ((lines_Pieces.f k t161).bind fun t169 => (some (t169 == 6))) else (some false))) else (some false)) = some r := H; have A1 := am A10; clear A10
 by_cases c2 : t162 = 0
 ·rw [if_pos c2] at H
  have c2b0 : (t162 == 0) = true := beq_iff_eq.mpr c2; have c2b1 : (t162 != 0) = false := bne_eq_false_iff_eq.mpr c2; clear c2; obtain ⟨y165, hy165⟩ : ∃ y_ : List (S37), y_ = (([(⟨(⟨#[97]⟩ : ByteArray), 2, 0⟩ : S37), (⟨(⟨#[98]⟩ : ByteArray), 4, 0⟩ : S37)] : List (S37))) := ⟨_, rfl⟩
  replace H : ((packhorseref04_Same.f k t161 y165).bind fun t168 => (if t168 = true then ((lines_Pieces.f k t161).bind fun t169 => (some (t169 == 6))) else (some false))) = some r := by first | (rw [hy165]; with_reducible exact H) | (have H2_ := (Option.bind_some _ _).symm.trans H; rw [hy165]; with_reducible exact H2_) | (have H2_ := (Option.bind_some _ _).symm.trans H; with_reducible exact H2_) | with_reducible exact H | (rw [hy165]; exact H) | exact H
  have Ny165 := am hy165; clear hy165; replace H := obm H; obtain ⟨t168, A30, H⟩ := H; replace H : (if t168 = true then ((lines_Pieces.f k t161).bind fun t169 => (some (t169 == 6))) else (some false)) = some r := H; have A3 := am A30; clear A30
  by_cases c4 : t168 = true
  ·subst c4
   have H1 : ((lines_Pieces.f k t161).bind fun t169 => (some (t169 == 6))) = some r := by rw [if_pos rfl] at H; exact H
   clear H; have H := H1; clear H1; replace H := obm H; obtain ⟨t169, A50, H⟩ := H; replace H : (some (t169 == 6)) = some r := H; have A5 := am A50; clear A50; obtain rfl := Option.some.inj H; simp only [Option.some.injEq, Prod.mk.injEq] at H; obtain ⟨rfl⟩ := H
   go_enter Tryd.func10, Tryd.ntmps10
   go_wp2_with (first | ((with_reducible refine gate_dst (N := 7) rfl ?_); (try (refine gate_guard (by rfl) ?_; dsimp only)); refine Kd.R_lit k37 _ 37 ?hg (N := 7) ?hd (xs := ([(⟨(⟨#[98]⟩ : ByteArray), 1, 0⟩ : S37), (⟨(⟨#[97]⟩ : ByteArray), 2, 0⟩ : S37), (⟨(⟨#[98]⟩ : ByteArray), 3, 0⟩ : S37)] : List (S37))) (inner := [.string (⟨#[98]⟩ : ByteArray), .int .i64 1, .int .i64 0, .string (⟨#[97]⟩ : ByteArray), .int .i64 2, .int .i64 0, .string (⟨#[98]⟩ : ByteArray), .int .i64 3, .int .i64 0]) (ok := fun _ => True) (okp := fun _ => True) ?hr ?hp (fun _ hk => hk) trivial (Below.refl _ _) (Nat.le_refl _) (by simp) ?_; (case hd => rfl); (case hg => rfl); (case hr => first | (go_simp; done) | (go_simp; rfl)); (case hp => exact (Reps.c3 (show Kd.M k37 _ _ _ (⟨(⟨#[98]⟩ : ByteArray), 1, 0⟩ : S37) [.string (⟨#[98]⟩ : ByteArray), .int .i64 1, .int .i64 0] from (k37_mkM _ _ _ (⟨(⟨#[98]⟩ : ByteArray), 1, 0⟩ : S37) )) (Reps.c3 (show Kd.M k37 _ _ _ (⟨(⟨#[97]⟩ : ByteArray), 2, 0⟩ : S37) [.string (⟨#[97]⟩ : ByteArray), .int .i64 2, .int .i64 0] from (k37_mkM _ _ _ (⟨(⟨#[97]⟩ : ByteArray), 2, 0⟩ : S37) )) (Reps.c3 (show Kd.M k37 _ _ _ (⟨(⟨#[98]⟩ : ByteArray), 3, 0⟩ : S37) [.string (⟨#[98]⟩ : ByteArray), .int .i64 3, .int .i64 0] from (k37_mkM _ _ _ (⟨(⟨#[98]⟩ : ByteArray), 3, 0⟩ : S37) )) (Reps.none _ _))))); intro v159 w6 ho7 hb hg_ hnew_; clear hg_ hnew_; (first | rw [← Ny158.out] at ho7 | (simp only [Int.reduceToNat] at ho7; rw [← Ny158.out] at ho7)); have _ := am (Kd.R_lower ho7 (below_size (beu HB.out))); have _ := am (below_step (beu HB.out) hb); clear HB; rename_i HO160 HB; clear hb ho7; obtain ⟨Ao8, co8, eo8⟩ := Kd.R_slice HO160.out; subst eo8) | ((with_reducible refine gate_callee (f := 11) rfl ?_); refine goesL_ (some 8) rfl rfl Tryd.func11 (by kernel_rfl) rfl #[.slice Ao8 y158.length co8] rfl ap1 ?_; (with_reducible refine (lines_Merge.calls k _ _ y158 t161 t162 _ ?side1 ?side2 ?side3 A1.out).mono ?_); (case side1 => exact cu (Kd.R_reads' HO160.out).2.2); (case side2 => exact (Kd.R_reads' HO160.out).2.1); (case side3 => first | (with_reducible exact HT.out) | exact Tabs.below HT.out (beu HB.out)); rintro e w9 ⟨v163, rfl, ho0, hb⟩; refine ⟨_, rfl, ?_⟩; have _ := am (Kd.R_elder' (ru HO160.out) (Kd.R_base ho0) hb); have _ := am (Kd.R_lower (Kd.R_new' ho0 (Kd.R_lt (ru HO160.out))) (below_size (beu HB.out))); have _ := am (below_step (beu HB.out) hb); clear HO160 HB; rename_i HO160 HO164 HB; (try clear hb); (try clear ho0)) | ((with_reducible refine gate_dst (N := 17) rfl ?_); (try (refine gate_guard (by rfl) ?_; dsimp only)); refine Kd.R_lit k37 _ 37 ?hg (N := 17) ?hd (xs := ([(⟨(⟨#[97]⟩ : ByteArray), 2, 0⟩ : S37), (⟨(⟨#[98]⟩ : ByteArray), 4, 0⟩ : S37)] : List (S37))) (inner := [.string (⟨#[97]⟩ : ByteArray), .int .i64 2, .int .i64 0, .string (⟨#[98]⟩ : ByteArray), .int .i64 4, .int .i64 0]) (ok := fun _ => True) (okp := fun _ => True) ?hr ?hp (fun _ hk => hk) trivial (Below.refl _ _) (Nat.le_refl _) (by simp) ?_; (case hd => rfl); (case hg => rfl); (case hr => first | (go_simp; done) | (go_simp; rfl)); (case hp => exact (Reps.c3 (show Kd.M k37 _ _ _ (⟨(⟨#[97]⟩ : ByteArray), 2, 0⟩ : S37) [.string (⟨#[97]⟩ : ByteArray), .int .i64 2, .int .i64 0] from (k37_mkM _ _ _ (⟨(⟨#[97]⟩ : ByteArray), 2, 0⟩ : S37) )) (Reps.c3 (show Kd.M k37 _ _ _ (⟨(⟨#[98]⟩ : ByteArray), 4, 0⟩ : S37) [.string (⟨#[98]⟩ : ByteArray), .int .i64 4, .int .i64 0] from (k37_mkM _ _ _ (⟨(⟨#[98]⟩ : ByteArray), 4, 0⟩ : S37) )) (Reps.none _ _)))); intro v166 w10 ho11 hb hg_ hnew_; clear hg_ hnew_; (first | rw [← Ny165.out] at ho11 | (simp only [Int.reduceToNat] at ho11; rw [← Ny165.out] at ho11)); have _ := am (Kd.R_elder' (ru HO160.out) (Kd.R_base ho11) hb); have _ := am (Kd.R_elder' (ru HO164.out) (Kd.R_base ho11) hb); have _ := am (Kd.R_lower (Kd.R_new' (Kd.R_new' ho11 (Kd.R_lt (ru HO160.out))) (Kd.R_lt (ru HO164.out))) (below_size (beu HB.out))); have _ := am (below_step (beu HB.out) hb); clear HO160 HO164 HB; rename_i HO160 HO164 HO167 HB; clear hb ho11; obtain ⟨Ao12, co12, eo12⟩ := Kd.R_slice HO164.out; subst eo12; obtain ⟨Ao13, co13, eo13⟩ := Kd.R_slice HO167.out; subst eo13) | (go_at_call 13; (with_reducible refine (packhorseref04_Same.calls k _ _ t161 _ _ y165 true _ ?side1 ?side2 ?side3 ?side4 A3.out).mono ?_); (case side1 => exact cu (Kd.R_reads' HO164.out).2.2); (case side2 => exact (Kd.R_reads' HO164.out).2.1); (case side3 => exact cu (Kd.R_reads' HO167.out).2.2); (case side4 => exact (Kd.R_reads' HO167.out).2.1); rintro e w' ⟨rfl, ⟨nd, rfl⟩⟩) | (go_at_call 16; (with_reducible refine (lines_Pieces.calls k _ _ t161 t169 _ ?side1 ?side2 ?side3 A5.out).mono ?_); (case side1 => exact cu (Kd.R_reads' HO164.out).2.2); (case side2 => exact (Kd.R_reads' HO164.out).2.1); (case side3 => first | (with_reducible exact HT.out) | exact Tabs.below HT.out (beu HB.out)); rintro e w14 ⟨rfl, hb⟩; have _ := am (Kd.R_below (ru HO160.out) hb); have _ := am (Kd.R_below (ru HO164.out) hb); have _ := am (Kd.R_below (ru HO167.out) hb); have _ := am (below_step (beu HB.out) hb); clear HO160 HO164 HO167 HB; rename_i HO160 HO164 HO167 HB; (try clear hb)))
   go_ret
   exact ⟨ap4, beu HB.out⟩
  ·replace c4 := Bool.eq_false_iff.mpr c4
   subst c4
   have H1 : (some false) = some r := by rw [if_neg (show ¬ (false = true) by decide)] at H; exact H
   clear H; have H := H1; clear H1; obtain rfl := Option.some.inj H; exact absurd HRT.out (by decide)
 ·rw [if_neg c2] at H
  have c2b0 : (t162 == 0) = false := beq_eq_false_iff_ne.mpr c2; have c2b1 : (t162 != 0) = true := bne_iff_ne.mpr c2; obtain rfl := Option.some.inj H; exact absurd HRT.out (by decide)
mutual
def packhorseref01_Compare.l0 : Nat → ByteArray → ByteArray → Int → Option (Int)
 | 0, _, _, _ => none
 | k + 1, x0, x1, x5 => if x5 < (x0.size : Int) then (packhorseref01_Compare.j1 k x0 x1 x5 (decide (x5 < (x1.size : Int)))) else (packhorseref01_Compare.j1 k x0 x1 x5 false)
def packhorseref01_Compare.j1 : Nat → ByteArray → ByteArray → Int → Bool → Option (Int)
 | 0, _, _, _, _ => none
 | k + 1, x0, x1, x5, x15 => if x15 = true then (if 0 ≤ x5 then (if x5 < (x0.size : Int) then (if x5 < (x1.size : Int) then (if (bt x0 x5) < (bt x1 x5) then (some (-1)) else (if (bt x0 x5) > (bt x1 x5) then (some 1) else (packhorseref01_Compare.l0 k x0 x1 (wrap64 (x5 + 1))))) else (none)) else (none)) else (none)) else (if (x0.size : Int) < (x1.size : Int) then (some (-1)) else (if (x0.size : Int) > (x1.size : Int) then (some 1) else (some 0)))
end
def packhorseref01_Compare.f (k : Nat) (a0 : ByteArray) (a1 : ByteArray) : Option (Int) := packhorseref01_Compare.l0 k a0 a1 0
set_option maxHeartbeats 8000000 in
set_option maxRecDepth 100000 in
theorem packhorseref01_Compare.calls (k : Nat) (a0 : ByteArray) (a1 : ByteArray) (r : Int) (w : World) (h : packhorseref01_Compare.f k a0 a1 = some r) :
  Calls Tryd.prog 28 #[.string a0, .string a1] w fun e w' => e = .returned (.int .i64 r) ∧ Drawn0 w w' := by
 have H : (packhorseref01_Compare.l0 k a0 a1 0) = some r := h; clear h; have H' := am H; clear H
 go_enter Tryd.func28, Tryd.ntmps28
 go_wp2
 repeat (go_quiet (fail); try go_wp2)
 go_loopg [5] k (fun kq v5 w' => ∃ (x5_1 : Int), v5 = .int .i64 x5_1 ∧ Aside0 (packhorseref01_Compare.l0 kq a0 a1 x5_1 = some r) ∧ Aside0 (kq ≤ k) ∧ Drawn0 w w')
 case atStart => exact ⟨(0), ap3, H', ⟨Nat.le_refl _⟩, ap5⟩
 case round =>
  clear H'; (try clear c2); (try clear p2); obtain ⟨x5_1, rfl, HA, HK1, ⟨m1, rfl⟩⟩ := hrel
  cases gk with
  | zero => exact absurd HA.out (by simp [packhorseref01_Compare.l0])
  | succ k1 =>
   have H := HA.out; clear HA; simp only [packhorseref01_Compare.l0] at H; have HC3 := am H; clear H
   go_upto_region 2 with (fail)
   repeat (go_quiet (fail); go_upto_region 2 with (fail))
   go_cut [15] (fun v15 wc => ∃ (kq : Nat) (x15_2 : Bool), v15 = .bool x15_2 ∧ Aside0 (packhorseref01_Compare.j1 kq a0 a1 x5_1 x15_2 = some r) ∧ Aside0 (kq ≤ k1) ∧ Drawn0 w wc)
   case first =>
    have H := HC3.out; clear HC3
    by_cases c4 : x5_1 < (a0.size : Int)
    ·rw [if_pos c4] at H
     have c4b0 : decide (x5_1 < (a0.size : Int)) = true := decide_eq_true c4; clear c4
     (first | rw [c4b0] | (simp only [i64_w, i32_w]; rw [c4b0]) | skip)
     have H' := am H; clear H
     go_wp2
     repeat (go_quiet (fail); try go_wp2)
     go_meet
     case rel => exact ⟨_, (decide (x5_1 < (a1.size : Int))), ap3, H', ⟨by have := HK1.out; first | omega | exact Nat.le_refl _⟩, ap5⟩
    ·rw [if_neg c4] at H
     have c4b0 : decide (x5_1 < (a0.size : Int)) = false := decide_eq_false c4; clear c4
     (first | rw [c4b0] | (simp only [i64_w, i32_w]; rw [c4b0]) | skip)
     have H' := am H; clear H
     go_wp2
     repeat (go_quiet (fail); try go_wp2)
     go_meet
     case rel => exact ⟨_, (false), ap3, H', ⟨by have := HK1.out; first | omega | exact Nat.le_refl _⟩, ap5⟩
   case rest =>
    clear HC3; (try clear c2); (try clear p2); (try clear c4); (try clear c4b0); (try clear p2); obtain ⟨kq, x15_2, rfl, HA, HJ2, ⟨mc2, rfl⟩⟩ := hcut
    cases kq with
    | zero => exact absurd HA.out (by simp [packhorseref01_Compare.j1])
    | succ kj2 =>
     have H := HA.out; clear HA; simp only [packhorseref01_Compare.j1] at H
     by_cases c5 : x15_2 = true
     ·subst c5
      have H1 : (if 0 ≤ x5_1 then (if x5_1 < (a0.size : Int) then (if x5_1 < (a1.size : Int) then (if (bt a0 x5_1) < (bt a1 x5_1) then (some (-1)) else (if (bt a0 x5_1) > (bt a1 x5_1) then (some 1) else (packhorseref01_Compare.l0 kj2 a0 a1 (wrap64 (x5_1 + 1))))) else (none)) else (none)) else (none)) = some r := by rw [if_pos rfl] at H; exact H
      clear H; have H := H1; clear H1
      by_cases c6 : 0 ≤ x5_1
      ·rw [if_pos c6] at H
       have c6b0 : decide (0 ≤ x5_1) = true := decide_eq_true c6; clear c6
       by_cases c7 : x5_1 < (a0.size : Int)
       ·rw [if_pos c7] at H
        have c7b0 : decide (x5_1 < (a0.size : Int)) = true := decide_eq_true c7; clear c7
        by_cases c9 : x5_1 < (a1.size : Int)
        ·rw [if_pos c9] at H
         have c9b0 : decide (x5_1 < (a1.size : Int)) = true := decide_eq_true c9; clear c9
         by_cases c11 : (bt a0 x5_1) < (bt a1 x5_1)
         ·rw [if_pos c11] at H
          have c11b0 : decide ((bt a0 x5_1) < (bt a1 x5_1)) = true := decide_eq_true c11; clear c11; obtain rfl := Option.some.inj H; simp only [Option.some.injEq, Prod.mk.injEq] at H; obtain ⟨rfl⟩ := H; have p8 : 0 ≤ (x5_1 : Int) := of_decide_eq_true ap2; have q8 : x5_1 < (a0.size : Int) := of_decide_eq_true ap2; have hx8 := bt_at a0 x5_1; replace p8 := eq_true p8; replace q8 := eq_true q8; have p10 : 0 ≤ (x5_1 : Int) := of_decide_eq_true ap2; have q10 : x5_1 < (a1.size : Int) := of_decide_eq_true ap2; have hx10 := bt_at a1 x5_1; replace p10 := eq_true p10; replace q10 := eq_true q10
          go_wp2
          repeat (go_quiet (fail); try go_wp2)
          go_ret
          exact ⟨ap3, ap5⟩
         ·rw [if_neg c11] at H
          have c11b0 : decide ((bt a0 x5_1) < (bt a1 x5_1)) = false := decide_eq_false c11; clear c11
          by_cases c14 : (bt a0 x5_1) > (bt a1 x5_1)
          ·rw [if_pos c14] at H
           have c14b0 : decide ((bt a1 x5_1) < (bt a0 x5_1)) = true := decide_eq_true c14; clear c14; obtain rfl := Option.some.inj H; simp only [Option.some.injEq, Prod.mk.injEq] at H; obtain ⟨rfl⟩ := H; have p8 : 0 ≤ (x5_1 : Int) := of_decide_eq_true ap2; have q8 : x5_1 < (a0.size : Int) := of_decide_eq_true ap2; have hx8 := bt_at a0 x5_1; replace p8 := eq_true p8; replace q8 := eq_true q8; have p10 : 0 ≤ (x5_1 : Int) := of_decide_eq_true ap2; have q10 : x5_1 < (a1.size : Int) := of_decide_eq_true ap2; have hx10 := bt_at a1 x5_1; replace p10 := eq_true p10; replace q10 := eq_true q10; have p12 : 0 ≤ (x5_1 : Int) := of_decide_eq_true ap2; have q12 : x5_1 < (a0.size : Int) := of_decide_eq_true ap2; have hx12 := bt_at a0 x5_1; replace p12 := eq_true p12; replace q12 := eq_true q12; have p13 : 0 ≤ (x5_1 : Int) := of_decide_eq_true ap2; have q13 : x5_1 < (a1.size : Int) := of_decide_eq_true ap2; have hx13 := bt_at a1 x5_1; replace p13 := eq_true p13; replace q13 := eq_true q13
           go_wp2
           repeat (go_quiet (fail); try go_wp2)
           go_ret
           exact ⟨ap3, ap5⟩
          ·rw [if_neg c14] at H
           have c14b0 : decide ((bt a1 x5_1) < (bt a0 x5_1)) = false := decide_eq_false c14; clear c14; have H' := am H; clear H; have p8 : 0 ≤ (x5_1 : Int) := of_decide_eq_true ap2; have q8 : x5_1 < (a0.size : Int) := of_decide_eq_true ap2; have hx8 := bt_at a0 x5_1; replace p8 := eq_true p8; replace q8 := eq_true q8; have p10 : 0 ≤ (x5_1 : Int) := of_decide_eq_true ap2; have q10 : x5_1 < (a1.size : Int) := of_decide_eq_true ap2; have hx10 := bt_at a1 x5_1; replace p10 := eq_true p10; replace q10 := eq_true q10; have p12 : 0 ≤ (x5_1 : Int) := of_decide_eq_true ap2; have q12 : x5_1 < (a0.size : Int) := of_decide_eq_true ap2; have hx12 := bt_at a0 x5_1; replace p12 := eq_true p12; replace q12 := eq_true q12; have p13 : 0 ≤ (x5_1 : Int) := of_decide_eq_true ap2; have q13 : x5_1 < (a1.size : Int) := of_decide_eq_true ap2; have hx13 := bt_at a1 x5_1; replace p13 := eq_true p13; replace q13 := eq_true q13
           go_wp2
           repeat (go_quiet (fail); try go_wp2)
           go_roundg kj2
           case measure => have := HK1.out; have := HJ2.out; omega
           case rel => exact ⟨(wrap64 (x5_1 + 1)), ap3, H', ⟨by have := HK1.out; have := HJ2.out; omega⟩, ap5⟩
        ·rw [if_neg c9] at H
         exact absurd H (by simp)
       ·rw [if_neg c7] at H
        exact absurd H (by simp)
      ·rw [if_neg c6] at H
       exact absurd H (by simp)
     ·replace c5 := Bool.eq_false_iff.mpr c5
      subst c5
      have H1 : (if (a0.size : Int) < (a1.size : Int) then (some (-1)) else (if (a0.size : Int) > (a1.size : Int) then (some 1) else (some 0))) = some r := by rw [if_neg (show ¬ (false = true) by decide)] at H; exact H
      clear H; have H := H1; clear H1
      by_cases c15 : (a0.size : Int) < (a1.size : Int)
      ·rw [if_pos c15] at H
       have c15b0 : decide ((a0.size : Int) < (a1.size : Int)) = true := decide_eq_true c15; have c15b1 : decide (a0.size < a1.size) = true := decide_eq_true (Int.ofNat_lt.mp c15); clear c15; obtain rfl := Option.some.inj H; simp only [Option.some.injEq, Prod.mk.injEq] at H; obtain ⟨rfl⟩ := H
       go_wp2
       repeat (go_quiet (fail); try go_wp2)
       go_ret
       exact ⟨ap3, ap5⟩
      ·rw [if_neg c15] at H
       have c15b0 : decide ((a0.size : Int) < (a1.size : Int)) = false := decide_eq_false c15; have c15b1 : decide (a0.size < a1.size) = false := decide_eq_false (fun h => c15 (Int.ofNat_lt.mpr h)); clear c15
       by_cases c16 : (a0.size : Int) > (a1.size : Int)
       ·rw [if_pos c16] at H
        have c16b0 : decide ((a1.size : Int) < (a0.size : Int)) = true := decide_eq_true c16; have c16b1 : decide (a1.size < a0.size) = true := decide_eq_true (Int.ofNat_lt.mp c16); clear c16; obtain rfl := Option.some.inj H; simp only [Option.some.injEq, Prod.mk.injEq] at H; obtain ⟨rfl⟩ := H
        go_wp2
        repeat (go_quiet (fail); try go_wp2)
        go_ret
        exact ⟨ap3, ap5⟩
       ·rw [if_neg c16] at H
        have c16b0 : decide ((a1.size : Int) < (a0.size : Int)) = false := decide_eq_false c16; have c16b1 : decide (a1.size < a0.size) = false := decide_eq_false (fun h => c16 (Int.ofNat_lt.mpr h)); clear c16; obtain rfl := Option.some.inj H; simp only [Option.some.injEq, Prod.mk.injEq] at H; obtain ⟨rfl⟩ := H
        go_wp2
        repeat (go_quiet (fail); try go_wp2)
        go_ret
        exact ⟨ap3, ap5⟩
mutual
def packhorseref01_sign.j0 : Nat → ByteArray → Int → Int → Bool → Option (Int × Bool)
 | 0, _, _, _, _ => none
 | k + 1, x0, x1, x6, x16 => if x16 = true then (some (1, true)) else (if x6 ≥ 48 then (if x6 ≤ 57 then (packhorseref01_sign.j1 k x0 x1 x6 true) else (packhorseref01_sign.j1 k x0 x1 x6 (x6 == 45))) else (packhorseref01_sign.j1 k x0 x1 x6 (x6 == 45)))
def packhorseref01_sign.j1 : Nat → ByteArray → Int → Int → Bool → Option (Int × Bool)
 | 0, _, _, _, _ => none
 | k + 1, x0, x1, x6, x26 => if x26 = true then (some (1, false)) else (if (wrap64 (x1 + 1)) ≥ (x0.size : Int) then (some (0, false)) else (if 0 ≤ (wrap64 (x1 + 1)) then (if (wrap64 (x1 + 1)) < (x0.size : Int) then (if x6 = 206 then (if (bt x0 (wrap64 (x1 + 1))) ≥ 177 then (if (bt x0 (wrap64 (x1 + 1))) ≤ 191 then (some (2, true)) else (if x6 = 207 then (if (bt x0 (wrap64 (x1 + 1))) ≥ 128 then (if (bt x0 (wrap64 (x1 + 1))) ≤ 137 then (some (2, true)) else (some (0, false))) else (some (0, false))) else (some (0, false)))) else (if x6 = 207 then (if (bt x0 (wrap64 (x1 + 1))) ≥ 128 then (if (bt x0 (wrap64 (x1 + 1))) ≤ 137 then (some (2, true)) else (some (0, false))) else (some (0, false))) else (some (0, false)))) else (if x6 = 207 then (if (bt x0 (wrap64 (x1 + 1))) ≥ 128 then (if (bt x0 (wrap64 (x1 + 1))) ≤ 137 then (some (2, true)) else (some (0, false))) else (some (0, false))) else (some (0, false)))) else (none)) else (none)))
end
def packhorseref01_sign.f (k : Nat) (a0 : ByteArray) (a1 : Int) : Option (Int × Bool) := if 0 ≤ a1 then (if a1 < (a0.size : Int) then (if (bt a0 a1) ≥ 97 then (packhorseref01_sign.j0 k a0 a1 (bt a0 a1) (decide ((bt a0 a1) ≤ 122))) else (packhorseref01_sign.j0 k a0 a1 (bt a0 a1) false)) else (none)) else (none)
theorem packhorseref01_sign.mono_l : ∀ k, (∀ y0 y1 y2 y3, LeO (packhorseref01_sign.j0 k y0 y1 y2 y3) (packhorseref01_sign.j0 (k + 1) y0 y1 y2 y3)) ∧ (∀ y0 y1 y2 y3, LeO (packhorseref01_sign.j1 k y0 y1 y2 y3) (packhorseref01_sign.j1 (k + 1) y0 y1 y2 y3))
 | 0 => ⟨fun _ _ _ _ r h => by simp [packhorseref01_sign.j0] at h, fun _ _ _ _ r h => by simp [packhorseref01_sign.j1] at h⟩
 | k + 1 => by
  obtain ⟨ih0, ih1⟩ := packhorseref01_sign.mono_l k; refine ⟨?_, ?_⟩
  ·intro y0 y1 y2 y3
   unfold packhorseref01_sign.j0
   repeat' first
   | (with_reducible exact ih0 _ _ _ _)
   | (with_reducible exact ih1 _ _ _ _)
   | (with_reducible exact LeO.refl _)
   | (with_reducible exact LeO.none _)
   | (with_reducible refine LeO.ite ?_ ?_)
   | (with_reducible refine LeO.bind ?_ (fun _ => ?_))
   | exact ih0 _ _ _ _
   | exact ih1 _ _ _ _
   | exact LeO.none _
   | refine LeO.ite ?_ ?_
   | refine LeO.bind ?_ (fun _ => ?_)
  ·intro y0 y1 y2 y3
   unfold packhorseref01_sign.j1
   repeat' first
   | (with_reducible exact ih0 _ _ _ _)
   | (with_reducible exact ih1 _ _ _ _)
   | (with_reducible exact LeO.refl _)
   | (with_reducible exact LeO.none _)
   | (with_reducible refine LeO.ite ?_ ?_)
   | (with_reducible refine LeO.bind ?_ (fun _ => ?_))
   | exact ih0 _ _ _ _
   | exact ih1 _ _ _ _
   | exact LeO.none _
   | refine LeO.ite ?_ ?_
   | refine LeO.bind ?_ (fun _ => ?_)
set_option maxHeartbeats 8000000 in
set_option maxRecDepth 100000 in
theorem packhorseref01_sign.calls (k : Nat) (a0 : ByteArray) (a1 : Int) (r1 : Int) (r2 : Bool) (w : World) (h : packhorseref01_sign.f k a0 a1 = some (r1, r2)) :
  Calls Tryd.prog 45 #[.string a0, .int .i64 a1] w fun e w' => e = .returned (.tuple #[.int .i64 r1, .bool r2]) ∧ Drawn0 w w' := by
 have H : (if 0 ≤ a1 then (if a1 < (a0.size : Int) then (if (bt a0 a1) ≥ 97 then (packhorseref01_sign.j0 k a0 a1 (bt a0 a1) (decide ((bt a0 a1) ≤ 122))) else (packhorseref01_sign.j0 k a0 a1 (bt a0 a1) false)) else (none)) else (none)) = some (r1, r2) := h; clear h
 by_cases c3 : 0 ≤ a1
 ·rw [if_pos c3] at H
  have c3b0 : decide (0 ≤ a1) = true := decide_eq_true c3; clear c3
  by_cases c4 : a1 < (a0.size : Int)
  ·rw [if_pos c4] at H
   have c4b0 : decide (a1 < (a0.size : Int)) = true := decide_eq_true c4; clear c4; have HC6 := am H; clear H; have p5 : 0 ≤ (a1 : Int) := of_decide_eq_true ap2; have q5 : a1 < (a0.size : Int) := of_decide_eq_true ap2; have hx5 := bt_at a0 a1; replace p5 := eq_true p5; replace q5 := eq_true q5
   go_enter Tryd.func45, Tryd.ntmps45
   go_upto_region 2 with (fail)
   go_cut [16] (fun v16 wc => ∃ (kq : Nat) (x16_5 : Bool), v16 = .bool x16_5 ∧ Aside0 (packhorseref01_sign.j0 kq a0 a1 (bt a0 a1) x16_5 = some (r1, r2)) ∧ Aside0 (kq ≤ k) ∧ Drawn0 w wc)
   case first =>
    have H := HC6.out; clear HC6
    by_cases c7 : (bt a0 a1) ≥ 97
    ·rw [if_pos c7] at H
     have c7b0 : decide (97 ≤ (bt a0 a1)) = true := decide_eq_true c7; clear c7
     (first | rw [c7b0] | (simp only [i64_w, i32_w]; rw [c7b0]) | skip)
     have H' := am H; clear H
     go_wp2
     go_meet
     case rel => exact ⟨_, (decide ((bt a0 a1) ≤ 122)), ap3, H', ⟨by first | omega | exact Nat.le_refl _⟩, ap5⟩
    ·rw [if_neg c7] at H
     have c7b0 : decide (97 ≤ (bt a0 a1)) = false := decide_eq_false c7; clear c7
     (first | rw [c7b0] | (simp only [i64_w, i32_w]; rw [c7b0]) | skip)
     have H' := am H; clear H
     go_wp2
     go_meet
     case rel => exact ⟨_, (false), ap3, H', ⟨by first | omega | exact Nat.le_refl _⟩, ap5⟩
   case rest =>
    clear HC6; (try clear p2); (try clear c3); (try clear c3b0); (try clear c4); (try clear c4b0); (try clear p5); (try clear q5); (try clear hx5); (try clear c7); (try clear c7b0); (try clear p5); (try clear q5); obtain ⟨kq, x16_5, rfl, HA, HJ5, ⟨mc5, rfl⟩⟩ := hcut
    cases kq with
    | zero => exact absurd HA.out (by simp [packhorseref01_sign.j0])
    | succ kj5 =>
     have H := HA.out; clear HA; simp only [packhorseref01_sign.j0] at H
     by_cases c8 : x16_5 = true
     ·subst c8
      have H1 : (some (1, true)) = some (r1, r2) := by rw [if_pos rfl] at H; exact H
      clear H; have H := H1; clear H1; simp only [Option.some.injEq, Prod.mk.injEq] at H; obtain ⟨rfl, rfl⟩ := H
      go_wp2
      go_ret2
      exact ⟨ap3, ap5⟩
     ·replace c8 := Bool.eq_false_iff.mpr c8
      subst c8
      have H1 : (if (bt a0 a1) ≥ 48 then (if (bt a0 a1) ≤ 57 then (packhorseref01_sign.j1 kj5 a0 a1 (bt a0 a1) true) else (packhorseref01_sign.j1 kj5 a0 a1 (bt a0 a1) ((bt a0 a1) == 45))) else (packhorseref01_sign.j1 kj5 a0 a1 (bt a0 a1) ((bt a0 a1) == 45))) = some (r1, r2) := by rw [if_neg (show ¬ (false = true) by decide)] at H; exact H
      clear H; have H := H1; clear H1; have HC9 := am H; clear H
      go_upto_region 4 with (fail)
      go_cut [26] (fun v26 wc => ∃ (kq : Nat) (x26_8 : Bool), v26 = .bool x26_8 ∧ Aside0 (packhorseref01_sign.j1 kq a0 a1 (bt a0 a1) x26_8 = some (r1, r2)) ∧ Aside0 (kq ≤ kj5) ∧ Drawn0 w wc)
      case first =>
       have H := HC9.out; clear HC9
       by_cases c10 : (bt a0 a1) ≥ 48
       ·rw [if_pos c10] at H
        have c10b0 : decide (48 ≤ (bt a0 a1)) = true := decide_eq_true c10; clear c10
        (first | rw [c10b0] | (simp only [i64_w, i32_w]; rw [c10b0]) | skip)
        by_cases c11 : (bt a0 a1) ≤ 57
        ·rw [if_pos c11] at H
         have c11b0 : decide ((bt a0 a1) ≤ 57) = true := decide_eq_true c11; clear c11; have H' := am H; clear H
         go_wp2
         go_meet
         case rel => exact ⟨_, (true), ap3, H', ⟨by have := HJ5.out; first | omega | exact Nat.le_refl _⟩, ap5⟩
        ·rw [if_neg c11] at H
         have c11b0 : decide ((bt a0 a1) ≤ 57) = false := decide_eq_false c11; clear c11; have H' := am H; clear H
         go_wp2
         go_meet
         case rel => exact ⟨_, (((bt a0 a1) == 45)), ap3, H', ⟨by have := HJ5.out; first | omega | exact Nat.le_refl _⟩, ap5⟩
       ·rw [if_neg c10] at H
        have c10b0 : decide (48 ≤ (bt a0 a1)) = false := decide_eq_false c10; clear c10
        (first | rw [c10b0] | (simp only [i64_w, i32_w]; rw [c10b0]) | skip)
        have H' := am H; clear H
        go_wp2
        go_meet
        case rel => exact ⟨_, (((bt a0 a1) == 45)), ap3, H', ⟨by have := HJ5.out; first | omega | exact Nat.le_refl _⟩, ap5⟩
      case rest =>
       clear HC9; (try clear c1); (try clear p2); (try clear c3); (try clear c3b0); (try clear c4); (try clear c4b0); (try clear c5); (try clear p5); (try clear q5); (try clear hx5); (try clear c7); (try clear c7b0); (try clear c8); (try clear c10); (try clear c10b0); (try clear c11); (try clear c11b0); (try clear p2); (try clear p5); (try clear q5); obtain ⟨kq, x26_8, rfl, HA, HJ8, ⟨mc8, rfl⟩⟩ := hcut
       cases kq with
       | zero => exact absurd HA.out (by simp [packhorseref01_sign.j1])
       | succ kj8 =>
        have H := HA.out; clear HA; simp only [packhorseref01_sign.j1] at H
        by_cases c12 : x26_8 = true
        ·subst c12
         have H1 : (some (1, false)) = some (r1, r2) := by rw [if_pos rfl] at H; exact H
         clear H; have H := H1; clear H1; simp only [Option.some.injEq, Prod.mk.injEq] at H; obtain ⟨rfl, rfl⟩ := H
         go_wp2
         go_ret2
         exact ⟨ap3, ap5⟩
        ·replace c12 := Bool.eq_false_iff.mpr c12
         subst c12
         have H1 : (if (wrap64 (a1 + 1)) ≥ (a0.size : Int) then (some (0, false)) else (if 0 ≤ (wrap64 (a1 + 1)) then (if (wrap64 (a1 + 1)) < (a0.size : Int) then (if (bt a0 a1) = 206 then (if (bt a0 (wrap64 (a1 + 1))) ≥ 177 then (if (bt a0 (wrap64 (a1 + 1))) ≤ 191 then (some (2, true)) else (if (bt a0 a1) = 207 then (if (bt a0 (wrap64 (a1 + 1))) ≥ 128 then (if (bt a0 (wrap64 (a1 + 1))) ≤ 137 then (some (2, true)) else (some (0, false))) else (some (0, false))) else (some (0, false)))) else (if (bt a0 a1) = 207 then (if (bt a0 (wrap64 (a1 + 1))) ≥ 128 then (if (bt a0 (wrap64 (a1 + 1))) ≤ 137 then (some (2, true)) else (some (0, false))) else (some (0, false))) else (some (0, false)))) else (if (bt a0 a1) = 207 then (if (bt a0 (wrap64 (a1 + 1))) ≥ 128 then (if (bt a0 (wrap64 (a1 + 1))) ≤ 137 then (some (2, true)) else (some (0, false))) else (some (0, false))) else (some (0, false)))) else (none)) else (none))) = some (r1, r2) := by rw [if_neg (show ¬ (false = true) by decide)] at H; exact H
         clear H; have H := H1; clear H1
         by_cases c13 : (wrap64 (a1 + 1)) ≥ (a0.size : Int)
         ·rw [if_pos c13] at H
          have c13b0 : decide ((a0.size : Int) ≤ (wrap64 (a1 + 1))) = true := decide_eq_true c13; clear c13; simp only [Option.some.injEq, Prod.mk.injEq] at H; obtain ⟨rfl, rfl⟩ := H
          go_wp2
          go_ret2
          exact ⟨ap3, ap5⟩
         ·rw [if_neg c13] at H
          have c13b0 : decide ((a0.size : Int) ≤ (wrap64 (a1 + 1))) = false := decide_eq_false c13; clear c13; obtain ⟨ji14, hji14⟩ : ∃ j_ : Int, (wrap64 (a1 + 1)) = j_ := ⟨_, rfl⟩
          replace H : (if 0 ≤ (ji14) then (if (ji14) < (a0.size : Int) then (if (bt a0 a1) = 206 then (if (bt a0 (ji14)) ≥ 177 then (if (bt a0 (ji14)) ≤ 191 then (some (2, true)) else (if (bt a0 a1) = 207 then (if (bt a0 (ji14)) ≥ 128 then (if (bt a0 (ji14)) ≤ 137 then (some (2, true)) else (some (0, false))) else (some (0, false))) else (some (0, false)))) else (if (bt a0 a1) = 207 then (if (bt a0 (ji14)) ≥ 128 then (if (bt a0 (ji14)) ≤ 137 then (some (2, true)) else (some (0, false))) else (some (0, false))) else (some (0, false)))) else (if (bt a0 a1) = 207 then (if (bt a0 (ji14)) ≥ 128 then (if (bt a0 (ji14)) ≤ 137 then (some (2, true)) else (some (0, false))) else (some (0, false))) else (some (0, false)))) else (none)) else (none)) = some (r1, r2) := by first | (rw [hji14] at H; exact H) | (simp only [hji14] at H ⊢; exact H)
          (try rw [hji14] at c13b0)
          have hji14w : (IntKind.i64.wrap (a1 + 1)) = ji14 := (i64_w _).trans hji14
          by_cases c15 : 0 ≤ (ji14)
          ·rw [if_pos c15] at H
           have c15b0 : decide (0 ≤ (ji14)) = true := decide_eq_true c15; clear c15
           by_cases c16 : (ji14) < (a0.size : Int)
           ·rw [if_pos c16] at H
            have c16b0 : decide ((ji14) < (a0.size : Int)) = true := decide_eq_true c16; clear c16
            by_cases c18 : (bt a0 a1) = 206
            ·rw [if_pos c18] at H
             have c18b0 : ((bt a0 a1) == 206) = true := beq_iff_eq.mpr c18; have c18b1 : ((bt a0 a1) != 206) = false := bne_eq_false_iff_eq.mpr c18; clear c18
             by_cases c19 : (bt a0 (ji14)) ≥ 177
             ·rw [if_pos c19] at H
              have c19b0 : decide (177 ≤ (bt a0 (ji14))) = true := decide_eq_true c19; clear c19
              by_cases c20 : (bt a0 (ji14)) ≤ 191
              ·rw [if_pos c20] at H
               have c20b0 : decide ((bt a0 (ji14)) ≤ 191) = true := decide_eq_true c20; clear c20; simp only [Option.some.injEq, Prod.mk.injEq] at H; obtain ⟨rfl, rfl⟩ := H; have p17 : 0 ≤ ((ji14) : Int) := of_decide_eq_true ap2; have q17 : (ji14) < (a0.size : Int) := of_decide_eq_true ap2; have hx17 := bt_at a0 (ji14); replace p17 := eq_true p17; replace q17 := eq_true q17
               go_wp2
               go_ret2
               exact ⟨by first | rfl | (simp; done) | (simp only [← hji14] <;> (first | rfl | simp)) | (simp [*]; done), ap5⟩
              ·rw [if_neg c20] at H
               have c20b0 : decide ((bt a0 (ji14)) ≤ 191) = false := decide_eq_false c20; clear c20
               by_cases c21 : (bt a0 a1) = 207
               ·rw [if_pos c21] at H
                have c21b0 : ((bt a0 a1) == 207) = true := beq_iff_eq.mpr c21; have c21b1 : ((bt a0 a1) != 207) = false := bne_eq_false_iff_eq.mpr c21; clear c21
                by_cases c22 : (bt a0 (ji14)) ≥ 128
                ·rw [if_pos c22] at H
                 have c22b0 : decide (128 ≤ (bt a0 (ji14))) = true := decide_eq_true c22; clear c22
                 by_cases c23 : (bt a0 (ji14)) ≤ 137
                 ·rw [if_pos c23] at H
                  have c23b0 : decide ((bt a0 (ji14)) ≤ 137) = true := decide_eq_true c23; clear c23; simp only [Option.some.injEq, Prod.mk.injEq] at H; obtain ⟨rfl, rfl⟩ := H; have p17 : 0 ≤ ((ji14) : Int) := of_decide_eq_true ap2; have q17 : (ji14) < (a0.size : Int) := of_decide_eq_true ap2; have hx17 := bt_at a0 (ji14); replace p17 := eq_true p17; replace q17 := eq_true q17
                  go_wp2
                  go_ret2
                  exact ⟨by first | rfl | (simp; done) | (simp only [← hji14] <;> (first | rfl | simp)) | (simp [*]; done), ap5⟩
                 ·rw [if_neg c23] at H
                  have c23b0 : decide ((bt a0 (ji14)) ≤ 137) = false := decide_eq_false c23; clear c23; simp only [Option.some.injEq, Prod.mk.injEq] at H; obtain ⟨rfl, rfl⟩ := H; have p17 : 0 ≤ ((ji14) : Int) := of_decide_eq_true ap2; have q17 : (ji14) < (a0.size : Int) := of_decide_eq_true ap2; have hx17 := bt_at a0 (ji14); replace p17 := eq_true p17; replace q17 := eq_true q17
                  go_wp2
                  go_ret2
                  exact ⟨by first | rfl | (simp; done) | (simp only [← hji14] <;> (first | rfl | simp)) | (simp [*]; done), ap5⟩
                ·rw [if_neg c22] at H
                 have c22b0 : decide (128 ≤ (bt a0 (ji14))) = false := decide_eq_false c22; clear c22; simp only [Option.some.injEq, Prod.mk.injEq] at H; obtain ⟨rfl, rfl⟩ := H; have p17 : 0 ≤ ((ji14) : Int) := of_decide_eq_true ap2; have q17 : (ji14) < (a0.size : Int) := of_decide_eq_true ap2; have hx17 := bt_at a0 (ji14); replace p17 := eq_true p17; replace q17 := eq_true q17
                 go_wp2
                 go_ret2
                 exact ⟨by first | rfl | (simp; done) | (simp only [← hji14] <;> (first | rfl | simp)) | (simp [*]; done), ap5⟩
               ·rw [if_neg c21] at H
                have c21b0 : ((bt a0 a1) == 207) = false := beq_eq_false_iff_ne.mpr c21; have c21b1 : ((bt a0 a1) != 207) = true := bne_iff_ne.mpr c21; simp only [Option.some.injEq, Prod.mk.injEq] at H; obtain ⟨rfl, rfl⟩ := H; have p17 : 0 ≤ ((ji14) : Int) := of_decide_eq_true ap2; have q17 : (ji14) < (a0.size : Int) := of_decide_eq_true ap2; have hx17 := bt_at a0 (ji14); replace p17 := eq_true p17; replace q17 := eq_true q17
                go_wp2
                go_ret2
                exact ⟨by first | rfl | (simp; done) | (simp only [← hji14] <;> (first | rfl | simp)) | (simp [*]; done), ap5⟩
             ·rw [if_neg c19] at H
              have c19b0 : decide (177 ≤ (bt a0 (ji14))) = false := decide_eq_false c19; clear c19
              by_cases c24 : (bt a0 a1) = 207
              ·rw [if_pos c24] at H
               have c24b0 : ((bt a0 a1) == 207) = true := beq_iff_eq.mpr c24; have c24b1 : ((bt a0 a1) != 207) = false := bne_eq_false_iff_eq.mpr c24; clear c24
               by_cases c25 : (bt a0 (ji14)) ≥ 128
               ·rw [if_pos c25] at H
                have c25b0 : decide (128 ≤ (bt a0 (ji14))) = true := decide_eq_true c25; clear c25
                by_cases c26 : (bt a0 (ji14)) ≤ 137
                ·rw [if_pos c26] at H
                 have c26b0 : decide ((bt a0 (ji14)) ≤ 137) = true := decide_eq_true c26; clear c26; simp only [Option.some.injEq, Prod.mk.injEq] at H; obtain ⟨rfl, rfl⟩ := H; have p17 : 0 ≤ ((ji14) : Int) := of_decide_eq_true ap2; have q17 : (ji14) < (a0.size : Int) := of_decide_eq_true ap2; have hx17 := bt_at a0 (ji14); replace p17 := eq_true p17; replace q17 := eq_true q17
                 go_wp2
                 go_ret2
                 exact ⟨by first | rfl | (simp; done) | (simp only [← hji14] <;> (first | rfl | simp)) | (simp [*]; done), ap5⟩
                ·rw [if_neg c26] at H
                 have c26b0 : decide ((bt a0 (ji14)) ≤ 137) = false := decide_eq_false c26; clear c26; simp only [Option.some.injEq, Prod.mk.injEq] at H; obtain ⟨rfl, rfl⟩ := H; have p17 : 0 ≤ ((ji14) : Int) := of_decide_eq_true ap2; have q17 : (ji14) < (a0.size : Int) := of_decide_eq_true ap2; have hx17 := bt_at a0 (ji14); replace p17 := eq_true p17; replace q17 := eq_true q17
                 go_wp2
                 go_ret2
                 exact ⟨by first | rfl | (simp; done) | (simp only [← hji14] <;> (first | rfl | simp)) | (simp [*]; done), ap5⟩
               ·rw [if_neg c25] at H
                have c25b0 : decide (128 ≤ (bt a0 (ji14))) = false := decide_eq_false c25; clear c25; simp only [Option.some.injEq, Prod.mk.injEq] at H; obtain ⟨rfl, rfl⟩ := H; have p17 : 0 ≤ ((ji14) : Int) := of_decide_eq_true ap2; have q17 : (ji14) < (a0.size : Int) := of_decide_eq_true ap2; have hx17 := bt_at a0 (ji14); replace p17 := eq_true p17; replace q17 := eq_true q17
                go_wp2
                go_ret2
                exact ⟨by first | rfl | (simp; done) | (simp only [← hji14] <;> (first | rfl | simp)) | (simp [*]; done), ap5⟩
              ·rw [if_neg c24] at H
               have c24b0 : ((bt a0 a1) == 207) = false := beq_eq_false_iff_ne.mpr c24; have c24b1 : ((bt a0 a1) != 207) = true := bne_iff_ne.mpr c24; simp only [Option.some.injEq, Prod.mk.injEq] at H; obtain ⟨rfl, rfl⟩ := H; have p17 : 0 ≤ ((ji14) : Int) := of_decide_eq_true ap2; have q17 : (ji14) < (a0.size : Int) := of_decide_eq_true ap2; have hx17 := bt_at a0 (ji14); replace p17 := eq_true p17; replace q17 := eq_true q17
               go_wp2
               go_ret2
               exact ⟨by first | rfl | (simp; done) | (simp only [← hji14] <;> (first | rfl | simp)) | (simp [*]; done), ap5⟩
            ·rw [if_neg c18] at H
             have c18b0 : ((bt a0 a1) == 206) = false := beq_eq_false_iff_ne.mpr c18; have c18b1 : ((bt a0 a1) != 206) = true := bne_iff_ne.mpr c18
             by_cases c27 : (bt a0 a1) = 207
             ·rw [if_pos c27] at H
              have c27b0 : ((bt a0 a1) == 207) = true := beq_iff_eq.mpr c27; have c27b1 : ((bt a0 a1) != 207) = false := bne_eq_false_iff_eq.mpr c27; clear c27
              by_cases c28 : (bt a0 (ji14)) ≥ 128
              ·rw [if_pos c28] at H
               have c28b0 : decide (128 ≤ (bt a0 (ji14))) = true := decide_eq_true c28; clear c28
               by_cases c29 : (bt a0 (ji14)) ≤ 137
               ·rw [if_pos c29] at H
                have c29b0 : decide ((bt a0 (ji14)) ≤ 137) = true := decide_eq_true c29; clear c29; simp only [Option.some.injEq, Prod.mk.injEq] at H; obtain ⟨rfl, rfl⟩ := H; have p17 : 0 ≤ ((ji14) : Int) := of_decide_eq_true ap2; have q17 : (ji14) < (a0.size : Int) := of_decide_eq_true ap2; have hx17 := bt_at a0 (ji14); replace p17 := eq_true p17; replace q17 := eq_true q17
                go_wp2
                go_ret2
                exact ⟨by first | rfl | (simp; done) | (simp only [← hji14] <;> (first | rfl | simp)) | (simp [*]; done), ap5⟩
               ·rw [if_neg c29] at H
                have c29b0 : decide ((bt a0 (ji14)) ≤ 137) = false := decide_eq_false c29; clear c29; simp only [Option.some.injEq, Prod.mk.injEq] at H; obtain ⟨rfl, rfl⟩ := H; have p17 : 0 ≤ ((ji14) : Int) := of_decide_eq_true ap2; have q17 : (ji14) < (a0.size : Int) := of_decide_eq_true ap2; have hx17 := bt_at a0 (ji14); replace p17 := eq_true p17; replace q17 := eq_true q17
                go_wp2
                go_ret2
                exact ⟨by first | rfl | (simp; done) | (simp only [← hji14] <;> (first | rfl | simp)) | (simp [*]; done), ap5⟩
              ·rw [if_neg c28] at H
               have c28b0 : decide (128 ≤ (bt a0 (ji14))) = false := decide_eq_false c28; clear c28; simp only [Option.some.injEq, Prod.mk.injEq] at H; obtain ⟨rfl, rfl⟩ := H; have p17 : 0 ≤ ((ji14) : Int) := of_decide_eq_true ap2; have q17 : (ji14) < (a0.size : Int) := of_decide_eq_true ap2; have hx17 := bt_at a0 (ji14); replace p17 := eq_true p17; replace q17 := eq_true q17
               go_wp2
               go_ret2
               exact ⟨by first | rfl | (simp; done) | (simp only [← hji14] <;> (first | rfl | simp)) | (simp [*]; done), ap5⟩
             ·rw [if_neg c27] at H
              have c27b0 : ((bt a0 a1) == 207) = false := beq_eq_false_iff_ne.mpr c27; have c27b1 : ((bt a0 a1) != 207) = true := bne_iff_ne.mpr c27; simp only [Option.some.injEq, Prod.mk.injEq] at H; obtain ⟨rfl, rfl⟩ := H; have p17 : 0 ≤ ((ji14) : Int) := of_decide_eq_true ap2; have q17 : (ji14) < (a0.size : Int) := of_decide_eq_true ap2; have hx17 := bt_at a0 (ji14); replace p17 := eq_true p17; replace q17 := eq_true q17
              go_wp2
              go_ret2
              exact ⟨by first | rfl | (simp; done) | (simp only [← hji14] <;> (first | rfl | simp)) | (simp [*]; done), ap5⟩
           ·rw [if_neg c16] at H
            exact absurd H (by simp)
          ·rw [if_neg c15] at H
           exact absurd H (by simp)
  ·rw [if_neg c4] at H
   exact absurd H (by simp)
 ·rw [if_neg c3] at H
  exact absurd H (by simp)
def packhorseref01_Signs.l0 : Nat → ByteArray → List ByteArray → Int → Option (List ByteArray)
 | 0, _, _, _ => none
 | k + 1, x0, x3, x4 => if x4 < (x0.size : Int) then ((packhorseref01_sign.f k x0 x4).bind fun bt173 => (if bt173.1 = 0 then (some ([] : List ByteArray)) else (if (x3.length : Int) = 0 then (if bt173.2 = true then (if (x3.length : Int) = 16 then (some ([] : List ByteArray)) else (if 0 ≤ x4 then (if x4 ≤ (wrap64 (x4 + bt173.1)) then (if (wrap64 (x4 + bt173.1)) ≤ (x0.size : Int) then (if x3.length < 8796093022208 then (packhorseref01_Signs.l0 k x0 (x3 ++ [x0.extract (x4 : Int).toNat ((wrap64 (x4 + bt173.1)) : Int).toNat]) (wrap64 (x4 + bt173.1))) else (none)) else (none)) else (none)) else (none))) else (some ([] : List ByteArray))) else (if (x3.length : Int) = 16 then (some ([] : List ByteArray)) else (if 0 ≤ x4 then (if x4 ≤ (wrap64 (x4 + bt173.1)) then (if (wrap64 (x4 + bt173.1)) ≤ (x0.size : Int) then (if x3.length < 8796093022208 then (packhorseref01_Signs.l0 k x0 (x3 ++ [x0.extract (x4 : Int).toNat ((wrap64 (x4 + bt173.1)) : Int).toNat]) (wrap64 (x4 + bt173.1))) else (none)) else (none)) else (none)) else (none)))))) else (some x3)
def packhorseref01_Signs.f (k : Nat) (a0 : ByteArray) : Option (List ByteArray) := packhorseref01_Signs.l0 k a0 (([] : List ByteArray)) 0
set_option maxHeartbeats 8000000 in
set_option maxRecDepth 100000 in
theorem packhorseref01_Signs.calls (k : Nat) (a0 : ByteArray) (r : List ByteArray) (w : World) (h : packhorseref01_Signs.f k a0 = some r) :
  Calls Tryd.prog 41 #[.string a0] w fun e w' => ∃ v0_ : Value, e = .returned (v0_) ∧ Kd.R Kd.string 9 w' w.heap.size (fun _ => True) v0_ r ∧ Below w.heap.size w w' := by
 have HB := am (Below.refl w.heap.size w); have H : (packhorseref01_Signs.l0 k a0 (([] : List ByteArray)) 0) = some r := h; clear h; obtain ⟨y170, hy170⟩ : ∃ y_ : List ByteArray, y_ = (([] : List ByteArray)) := ⟨_, rfl⟩
 replace H : (packhorseref01_Signs.l0 k a0 y170 0) = some r := by first | (rw [hy170]; with_reducible exact H) | (have H2_ := (Option.bind_some _ _).symm.trans H; rw [hy170]; with_reducible exact H2_) | (have H2_ := (Option.bind_some _ _).symm.trans H; with_reducible exact H2_) | with_reducible exact H | (rw [hy170]; exact H) | exact H
 have Ny170 := am hy170; clear hy170; have H' := am H; clear H
 go_enter Tryd.func41, Tryd.ntmps41
 go_wp2_with (first | ((with_reducible refine gate_dst (N := 7) rfl ?_); (try (refine gate_guard (by rfl) ?_; dsimp only)); refine Kd.R_lit Kd.string _ 9 ?hg (N := 7) ?hd (xs := ([] : List ByteArray)) (inner := []) (ok := fun _ => True) (okp := fun _ => True) ?hr ?hp (fun _ hk => hk) trivial (Below.refl _ _) (Nat.le_refl _) (by simp) ?_; (case hd => rfl); (case hg => rfl); (case hr => first | (go_simp; done) | (go_simp; rfl)); (case hp => exact (Reps.none _ _)); intro v171 w2 ho3 hb hg_ hnew_; clear hg_ hnew_; (first | rw [← Ny170.out] at ho3 | (simp only [Int.reduceToNat] at ho3; rw [← Ny170.out] at ho3)); have _ := am (Kd.R_lower ho3 (below_size (beu HB.out))); have _ := am (below_step (beu HB.out) hb); clear HB; rename_i HO172 HB; clear hb ho3))
 go_loopg [3, 4] k (fun kq v3 v4 w' => ∃ (x3_1 : List ByteArray) (x4_1 : Int), v4 = .int .i64 x4_1 ∧ Aside0 (packhorseref01_Signs.l0 kq a0 x3_1 x4_1 = some r) ∧ Aside0 (kq ≤ k) ∧ Aside0 (Kd.R Kd.string 9 w' w.heap.size (fun _ => True) v3 x3_1) ∧ Aside0 (Below w.heap.size w w'))
 case atStart => exact ⟨(y170), (0), ap3, H', ⟨Nat.le_refl _⟩, ⟨ru HO172.out⟩, ⟨beu HB.out⟩⟩
 case round =>
  clear H'; (try clear p2); obtain ⟨x3_1, x4_1, rfl, HA, HK1, HO_3, HB⟩ := hrel
  cases gk with
  | zero => exact absurd HA.out (by simp [packhorseref01_Signs.l0])
  | succ k1 =>
   have H := HA.out; clear HA; simp only [packhorseref01_Signs.l0] at H
   by_cases c4 : x4_1 < (a0.size : Int)
   ·rw [if_pos c4] at H
    have c4b0 : decide (x4_1 < (a0.size : Int)) = true := decide_eq_true c4; clear c4; replace H := obm H; obtain ⟨⟨t173, t174⟩, A50, H⟩ := H; replace H : (if t173 = 0 then (some ([] : List ByteArray)) else (if (x3_1.length : Int) = 0 then (if t174 = true then (if (x3_1.length : Int) = 16 then (some ([] : List ByteArray)) else (if 0 ≤ x4_1 then (if x4_1 ≤ (wrap64 (x4_1 + t173)) then (if (wrap64 (x4_1 + t173)) ≤ (a0.size : Int) then (if x3_1.length < 8796093022208 then (packhorseref01_Signs.l0 k1 a0 (x3_1 ++ [a0.extract (x4_1 : Int).toNat ((wrap64 (x4_1 + t173)) : Int).toNat]) (wrap64 (x4_1 + t173))) else (none)) else (none)) else (none)) else (none))) else (some ([] : List ByteArray))) else (if (x3_1.length : Int) = 16 then (some ([] : List ByteArray)) else (if 0 ≤ x4_1 then (if x4_1 ≤ (wrap64 (x4_1 + t173)) then (if (wrap64 (x4_1 + t173)) ≤ (a0.size : Int) then (if x3_1.length < 8796093022208 then (packhorseref01_Signs.l0 k1 a0 (x3_1 ++ [a0.extract (x4_1 : Int).toNat ((wrap64 (x4_1 + t173)) : Int).toNat]) (wrap64 (x4_1 + t173))) else (none)) else (none)) else (none)) else (none))))) = some r := H; have A5 := am A50; clear A50
    by_cases c6 : t173 = 0
    ·rw [if_pos c6] at H
     have c6b0 : (t173 == 0) = true := beq_iff_eq.mpr c6; have c6b1 : (t173 != 0) = false := bne_eq_false_iff_eq.mpr c6; clear c6; obtain rfl := Option.some.inj H; simp only [Option.some.injEq, Prod.mk.injEq] at H; obtain ⟨rfl⟩ := H
     go_wp2_with (first | ((with_reducible refine gate_callee (f := 45) rfl ?_); refine goesL_ (some 15) rfl rfl Tryd.func45 (by kernel_rfl) rfl #[.string a0, .int .i64 x4_1] rfl ap1 ?_; (with_reducible refine (packhorseref01_sign.calls k1 a0 x4_1 t173 t174 _ A5.out).mono ?_); rintro e w' ⟨rfl, ⟨nd, rfl⟩⟩; refine ⟨_, rfl, ?_⟩))
     go_ret
     exact ⟨_, ap4, by first | exact Kd.R_nil _ _ _ _ _ | exact Kd.N_nil _ _ _ _ _ | exact Kd.V_nil _ _ _ _ _ | exact Kd.Q_nil _ _ _ _ _ | exact Kd.S_nil _ _ _ _ _, beu HB.out⟩
    ·rw [if_neg c6] at H
     have c6b0 : (t173 == 0) = false := beq_eq_false_iff_ne.mpr c6; have c6b1 : (t173 != 0) = true := bne_iff_ne.mpr c6
     by_cases c7 : (x3_1.length : Int) = 0
     ·rw [if_pos c7] at H
      have c7b0 : ((x3_1.length : Int) == 0) = true := beq_iff_eq.mpr c7; have c7b1 : ((x3_1.length : Int) != 0) = false := bne_eq_false_iff_eq.mpr c7; clear c7
      by_cases c8 : t174 = true
      ·subst c8
       have H1 : (if (x3_1.length : Int) = 16 then (some ([] : List ByteArray)) else (if 0 ≤ x4_1 then (if x4_1 ≤ (wrap64 (x4_1 + t173)) then (if (wrap64 (x4_1 + t173)) ≤ (a0.size : Int) then (if x3_1.length < 8796093022208 then (packhorseref01_Signs.l0 k1 a0 (x3_1 ++ [a0.extract (x4_1 : Int).toNat ((wrap64 (x4_1 + t173)) : Int).toNat]) (wrap64 (x4_1 + t173))) else (none)) else (none)) else (none)) else (none))) = some r := by rw [if_pos rfl] at H; exact H
       clear H; have H := H1; clear H1
       by_cases c9 : (x3_1.length : Int) = 16
       ·rw [if_pos c9] at H
        have c9b0 : ((x3_1.length : Int) == 16) = true := beq_iff_eq.mpr c9; have c9b1 : ((x3_1.length : Int) != 16) = false := bne_eq_false_iff_eq.mpr c9; clear c9; obtain rfl := Option.some.inj H; simp only [Option.some.injEq, Prod.mk.injEq] at H; obtain ⟨rfl⟩ := H
        go_wp2_with (first | ((with_reducible refine gate_callee (f := 45) rfl ?_); refine goesL_ (some 15) rfl rfl Tryd.func45 (by kernel_rfl) rfl #[.string a0, .int .i64 x4_1] rfl ap1 ?_; (with_reducible refine (packhorseref01_sign.calls k1 a0 x4_1 t173 true _ A5.out).mono ?_); rintro e w' ⟨rfl, ⟨nd, rfl⟩⟩; refine ⟨_, rfl, ?_⟩; obtain ⟨Ao10, co10, eo10⟩ := Kd.R_slice HO_3.out; subst eo10))
        go_ret
        exact ⟨_, ap4, by first | exact Kd.R_nil _ _ _ _ _ | exact Kd.N_nil _ _ _ _ _ | exact Kd.V_nil _ _ _ _ _ | exact Kd.Q_nil _ _ _ _ _ | exact Kd.S_nil _ _ _ _ _, beu HB.out⟩
       ·rw [if_neg c9] at H
        have c9b0 : ((x3_1.length : Int) == 16) = false := beq_eq_false_iff_ne.mpr c9; have c9b1 : ((x3_1.length : Int) != 16) = true := bne_iff_ne.mpr c9
        by_cases c11 : 0 ≤ x4_1
        ·rw [if_pos c11] at H
         have c11b0 := eq_true c11; have c11b1 : decide (0 ≤ x4_1) = true := decide_eq_true c11; clear c11
         by_cases c12 : x4_1 ≤ (wrap64 (x4_1 + t173))
         ·rw [if_pos c12] at H
          have c12b0 := eq_true c12; have c12b1 : decide (x4_1 ≤ (wrap64 (x4_1 + t173))) = true := decide_eq_true c12
          by_cases c13 : (wrap64 (x4_1 + t173)) ≤ (a0.size : Int)
          ·rw [if_pos c13] at H
           have c13b0 := eq_true c13; have c13b1 : decide ((wrap64 (x4_1 + t173)) ≤ (a0.size : Int)) = true := decide_eq_true c13
           by_cases c14 : x3_1.length < 8796093022208
           ·rw [if_pos c14] at H
            have LMc14 := am c14; clear c14; obtain ⟨y175, hy175⟩ : ∃ y_ : List ByteArray, y_ = (x3_1 ++ [a0.extract (x4_1 : Int).toNat ((wrap64 (x4_1 + t173)) : Int).toNat]) := ⟨_, rfl⟩
            replace H : (packhorseref01_Signs.l0 k1 a0 y175 (wrap64 (x4_1 + t173))) = some r := by first | (rw [hy175]; with_reducible exact H) | (have H2_ := (Option.bind_some _ _).symm.trans H; rw [hy175]; with_reducible exact H2_) | (have H2_ := (Option.bind_some _ _).symm.trans H; with_reducible exact H2_) | with_reducible exact H | (rw [hy175]; exact H) | exact H
            have Ny175 := am hy175; clear hy175; have H' := am H; clear H
            go_wp2_with (first | ((with_reducible refine gate_callee (f := 45) rfl ?_); refine goesL_ (some 15) rfl rfl Tryd.func45 (by kernel_rfl) rfl #[.string a0, .int .i64 x4_1] rfl ap1 ?_; (with_reducible refine (packhorseref01_sign.calls k1 a0 x4_1 t173 true _ A5.out).mono ?_); rintro e w' ⟨rfl, ⟨nd, rfl⟩⟩; refine ⟨_, rfl, ?_⟩; obtain ⟨Ao15, co15, eo15⟩ := Kd.R_slice HO_3.out; subst eo15) | ((with_reducible refine gate_builtin (b := .append) (xs := #[.tmp 34, .tmp 41]) rfl ?_); (try (refine gate_guard (by rfl) ?_; dsimp only)); at_builtin; refine Kd.R_append Kd.string (w0 := w) w.heap.size rfl (.tmp 34) (.tmp 41) 54 9 (.string ⟨#[]⟩) 16 rfl Tryd.underlying54 info9 rfl (by decide) (by omega) (.slice Ao15 x3_1.length co15) x3_1 (a0.extract (x4_1 : Int).toNat ((wrap64 (x4_1 + t173)) : Int).toNat) [.string (a0.extract (x4_1 : Int).toNat ((wrap64 (x4_1 + t173)) : Int).toNat)] (fun _ => True) (fun _ => False) rfl rfl ?aP (fun _ hk => hk.elim) ?aF ?aO ?aB ?aS ?aL ?_; (case aP => exact rfl); (case aB => exact (beu HB.out)); (case aF => exact (fun _ _ => trivial)); (case aO => exact (ru HO_3.out)); (case aS => exact (below_size (beu HB.out))); (case aL => have := LMc14.out; omega); intro v176 w16 ho hb hg hat; rw [← Ny175.out] at ho; have _ := am (hb); have _ := am (ho); clear HB HO_3; rename_i HB HO177; clear ho hb hg hat))
            go_roundg k1
            case measure => have := HK1.out; omega
            case rel => exact ⟨(y175), (wrap64 (x4_1 + t173)), ap3, H', ⟨by have := HK1.out; omega⟩, ⟨ru HO177.out⟩, ⟨beu HB.out⟩⟩
           ·rw [if_neg c14] at H
            exact absurd H (by simp)
          ·rw [if_neg c13] at H
           exact absurd H (by simp)
         ·rw [if_neg c12] at H
          exact absurd H (by simp)
        ·rw [if_neg c11] at H
         exact absurd H (by simp)
      ·replace c8 := Bool.eq_false_iff.mpr c8
       subst c8
       have H1 : (some ([] : List ByteArray)) = some r := by rw [if_neg (show ¬ (false = true) by decide)] at H; exact H
       clear H; have H := H1; clear H1; obtain rfl := Option.some.inj H; simp only [Option.some.injEq, Prod.mk.injEq] at H; obtain ⟨rfl⟩ := H
       go_wp2_with (first | ((with_reducible refine gate_callee (f := 45) rfl ?_); refine goesL_ (some 15) rfl rfl Tryd.func45 (by kernel_rfl) rfl #[.string a0, .int .i64 x4_1] rfl ap1 ?_; (with_reducible refine (packhorseref01_sign.calls k1 a0 x4_1 t173 false _ A5.out).mono ?_); rintro e w' ⟨rfl, ⟨nd, rfl⟩⟩; refine ⟨_, rfl, ?_⟩; obtain ⟨Ao17, co17, eo17⟩ := Kd.R_slice HO_3.out; subst eo17))
       go_ret
       exact ⟨_, ap4, by first | exact Kd.R_nil _ _ _ _ _ | exact Kd.N_nil _ _ _ _ _ | exact Kd.V_nil _ _ _ _ _ | exact Kd.Q_nil _ _ _ _ _ | exact Kd.S_nil _ _ _ _ _, beu HB.out⟩
     ·rw [if_neg c7] at H
      have c7b0 : ((x3_1.length : Int) == 0) = false := beq_eq_false_iff_ne.mpr c7; have c7b1 : ((x3_1.length : Int) != 0) = true := bne_iff_ne.mpr c7
      have c7b2 : ¬ (x3_1 = []) := fun h_ => c7 (by rw [h_]; rfl)
      by_cases c18 : (x3_1.length : Int) = 16
      ·rw [if_pos c18] at H
       have c18b0 : ((x3_1.length : Int) == 16) = true := beq_iff_eq.mpr c18; have c18b1 : ((x3_1.length : Int) != 16) = false := bne_eq_false_iff_eq.mpr c18; clear c18; obtain rfl := Option.some.inj H; simp only [Option.some.injEq, Prod.mk.injEq] at H; obtain ⟨rfl⟩ := H
       go_wp2_with (first | ((with_reducible refine gate_callee (f := 45) rfl ?_); refine goesL_ (some 15) rfl rfl Tryd.func45 (by kernel_rfl) rfl #[.string a0, .int .i64 x4_1] rfl ap1 ?_; (with_reducible refine (packhorseref01_sign.calls k1 a0 x4_1 t173 t174 _ A5.out).mono ?_); rintro e w' ⟨rfl, ⟨nd, rfl⟩⟩; refine ⟨_, rfl, ?_⟩; obtain ⟨Ao19, co19, eo19⟩ := Kd.R_slice HO_3.out; subst eo19))
       go_ret
       exact ⟨_, ap4, by first | exact Kd.R_nil _ _ _ _ _ | exact Kd.N_nil _ _ _ _ _ | exact Kd.V_nil _ _ _ _ _ | exact Kd.Q_nil _ _ _ _ _ | exact Kd.S_nil _ _ _ _ _, beu HB.out⟩
      ·rw [if_neg c18] at H
       have c18b0 : ((x3_1.length : Int) == 16) = false := beq_eq_false_iff_ne.mpr c18; have c18b1 : ((x3_1.length : Int) != 16) = true := bne_iff_ne.mpr c18
       by_cases c20 : 0 ≤ x4_1
       ·rw [if_pos c20] at H
        have c20b0 := eq_true c20; have c20b1 : decide (0 ≤ x4_1) = true := decide_eq_true c20; clear c20
        by_cases c21 : x4_1 ≤ (wrap64 (x4_1 + t173))
        ·rw [if_pos c21] at H
         have c21b0 := eq_true c21; have c21b1 : decide (x4_1 ≤ (wrap64 (x4_1 + t173))) = true := decide_eq_true c21
         by_cases c22 : (wrap64 (x4_1 + t173)) ≤ (a0.size : Int)
         ·rw [if_pos c22] at H
          have c22b0 := eq_true c22; have c22b1 : decide ((wrap64 (x4_1 + t173)) ≤ (a0.size : Int)) = true := decide_eq_true c22
          by_cases c23 : x3_1.length < 8796093022208
          ·rw [if_pos c23] at H
           have LMc23 := am c23; clear c23; obtain ⟨y178, hy178⟩ : ∃ y_ : List ByteArray, y_ = (x3_1 ++ [a0.extract (x4_1 : Int).toNat ((wrap64 (x4_1 + t173)) : Int).toNat]) := ⟨_, rfl⟩
           replace H : (packhorseref01_Signs.l0 k1 a0 y178 (wrap64 (x4_1 + t173))) = some r := by first | (rw [hy178]; with_reducible exact H) | (have H2_ := (Option.bind_some _ _).symm.trans H; rw [hy178]; with_reducible exact H2_) | (have H2_ := (Option.bind_some _ _).symm.trans H; with_reducible exact H2_) | with_reducible exact H | (rw [hy178]; exact H) | exact H
           have Ny178 := am hy178; clear hy178; have H' := am H; clear H
           go_wp2_with (first | ((with_reducible refine gate_callee (f := 45) rfl ?_); refine goesL_ (some 15) rfl rfl Tryd.func45 (by kernel_rfl) rfl #[.string a0, .int .i64 x4_1] rfl ap1 ?_; (with_reducible refine (packhorseref01_sign.calls k1 a0 x4_1 t173 t174 _ A5.out).mono ?_); rintro e w' ⟨rfl, ⟨nd, rfl⟩⟩; refine ⟨_, rfl, ?_⟩; obtain ⟨Ao24, co24, eo24⟩ := Kd.R_slice HO_3.out; subst eo24) | ((with_reducible refine gate_builtin (b := .append) (xs := #[.tmp 34, .tmp 41]) rfl ?_); (try (refine gate_guard (by rfl) ?_; dsimp only)); at_builtin; refine Kd.R_append Kd.string (w0 := w) w.heap.size rfl (.tmp 34) (.tmp 41) 54 9 (.string ⟨#[]⟩) 16 rfl Tryd.underlying54 info9 rfl (by decide) (by omega) (.slice Ao24 x3_1.length co24) x3_1 (a0.extract (x4_1 : Int).toNat ((wrap64 (x4_1 + t173)) : Int).toNat) [.string (a0.extract (x4_1 : Int).toNat ((wrap64 (x4_1 + t173)) : Int).toNat)] (fun _ => True) (fun _ => False) rfl rfl ?aP (fun _ hk => hk.elim) ?aF ?aO ?aB ?aS ?aL ?_; (case aP => exact rfl); (case aB => exact (beu HB.out)); (case aF => exact (fun _ _ => trivial)); (case aO => exact (ru HO_3.out)); (case aS => exact (below_size (beu HB.out))); (case aL => have := LMc23.out; omega); intro v179 w25 ho hb hg hat; rw [← Ny178.out] at ho; have _ := am (hb); have _ := am (ho); clear HB HO_3; rename_i HB HO180; clear ho hb hg hat))
           go_roundg k1
           case measure => have := HK1.out; omega
           case rel => exact ⟨(y178), (wrap64 (x4_1 + t173)), ap3, H', ⟨by have := HK1.out; omega⟩, ⟨ru HO180.out⟩, ⟨beu HB.out⟩⟩
          ·rw [if_neg c23] at H
           exact absurd H (by simp)
         ·rw [if_neg c22] at H
          exact absurd H (by simp)
        ·rw [if_neg c21] at H
         exact absurd H (by simp)
       ·rw [if_neg c20] at H
        exact absurd H (by simp)
   ·rw [if_neg c4] at H
    have c4b0 : decide (x4_1 < (a0.size : Int)) = false := decide_eq_false c4; clear c4; obtain rfl := Option.some.inj H; simp only [Option.some.injEq, Prod.mk.injEq] at H; obtain ⟨rfl⟩ := H
    go_wp2
    go_ret
    exact ⟨_, ap4, ru HO_3.out, beu HB.out⟩
def packhorseref01_Right.f (k : Nat) (a0 : ByteArray) : Option (Bool) := (packhorseref01_Signs.f k a0).bind fun t181 => (some (decide ((t181.length : Int) > 0)))
set_option maxHeartbeats 8000000 in
set_option maxRecDepth 100000 in
theorem packhorseref01_Right.calls (k : Nat) (a0 : ByteArray) (r : Bool) (w : World) (h : packhorseref01_Right.f k a0 = some r) :
  Calls Tryd.prog 29 #[.string a0] w fun e w' => e = .returned (.bool r) ∧ Below w.heap.size w w' := by
 have HB := am (Below.refl w.heap.size w); have H : ((packhorseref01_Signs.f k a0).bind fun t181 => (some (decide ((t181.length : Int) > 0)))) = some r := h; clear h; replace H := obm H; obtain ⟨t181, A20, H⟩ := H; replace H : (some (decide ((t181.length : Int) > 0))) = some r := H; have A2 := am A20; clear A20; obtain rfl := Option.some.inj H; simp only [Option.some.injEq, Prod.mk.injEq] at H; obtain ⟨rfl⟩ := H
 go_enter Tryd.func29, Tryd.ntmps29
 go_wp2_with (first | ((with_reducible refine gate_callee (f := 41) rfl ?_); refine goesL_ (some 4) rfl rfl Tryd.func41 (by kernel_rfl) rfl #[.string a0] rfl ap1 ?_; (with_reducible refine (packhorseref01_Signs.calls k a0 t181 _ A2.out).mono ?_); rintro e w3 ⟨v182, rfl, ho0, hb⟩; refine ⟨_, rfl, ?_⟩; have _ := am (Kd.R_lower ho0 (below_size (beu HB.out))); have _ := am (below_step (beu HB.out) hb); clear HB; rename_i HO183 HB; (try clear hb); (try clear ho0); obtain ⟨Ao4, co4, eo4⟩ := Kd.R_slice HO183.out; subst eo4))
 go_ret
 exact ⟨ap4, beu HB.out⟩
end Go.Proofs.YtalcopjlofbfaaaDoor.PAll
