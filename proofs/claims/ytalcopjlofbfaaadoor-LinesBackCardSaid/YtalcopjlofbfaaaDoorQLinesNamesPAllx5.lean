
import Derived.Test.YtalcopjlofbfaaaDoorQLinesNamesPAllx0
import Derived.Test.YtalcopjlofbfaaaDoorQLinesNamesPAllx2
import Derived.Test.YtalcopjlofbfaaaDoorQLinesNamesPAllx3
import Derived.Test.YtalcopjlofbfaaaDoorQLinesNamesPAllx4
import Derived.Test.YtalcopjlofbfaaaDoorQLinesNamesTake
namespace Go.Proofs.YtalcopjlofbfaaaDoor.PAll
open Go.RowKit Go.Proofs.YtalcopjlofbfaaaDoorW.PrintWords Go.Proofs.YtalcopjlofbfaaaDoorW.PrintLast Go.Proofs.YtalcopjlofbfaaaDoorW.PrintMore
attribute [local go_sem] max2_int min2_int max_two min_two
set_option linter.unusedVariables false
set_option linter.unusedSimpArgs false
mutual
def packhorselaw04_LinesBack.l0 : Nat → List (S37) → Int → Int → List (S37) → Int → Option (Bool)
 | 0, _, _, _, _, _ => none
 | k + 1, x0, x1, x2, x7, x8 => if x8 ≥ 0 then (if 0 ≤ x8 then (if x8 < (x0.length : Int) then ((some (([(⟨(rd_T37 x0 x8).f0, (rd_T37 x0 x8).f1, (rd_T37 x0 x8).f2⟩ : S37)] : List (S37)) : List (S37))).bind fun y263 => (if x7.length + y263.length < 4398046511104 then (packhorselaw04_LinesBack.l0 k x0 x1 x2 (x7 ++ y263) (wrap64 (x8 - 1))) else (none))) else (none)) else (none)) else ((lines_Merge.f k x0).bind fun bt269 => ((lines_Merge.f k x7).bind fun bt273 => (if bt269.2 = bt273.2 then ((packhorseref04_Same.f k bt269.1 bt273.1).bind fun t277 => (packhorselaw04_LinesBack.j1 k x1 x2 bt269.1 bt269.2 (!t277))) else (packhorselaw04_LinesBack.j1 k x1 x2 bt269.1 bt269.2 true))))
def packhorselaw04_LinesBack.j1 : Nat → Int → Int → List (S37) → Int → Bool → Option (Bool)
 | 0, _, _, _, _, _ => none
 | k + 1, x1, x2, x9, x10, x56 => if x56 = true then (some false) else (if x10 = 0 then (if 0 ≤ (mx 0 (mn x1 (wrap64 ((x9.length : Int) - 1)))) then (if (mx 0 (mn x1 (wrap64 ((x9.length : Int) - 1)))) < (x9.length : Int) then ((lines_Take.f k x9 ((rd_T37 x9 (mx 0 (mn x1 (wrap64 ((x9.length : Int) - 1))))).f0) x2).bind fun bt280 => (if bt280.2 = 0 then ((some (([] : List (S37)) : List (S37))).bind fun y284 => (if y284.length + bt280.1.length < 4398046511104 then ((some (y284 ++ bt280.1 : List (S37))).bind fun y287 => ((some (([(⟨(rd_T37 x9 (mx 0 (mn x1 (wrap64 ((x9.length : Int) - 1))))).f0, x2, (rd_T37 x9 (mx 0 (mn x1 (wrap64 ((x9.length : Int) - 1))))).f2⟩ : S37)] : List (S37)) : List (S37))).bind fun y290 => (if y287.length + y290.length < 4398046511104 then ((lines_Merge.f k (y287 ++ y290)).bind fun bt296 => (if bt296.2 = 0 then ((packhorseref04_Same.f k bt296.1 x9).bind fun t300 => (if t300 = true then ((lines_Pieces.f k bt280.1).bind fun t301 => ((lines_Pieces.f k x9).bind fun t302 => (if (wrap64 (t301 + x2)) = t302 then ((lines_Weight.f k bt280.1).bind fun t303 => ((lines_Weight.f k x9).bind fun t304 => (some ((wrap64 (t303 + (wrap64 (x2 * ((rd_T37 x9 (mx 0 (mn x1 (wrap64 ((x9.length : Int) - 1))))).f2))))) == t304)))) else (some false)))) else (some false))) else (some false))) else (none)))) else (none))) else (if (bt280.1.length : Int) = 0 then (if x2 < 1 then (some true) else (if x2 > ((rd_T37 x9 (mx 0 (mn x1 (wrap64 ((x9.length : Int) - 1))))).f1) then (some true) else (if (x9.length : Int) = 1 then (some (x2 == ((rd_T37 x9 (mx 0 (mn x1 (wrap64 ((x9.length : Int) - 1))))).f1))) else (some false)))) else (some false)))) else (none)) else (none)) else (some ((x9.length : Int) == 0)))
end
def packhorselaw04_LinesBack.f (k : Nat) (l0 : List (S37)) (a1 : Int) (a2 : Int) : Option (Bool) := (packhorselaw04_linesAlive.f k).bind fun t258 => (if t258 = true then (if (l0.length : Int) > 50 then (some true) else (packhorselaw04_LinesBack.l0 k l0 a1 a2 (([] : List (S37))) (wrap64 ((l0.length : Int) - 1)))) else (some false))
def packhorselaw04_LinesBack.T21 : Bool × List (List Nat × List Nat) := (true, [([], []), ([], []), ([0, 1], [0, 1]), ([], []), ([3], [3]), ([2, 4, 2], [2, 4]), ([5, 5], [5]), ([6], [6]), ([7], [7]), ([7], [7]), ([8, 6, 0, 1, 2, 3, 4, 5, 6, 7, 8], [8]), ([9, 10, 0, 1, 2, 3, 4, 5, 6, 7, 8, 9, 10], [9])])
def packhorselaw04_LinesBack.B21 : List Nat := [0, 0, 3, 0, 8, 31, 63, 127, 255, 255, 511, 2047]
theorem packhorselaw04_LinesBack.tab21 : rtab .any (opsOf Tryd.f8 21) = packhorselaw04_LinesBack.T21 := by kernel_rfl
theorem packhorselaw04_LinesBack.bits21 : waitsOk packhorselaw04_LinesBack.T21.2 packhorselaw04_LinesBack.B21 = true := by kernel_rfl
def packhorselaw04_LinesBack.T22 : Bool × List (List Nat × List Nat) := (true, [([], []), ([0], [0]), ([1], [1]), ([2], [2]), ([2], [2]), ([3, 4, 2, 2], [2, 3, 4]), ([2, 5], [2, 5]), ([6, 5], [6]), ([7], [7]), ([8, 7, 7], [7, 8]), ([7], [7]), ([9, 10, 7], [7, 9, 10]), ([7], [7]), ([12, 9, 7], [7, 12]), ([11, 13, 7], [7, 11, 13]), ([7, 14], [7, 14]), ([15, 13], [15]), ([16], [16]), ([17, 16, 16], [16, 17]), ([16], [16]), ([16], [16]), ([20, 16], [16, 20]), ([19, 21, 16], [16, 19, 21]), ([18, 22, 16], [16, 18, 22]), ([16], [16]), ([24, 18, 16], [16, 24]), ([23, 25, 16], [16, 23, 25]), ([16, 26], [16, 26]), ([27, 25, 0, 1, 2, 3, 4, 5, 6, 7, 8, 9, 10, 11, 12, 13, 14, 15, 16, 17, 18, 19, 20, 21, 22, 23, 24, 25, 26, 27], [27])])
def packhorselaw04_LinesBack.B22 : List Nat := [0, 1, 3, 7, 7, 31, 63, 127, 255, 511, 255, 2047, 255, 5119, 16383, 32767, 65535, 131071, 262143, 131071, 131071, 1179647, 3801087, 8388607, 131071, 17301503, 67108863, 134217727, 268435455]
theorem packhorselaw04_LinesBack.tab22 : rtab .any (opsOf Tryd.f8 22) = packhorselaw04_LinesBack.T22 := by kernel_rfl
theorem packhorselaw04_LinesBack.bits22 : waitsOk packhorselaw04_LinesBack.T22.2 packhorselaw04_LinesBack.B22 = true := by kernel_rfl
set_option maxHeartbeats 8000000 in
set_option maxRecDepth 100000 in
theorem packhorselaw04_LinesBack.calls (k : Nat) (A0 : Option Addr) (c0 : Nat) (l0 : List (S37)) (a1 : Int) (a2 : Int) (r : Bool) (w : World) (hr0 : Kd.C k37 w A0 l0.length l0) (hc0 : l0.length ≤ c0) (hT : Tabs w) (h : packhorselaw04_LinesBack.f k l0 a1 a2 = some r) (hr_ : r = true) :
  Calls Tryd.prog 8 #[.slice A0 l0.length c0, .int .i64 a1, .int .i64 a2] w fun e w' => e = .returned (.bool r) ∧ Below w.heap.size w w' := by
 have hu37 := Tryd.underlying37; have HR0 := am hr0; have HC0 := am hc0; clear hr0 hc0; have HRT := am hr_; clear hr_; have HT := am hT; clear hT; have HB := am (Below.refl w.heap.size w); have H : ((packhorselaw04_linesAlive.f k).bind fun t258 => (if t258 = true then (if (l0.length : Int) > 50 then (some true) else (packhorselaw04_LinesBack.l0 k l0 a1 a2 (([] : List (S37))) (wrap64 ((l0.length : Int) - 1)))) else (some false))) = some r := h; clear h; replace H := obm H; obtain ⟨t258, A40, H⟩ := H; replace H : (if t258 = true then (if (l0.length : Int) > 50 then (some true) else (packhorselaw04_LinesBack.l0 k l0 a1 a2 (([] : List (S37))) (wrap64 ((l0.length : Int) - 1)))) else (some false)) = some r := H; have A4 := am A40; clear A40
 by_cases c5 : t258 = true
 ·subst c5
  have H1 : (if (l0.length : Int) > 50 then (some true) else (packhorselaw04_LinesBack.l0 k l0 a1 a2 (([] : List (S37))) (wrap64 ((l0.length : Int) - 1)))) = some r := by rw [if_pos rfl] at H; exact H
  clear H; have H := H1; clear H1
  by_cases c6 : (l0.length : Int) > 50
  ·rw [if_pos c6] at H
   have c6b0 : decide (50 < (l0.length : Int)) = true := decide_eq_true c6; have c6b1 : decide (50 < l0.length) = true := decide_eq_true (by omega); clear c6; obtain rfl := Option.some.inj H; simp only [Option.some.injEq, Prod.mk.injEq] at H; obtain ⟨rfl⟩ := H
   go_enter Tryd.func8, Tryd.ntmps8
   go_wp2_with (first | ((with_reducible refine gate_callee (f := 10) rfl ?_); refine goesL_ (some 18) rfl rfl Tryd.func10 (by kernel_rfl) rfl #[] rfl ap1 ?_; (with_reducible refine (packhorselaw04_linesAlive.calls k  true _ ?side1 A4.out rfl).mono ?_); (case side1 => first | (with_reducible exact HT.out) | exact Tabs.below HT.out (beu HB.out)); rintro e w7 ⟨rfl, hb⟩; refine ⟨_, rfl, ?_⟩; have _ := am (below_step (beu HB.out) hb); clear HB; rename_i HB; (try clear hb)))
   go_ret
   exact ⟨ap4, beu HB.out⟩
  ·rw [if_neg c6] at H
   have c6b0 : decide (50 < (l0.length : Int)) = false := decide_eq_false c6; have c6b1 : decide (50 < l0.length) = false := decide_eq_false (by omega); clear c6; obtain ⟨y259, hy259⟩ : ∃ y_ : List (S37), y_ = (([] : List (S37))) := ⟨_, rfl⟩
   replace H : (packhorselaw04_LinesBack.l0 k l0 a1 a2 y259 (wrap64 ((l0.length : Int) - 1))) = some r := by first | (rw [hy259]; with_reducible exact H) | (have H2_ := (Option.bind_some _ _).symm.trans H; rw [hy259]; with_reducible exact H2_) | (have H2_ := (Option.bind_some _ _).symm.trans H; with_reducible exact H2_) | with_reducible exact H | (rw [hy259]; exact H) | exact H
   have Ny259 := am hy259; clear hy259; have H' := am H; clear H
   go_enter Tryd.func8, Tryd.ntmps8
   go_wp2_with (first | ((with_reducible refine gate_callee (f := 10) rfl ?_); refine goesL_ (some 18) rfl rfl Tryd.func10 (by kernel_rfl) rfl #[] rfl ap1 ?_; (with_reducible refine (packhorselaw04_linesAlive.calls k  true _ ?side1 A4.out rfl).mono ?_); (case side1 => first | (with_reducible exact HT.out) | exact Tabs.below HT.out (beu HB.out)); rintro e w8 ⟨rfl, hb⟩; refine ⟨_, rfl, ?_⟩; have _ := am (below_step (beu HB.out) hb); clear HB; rename_i HB; (try clear hb)) | ((with_reducible refine gate_dst (N := 23) rfl ?_); (try (refine gate_guard (by rfl) ?_; dsimp only)); refine Kd.R_lit k37 _ 37 ?hg (N := 23) ?hd (xs := ([] : List (S37))) (inner := []) (ok := fun _ => True) (okp := fun _ => True) ?hr ?hp (fun _ hk => hk) trivial (Below.refl _ _) (Nat.le_refl _) (by simp) ?_; (case hd => rfl); (case hg => rfl); (case hr => first | (go_simp; done) | (go_simp; rfl)); (case hp => exact (Reps.none _ _)); intro v260 w9 ho10 hb hg_ hnew_; clear hg_ hnew_; (first | rw [← Ny259.out] at ho10 | (simp only [Int.reduceToNat] at ho10; rw [← Ny259.out] at ho10)); have _ := am (Kd.R_lower ho10 (below_size (beu HB.out))); have _ := am (below_step (beu HB.out) hb); clear HB; rename_i HO261 HB; clear hb ho10))
   go_loopg [7, 8] k (fun kq v7 v8 w' => ∃ (x7_1 : List (S37)) (x8_1 : Int), v8 = .int .i64 x8_1 ∧ Aside0 (packhorselaw04_LinesBack.l0 kq l0 a1 a2 x7_1 x8_1 = some r) ∧ Aside0 (kq ≤ k) ∧ Aside0 (Kd.R k37 37 w' w.heap.size (fun _ => True) v7 x7_1) ∧ Aside0 (Below w.heap.size w w'))
   case atStart => exact ⟨(y259), (wrap64 ((l0.length : Int) - 1)), ap3, H', ⟨Nat.le_refl _⟩, ⟨ru HO261.out⟩, ⟨beu HB.out⟩⟩
   case round =>
    clear H'; (try clear c1); (try clear p2); (try clear c5); (try clear c6); (try clear c6b0); (try clear c6b1); (try clear p6); (try clear c8); (try clear c10); obtain ⟨x7_1, x8_1, rfl, HA, HK1, HO_7, HB⟩ := hrel
    cases gk with
    | zero => exact absurd HA.out (by simp [packhorselaw04_LinesBack.l0])
    | succ k1 =>
     have H := HA.out; clear HA; simp only [packhorselaw04_LinesBack.l0] at H
     by_cases c11 : x8_1 ≥ 0
     ·rw [if_pos c11] at H
      have c11b0 : decide (0 ≤ x8_1) = true := decide_eq_true c11; clear c11
      by_cases c12 : 0 ≤ x8_1
      ·rw [if_pos c12] at H
       have c12b0 : decide (0 ≤ x8_1) = true := decide_eq_true c12; clear c12
       by_cases c13 : x8_1 < (l0.length : Int)
       ·rw [if_pos c13] at H
        have c13b0 : decide (x8_1 < (l0.length : Int)) = true := decide_eq_true c13; clear c13; obtain ⟨y263, hy263⟩ : ∃ y_ : List (S37), y_ = (([(⟨(rd_T37 l0 x8_1).f0, (rd_T37 l0 x8_1).f1, (rd_T37 l0 x8_1).f2⟩ : S37)] : List (S37))) := ⟨_, rfl⟩
        replace H : (if x7_1.length + y263.length < 4398046511104 then (packhorselaw04_LinesBack.l0 k1 l0 a1 a2 (x7_1 ++ y263) (wrap64 (x8_1 - 1))) else (none)) = some r := by first | (rw [hy263]; with_reducible exact H) | (have H2_ := (Option.bind_some _ _).symm.trans H; rw [hy263]; with_reducible exact H2_) | (have H2_ := (Option.bind_some _ _).symm.trans H; with_reducible exact H2_) | with_reducible exact H | (rw [hy263]; exact H) | exact H
        have Ny263 := am hy263; clear hy263
        by_cases c14 : x7_1.length + y263.length < 4398046511104
        ·rw [if_pos c14] at H
         have LMc14 := am c14; clear c14; obtain ⟨y266, hy266⟩ : ∃ y_ : List (S37), y_ = (x7_1 ++ y263) := ⟨_, rfl⟩
         replace H : (packhorselaw04_LinesBack.l0 k1 l0 a1 a2 y266 (wrap64 (x8_1 - 1))) = some r := by first | (rw [hy266]; with_reducible exact H) | (have H2_ := (Option.bind_some _ _).symm.trans H; rw [hy266]; with_reducible exact H2_) | (have H2_ := (Option.bind_some _ _).symm.trans H; with_reducible exact H2_) | with_reducible exact H | (rw [hy266]; exact H) | exact H
         have Ny266 := am hy266; clear hy266; have H' := am H; clear H; have p262 : 0 ≤ (x8_1 : Int) := of_decide_eq_true ap2; have q262 : x8_1 < (l0.length : Int) := of_decide_eq_true ap2; obtain ⟨ad262, e262, hx262_0, hx262_1, hx262_2⟩ := at_T37 HR0.out x8_1 p262 q262
         cases e262
         replace hx262_0 := (HB.out.cell (World.block_lt_of_cell? w _ hx262_0)).trans hx262_0; replace hx262_1 := (HB.out.cell (World.block_lt_of_cell? w _ hx262_1)).trans hx262_1; replace hx262_2 := (HB.out.cell (World.block_lt_of_cell? w _ hx262_2)).trans hx262_2; replace p262 := eq_true p262; replace q262 := eq_true q262
         go_wp2_with (first | ((with_reducible refine gate_dst (N := 36) rfl ?_); (try (refine gate_guard (by rfl) ?_; dsimp only)); refine Kd.R_lit k37 _ 37 ?hg (N := 36) ?hd (xs := ([(⟨(rd_T37 l0 x8_1).f0, (rd_T37 l0 x8_1).f1, (rd_T37 l0 x8_1).f2⟩ : S37)] : List (S37))) (inner := [.string ((rd_T37 l0 x8_1).f0), .int .i64 ((rd_T37 l0 x8_1).f1), .int .i64 ((rd_T37 l0 x8_1).f2)]) (ok := fun _ => True) (okp := fun _ => True) ?hr ?hp (fun _ hk => hk) trivial (Below.refl _ _) (Nat.le_refl _) (by simp) ?_; (case hd => rfl); (case hg => rfl); (case hr => first | (go_simp; done) | (go_simp; rfl)); (case hp => exact (Reps.c3 (show Kd.M k37 _ _ _ (⟨(rd_T37 l0 x8_1).f0, (rd_T37 l0 x8_1).f1, (rd_T37 l0 x8_1).f2⟩ : S37) [.string ((rd_T37 l0 x8_1).f0), .int .i64 ((rd_T37 l0 x8_1).f1), .int .i64 ((rd_T37 l0 x8_1).f2)] from (k37_mkM _ _ _ (⟨(rd_T37 l0 x8_1).f0, (rd_T37 l0 x8_1).f1, (rd_T37 l0 x8_1).f2⟩ : S37) )) (Reps.none _ _))); intro v264 w15 ho16 hb hg_ hnew_; clear hg_ hnew_; (first | rw [← Ny263.out] at ho16 | (simp only [Int.reduceToNat] at ho16; rw [← Ny263.out] at ho16)); have _ := am (Kd.R_elder' (ru HO_7.out) (Kd.R_base ho16) hb); have _ := am (Kd.R_lower (Kd.R_new' ho16 (Kd.R_lt (ru HO_7.out))) (below_size (beu HB.out))); have _ := am (below_step (beu HB.out) hb); clear HO_7 HB; rename_i HO_7 HO265 HB; clear hb ho16; obtain ⟨Ao18, co18, eo18⟩ := Kd.R_slice HO265.out; subst eo18) | ((with_reducible refine gate_builtin (b := .append) (xs := #[.tmp 31, .tmp 36]) rfl ?_); (try (refine gate_guard (by rfl) ?_; dsimp only)); at_builtin; refine Kd.R_append_rows k37 (w0 := w) w.heap.size rfl (.tmp 31) (.tmp 36) 22 37 (.agg #[(.string ⟨#[]⟩), (.int .i64 0), (.int .i64 0)]) 32 rfl Tryd.underlying22 info37 rfl (by decide) (by omega) u7 x7_1 y263 _ _ _ (fun k_ => some k_ ≠ (.slice Ao18 y263.length co18 : Value).ownBlock) (fun _ => False) rfl rfl ?aO ?aR (fun _ _ h => h) (fun _ h => h.elim) ?aF ?aB ?aS ?aL ?_; (case aR => exact cu (Kd.R_reads' HO265.out).2.2); (case aB => exact (beu HB.out)); (case aF => exact (fun k_ hk => Kd.fresh' (Kd.R_lt (ru HO265.out)) k_ hk)); (case aO => exact (ru (Kd.R_mono HO_7.out (fun _ hk => by first | exact hk.2 | exact trivial)))); (case aS => exact (below_size (beu HB.out))); (case aL => have := LMc14.out; omega); intro v267 w17 ho hb hg hat; rw [← Ny266.out] at ho; have _ := am (Kd.R_after (ok := (fun _ => True)) (ru HO265.out) hg hat); have _ := am (hb); have _ := am (ho); clear HO265 HB HO_7; rename_i HO265 HB HO268; clear ho hb hg hat))
         go_roundg k1
         case measure => have := HK1.out; omega
         case rel => exact ⟨(y266), (wrap64 (x8_1 - 1)), ap3, H', ⟨by have := HK1.out; omega⟩, ⟨ru (Kd.R_mono HO268.out (fun _ hk => trivial))⟩, ⟨beu HB.out⟩⟩
        ·rw [if_neg c14] at H
         exact absurd H (by simp)
       ·rw [if_neg c13] at H
        exact absurd H (by simp)
      ·rw [if_neg c12] at H
       exact absurd H (by simp)
     ·rw [if_neg c11] at H
      have c11b0 : decide (0 ≤ x8_1) = false := decide_eq_false c11; clear c11; replace H := obm H; obtain ⟨⟨t269, t270⟩, A190, H⟩ := H; replace H : ((lines_Merge.f k1 x7_1).bind fun bt273 => (if t270 = bt273.2 then ((packhorseref04_Same.f k1 t269 bt273.1).bind fun t277 => (packhorselaw04_LinesBack.j1 k1 a1 a2 t269 t270 (!t277))) else (packhorselaw04_LinesBack.j1 k1 a1 a2 t269 t270 true))) = some r := H; have A19 := am A190; clear A190; replace H := obm H; obtain ⟨⟨t273, t274⟩, A200, H⟩ := H; replace H : (if t270 = t274 then ((packhorseref04_Same.f k1 t269 t273).bind fun t277 => (packhorselaw04_LinesBack.j1 k1 a1 a2 t269 t270 (!t277))) else (packhorselaw04_LinesBack.j1 k1 a1 a2 t269 t270 true)) = some r := H; have A20 := am A200; clear A200; have HC21 := am H; clear H
      go_upto_region 12 with (first | ((with_reducible refine gate_callee (f := 11) rfl ?_); refine goesL_ (some 40) rfl rfl Tryd.func11 (by kernel_rfl) rfl #[.slice A0 l0.length c0] rfl ap1 ?_; (with_reducible refine (lines_Merge.calls k1 _ _ l0 t269 t270 _ ?side1 ?side2 ?side3 A19.out).mono ?_); (case side1 => exact cu (Kd.C_below HR0.out HB.out)); (case side2 => exact HC0.out); (case side3 => first | (with_reducible exact HT.out) | exact Tabs.below HT.out (beu HB.out)); rintro e w22 ⟨v271, rfl, ho0, hb⟩; refine ⟨_, rfl, ?_⟩; have _ := am (Kd.R_elder' (ru HO_7.out) (Kd.R_base ho0) hb); have _ := am (Kd.R_lower (Kd.R_new' ho0 (Kd.R_lt (ru HO_7.out))) (below_size (beu HB.out))); have _ := am (below_step (beu HB.out) hb); clear HO_7 HB; rename_i HO_7 HO272 HB; (try clear hb); (try clear ho0); obtain ⟨Ao23, co23, eo23⟩ := Kd.R_slice HO_7.out; subst eo23) | ((with_reducible refine gate_callee (f := 11) rfl ?_); refine goesL_ (some 45) rfl rfl Tryd.func11 (by kernel_rfl) rfl #[.slice Ao23 x7_1.length co23] rfl ap1 ?_; (with_reducible refine (lines_Merge.calls k1 _ _ x7_1 t273 t274 _ ?side1 ?side2 ?side3 A20.out).mono ?_); (case side1 => exact cu (Kd.R_reads' HO_7.out).2.2); (case side2 => exact (Kd.R_reads' HO_7.out).2.1); (case side3 => first | (with_reducible exact HT.out) | exact Tabs.below HT.out (beu HB.out)); rintro e w24 ⟨v275, rfl, ho0, hb⟩; refine ⟨_, rfl, ?_⟩; have _ := am (Kd.R_elder' (ru HO_7.out) (Kd.R_base ho0) hb); have _ := am (Kd.R_elder' (ru HO272.out) (Kd.R_base ho0) hb); have _ := am (Kd.R_lower (Kd.R_new' (Kd.R_new' ho0 (Kd.R_lt (ru HO_7.out))) (Kd.R_lt (ru HO272.out))) (below_size (beu HB.out))); have _ := am (below_step (beu HB.out) hb); clear HO_7 HO272 HB; rename_i HO_7 HO272 HO276 HB; (try clear hb); (try clear ho0)))
      (try simp only [Act.put, sA, sB, sC])
      go_cut [56] (fun v56 wc => ∃ (kq : Nat) (x56_20 : Bool), v56 = .bool x56_20 ∧ Aside0 (packhorselaw04_LinesBack.j1 kq a1 a2 t269 t270 x56_20 = some r) ∧ Aside0 (kq ≤ k1) ∧ Aside0 (Kd.R k37 37 wc w.heap.size (fun _ => True) v271 t269) ∧ Aside0 (Below w.heap.size w wc))
      case first =>
       have H := HC21.out; clear HC21
       by_cases c25 : t270 = t274
       ·rw [if_pos c25] at H
        have c25b0 : (t270 == t274) = true := beq_iff_eq.mpr c25; have c25b1 : (t270 != t274) = false := bne_eq_false_iff_eq.mpr c25; clear c25
        (first | rw [c25b0] | (simp only [i64_w, i32_w]; rw [c25b0]) | skip)
        replace H := obm H; obtain ⟨t277, A260, H⟩ := H; replace H : (packhorselaw04_LinesBack.j1 k1 a1 a2 t269 t270 (!t277)) = some r := H; have A26 := am A260; clear A260; have H' := am H; clear H; obtain ⟨Ao27, co27, eo27⟩ := Kd.R_slice HO272.out; subst eo27; obtain ⟨Ao28, co28, eo28⟩ := Kd.R_slice HO276.out; subst eo28
        go_wp2_with (first | (go_at_call 13; (with_reducible refine (packhorseref04_Same.calls k1 _ _ t269 _ _ t273 t277 _ ?side1 ?side2 ?side3 ?side4 A26.out).mono ?_); (case side1 => exact cu (Kd.R_reads' HO272.out).2.2); (case side2 => exact (Kd.R_reads' HO272.out).2.1); (case side3 => exact cu (Kd.R_reads' HO276.out).2.2); (case side4 => exact (Kd.R_reads' HO276.out).2.1); rintro e w' ⟨rfl, ⟨nd, rfl⟩⟩))
        go_meet
        case rel => exact ⟨_, (!t277), ap3, H', ⟨by have := HK1.out; first | omega | exact Nat.le_refl _⟩, ⟨ru (Kd.R_mono HO272.out (fun _ hk => trivial))⟩, ⟨beu HB.out⟩⟩
       ·rw [if_neg c25] at H
        have c25b0 : (t270 == t274) = false := beq_eq_false_iff_ne.mpr c25; have c25b1 : (t270 != t274) = true := bne_iff_ne.mpr c25
        (first | rw [c25b0] | (simp only [i64_w, i32_w]; rw [c25b0]) | skip)
        have H' := am H; clear H
        go_wp2
        go_meet
        case rel => exact ⟨_, (true), ap3, H', ⟨by have := HK1.out; first | omega | exact Nat.le_refl _⟩, ⟨ru (Kd.R_mono HO272.out (fun _ hk => trivial))⟩, ⟨beu HB.out⟩⟩
      case rest =>
       clear HC21; (try clear c1); (try clear c2); (try clear p2); (try clear q2); (try clear hx2); (try clear c3); (try clear c5); (try clear c6); (try clear c6b0); (try clear c6b1); (try clear p6); (try clear c8); (try clear c10); (try clear c11); (try clear c11b0); (try clear c12); (try clear c12b0); (try clear c13); (try clear c13b0); (try clear c14); (try clear c25); (try clear c25b0); (try clear c25b1); (try clear p26); (try clear q26); (try clear hx26); (try clear hx262_0); (try clear hx262_1); (try clear hx262_2); (try clear p2); (try clear p262); (try clear p6); (try clear q262); obtain ⟨kq, x56_20, rfl, HA, HJ20, HO_9, HB⟩ := hcut
       cases kq with
       | zero => exact absurd HA.out (by simp [packhorselaw04_LinesBack.j1])
       | succ kj20 =>
        have H := HA.out; clear HA; simp only [packhorselaw04_LinesBack.j1] at H
        by_cases c29 : x56_20 = true
        ·subst c29
         have H1 : (some false) = some r := by rw [if_pos rfl] at H; exact H
         clear H; have H := H1; clear H1; obtain rfl := Option.some.inj H; exact absurd HRT.out (by decide)
        ·replace c29 := Bool.eq_false_iff.mpr c29
         subst c29
         have H1 : (if t270 = 0 then (if 0 ≤ (mx 0 (mn a1 (wrap64 ((t269.length : Int) - 1)))) then (if (mx 0 (mn a1 (wrap64 ((t269.length : Int) - 1)))) < (t269.length : Int) then ((lines_Take.f kj20 t269 ((rd_T37 t269 (mx 0 (mn a1 (wrap64 ((t269.length : Int) - 1))))).f0) a2).bind fun bt280 => (if bt280.2 = 0 then ((some (([] : List (S37)) : List (S37))).bind fun y284 => (if y284.length + bt280.1.length < 4398046511104 then ((some (y284 ++ bt280.1 : List (S37))).bind fun y287 => ((some (([(⟨(rd_T37 t269 (mx 0 (mn a1 (wrap64 ((t269.length : Int) - 1))))).f0, a2, (rd_T37 t269 (mx 0 (mn a1 (wrap64 ((t269.length : Int) - 1))))).f2⟩ : S37)] : List (S37)) : List (S37))).bind fun y290 => (if y287.length + y290.length < 4398046511104 then ((lines_Merge.f kj20 (y287 ++ y290)).bind fun bt296 => (if bt296.2 = 0 then ((packhorseref04_Same.f kj20 bt296.1 t269).bind fun t300 => (if t300 = true then ((lines_Pieces.f kj20 bt280.1).bind fun t301 => ((lines_Pieces.f kj20 t269).bind fun t302 => (if (wrap64 (t301 + a2)) = t302 then ((lines_Weight.f kj20 bt280.1).bind fun t303 => ((lines_Weight.f kj20 t269).bind fun t304 => (some ((wrap64 (t303 + (wrap64 (a2 * ((rd_T37 t269 (mx 0 (mn a1 (wrap64 ((t269.length : Int) - 1))))).f2))))) == t304)))) else (some false)))) else (some false))) else (some false))) else (none)))) else (none))) else (if (bt280.1.length : Int) = 0 then (if a2 < 1 then (some true) else (if a2 > ((rd_T37 t269 (mx 0 (mn a1 (wrap64 ((t269.length : Int) - 1))))).f1) then (some true) else (if (t269.length : Int) = 1 then (some (a2 == ((rd_T37 t269 (mx 0 (mn a1 (wrap64 ((t269.length : Int) - 1))))).f1))) else (some false)))) else (some false)))) else (none)) else (none)) else (some ((t269.length : Int) == 0))) = some r := by rw [if_neg (show ¬ (false = true) by decide)] at H; exact H
         clear H; have H := H1; clear H1
         by_cases c30 : t270 = 0
         ·rw [if_pos c30] at H
          have c30b0 : (t270 == 0) = true := beq_iff_eq.mpr c30; have c30b1 : (t270 != 0) = false := bne_eq_false_iff_eq.mpr c30; clear c30; obtain ⟨ji31, hji31⟩ : ∃ j_ : Int, (mn a1 (wrap64 ((t269.length : Int) - 1))) = j_ := ⟨_, rfl⟩
          replace H : (if 0 ≤ (mx 0 (ji31)) then (if (mx 0 (ji31)) < (t269.length : Int) then ((lines_Take.f kj20 t269 ((rd_T37 t269 (mx 0 (ji31))).f0) a2).bind fun bt280 => (if bt280.2 = 0 then ((some (([] : List (S37)) : List (S37))).bind fun y284 => (if y284.length + bt280.1.length < 4398046511104 then ((some (y284 ++ bt280.1 : List (S37))).bind fun y287 => ((some (([(⟨(rd_T37 t269 (mx 0 (ji31))).f0, a2, (rd_T37 t269 (mx 0 (ji31))).f2⟩ : S37)] : List (S37)) : List (S37))).bind fun y290 => (if y287.length + y290.length < 4398046511104 then ((lines_Merge.f kj20 (y287 ++ y290)).bind fun bt296 => (if bt296.2 = 0 then ((packhorseref04_Same.f kj20 bt296.1 t269).bind fun t300 => (if t300 = true then ((lines_Pieces.f kj20 bt280.1).bind fun t301 => ((lines_Pieces.f kj20 t269).bind fun t302 => (if (wrap64 (t301 + a2)) = t302 then ((lines_Weight.f kj20 bt280.1).bind fun t303 => ((lines_Weight.f kj20 t269).bind fun t304 => (some ((wrap64 (t303 + (wrap64 (a2 * ((rd_T37 t269 (mx 0 (ji31))).f2))))) == t304)))) else (some false)))) else (some false))) else (some false))) else (none)))) else (none))) else (if (bt280.1.length : Int) = 0 then (if a2 < 1 then (some true) else (if a2 > ((rd_T37 t269 (mx 0 (ji31))).f1) then (some true) else (if (t269.length : Int) = 1 then (some (a2 == ((rd_T37 t269 (mx 0 (ji31))).f1))) else (some false)))) else (some false)))) else (none)) else (none)) = some r := by first | (rw [hji31] at H; exact H) | (simp only [hji31] at H ⊢; exact H)
          have hji31_ : (if (wrap64 ((t269.length : Int) - 1)) < a1 then (wrap64 ((t269.length : Int) - 1)) else a1) = ji31 := hji31; obtain ⟨ji32, hji32⟩ : ∃ j_ : Int, (mx 0 (ji31)) = j_ := ⟨_, rfl⟩
          replace H : (if 0 ≤ (ji32) then (if (ji32) < (t269.length : Int) then ((lines_Take.f kj20 t269 ((rd_T37 t269 (ji32)).f0) a2).bind fun bt280 => (if bt280.2 = 0 then ((some (([] : List (S37)) : List (S37))).bind fun y284 => (if y284.length + bt280.1.length < 4398046511104 then ((some (y284 ++ bt280.1 : List (S37))).bind fun y287 => ((some (([(⟨(rd_T37 t269 (ji32)).f0, a2, (rd_T37 t269 (ji32)).f2⟩ : S37)] : List (S37)) : List (S37))).bind fun y290 => (if y287.length + y290.length < 4398046511104 then ((lines_Merge.f kj20 (y287 ++ y290)).bind fun bt296 => (if bt296.2 = 0 then ((packhorseref04_Same.f kj20 bt296.1 t269).bind fun t300 => (if t300 = true then ((lines_Pieces.f kj20 bt280.1).bind fun t301 => ((lines_Pieces.f kj20 t269).bind fun t302 => (if (wrap64 (t301 + a2)) = t302 then ((lines_Weight.f kj20 bt280.1).bind fun t303 => ((lines_Weight.f kj20 t269).bind fun t304 => (some ((wrap64 (t303 + (wrap64 (a2 * ((rd_T37 t269 (ji32)).f2))))) == t304)))) else (some false)))) else (some false))) else (some false))) else (none)))) else (none))) else (if (bt280.1.length : Int) = 0 then (if a2 < 1 then (some true) else (if a2 > ((rd_T37 t269 (ji32)).f1) then (some true) else (if (t269.length : Int) = 1 then (some (a2 == ((rd_T37 t269 (ji32)).f1))) else (some false)))) else (some false)))) else (none)) else (none)) = some r := by first | (rw [hji32] at H; exact H) | (simp only [hji32] at H ⊢; exact H)
          have hji32_ : (if 0 < (ji31) then (ji31) else 0) = ji32 := hji32
          by_cases c33 : 0 ≤ (ji32)
          ·rw [if_pos c33] at H
           have c33b0 : decide (0 ≤ (ji32)) = true := decide_eq_true c33; clear c33
           by_cases c34 : (ji32) < (t269.length : Int)
           ·rw [if_pos c34] at H
            have c34b0 : decide ((ji32) < (t269.length : Int)) = true := decide_eq_true c34; clear c34; replace H := obm H; obtain ⟨⟨t280, t281⟩, A350, H⟩ := H; replace H : (if t281 = 0 then ((some (([] : List (S37)) : List (S37))).bind fun y284 => (if y284.length + t280.length < 4398046511104 then ((some (y284 ++ t280 : List (S37))).bind fun y287 => ((some (([(⟨(rd_T37 t269 (ji32)).f0, a2, (rd_T37 t269 (ji32)).f2⟩ : S37)] : List (S37)) : List (S37))).bind fun y290 => (if y287.length + y290.length < 4398046511104 then ((lines_Merge.f kj20 (y287 ++ y290)).bind fun bt296 => (if bt296.2 = 0 then ((packhorseref04_Same.f kj20 bt296.1 t269).bind fun t300 => (if t300 = true then ((lines_Pieces.f kj20 t280).bind fun t301 => ((lines_Pieces.f kj20 t269).bind fun t302 => (if (wrap64 (t301 + a2)) = t302 then ((lines_Weight.f kj20 t280).bind fun t303 => ((lines_Weight.f kj20 t269).bind fun t304 => (some ((wrap64 (t303 + (wrap64 (a2 * ((rd_T37 t269 (ji32)).f2))))) == t304)))) else (some false)))) else (some false))) else (some false))) else (none)))) else (none))) else (if (t280.length : Int) = 0 then (if a2 < 1 then (some true) else (if a2 > ((rd_T37 t269 (ji32)).f1) then (some true) else (if (t269.length : Int) = 1 then (some (a2 == ((rd_T37 t269 (ji32)).f1))) else (some false)))) else (some false))) = some r := H; have A35 := am A350; clear A350
            by_cases c36 : t281 = 0
            ·rw [if_pos c36] at H
             have c36b0 : (t281 == 0) = true := beq_iff_eq.mpr c36; have c36b1 : (t281 != 0) = false := bne_eq_false_iff_eq.mpr c36; clear c36; obtain ⟨y284, hy284⟩ : ∃ y_ : List (S37), y_ = (([] : List (S37))) := ⟨_, rfl⟩
             replace H : (if y284.length + t280.length < 4398046511104 then ((some (y284 ++ t280 : List (S37))).bind fun y287 => ((some (([(⟨(rd_T37 t269 (ji32)).f0, a2, (rd_T37 t269 (ji32)).f2⟩ : S37)] : List (S37)) : List (S37))).bind fun y290 => (if y287.length + y290.length < 4398046511104 then ((lines_Merge.f kj20 (y287 ++ y290)).bind fun bt296 => (if bt296.2 = 0 then ((packhorseref04_Same.f kj20 bt296.1 t269).bind fun t300 => (if t300 = true then ((lines_Pieces.f kj20 t280).bind fun t301 => ((lines_Pieces.f kj20 t269).bind fun t302 => (if (wrap64 (t301 + a2)) = t302 then ((lines_Weight.f kj20 t280).bind fun t303 => ((lines_Weight.f kj20 t269).bind fun t304 => (some ((wrap64 (t303 + (wrap64 (a2 * ((rd_T37 t269 (ji32)).f2))))) == t304)))) else (some false)))) else (some false))) else (some false))) else (none)))) else (none)) = some r := by first | (rw [hy284]; with_reducible exact H) | (have H2_ := (Option.bind_some _ _).symm.trans H; rw [hy284]; with_reducible exact H2_) | (have H2_ := (Option.bind_some _ _).symm.trans H; with_reducible exact H2_) | with_reducible exact H | (rw [hy284]; exact H) | exact H
             have Ny284 := am hy284; clear hy284
             by_cases c37 : y284.length + t280.length < 4398046511104
             ·rw [if_pos c37] at H
              have LMc37 := am c37; clear c37; obtain ⟨y287, hy287⟩ : ∃ y_ : List (S37), y_ = (y284 ++ t280) := ⟨_, rfl⟩
              replace H : ((some (([(⟨(rd_T37 t269 (ji32)).f0, a2, (rd_T37 t269 (ji32)).f2⟩ : S37)] : List (S37)) : List (S37))).bind fun y290 => (if y287.length + y290.length < 4398046511104 then ((lines_Merge.f kj20 (y287 ++ y290)).bind fun bt296 => (if bt296.2 = 0 then ((packhorseref04_Same.f kj20 bt296.1 t269).bind fun t300 => (if t300 = true then ((lines_Pieces.f kj20 t280).bind fun t301 => ((lines_Pieces.f kj20 t269).bind fun t302 => (if (wrap64 (t301 + a2)) = t302 then ((lines_Weight.f kj20 t280).bind fun t303 => ((lines_Weight.f kj20 t269).bind fun t304 => (some ((wrap64 (t303 + (wrap64 (a2 * ((rd_T37 t269 (ji32)).f2))))) == t304)))) else (some false)))) else (some false))) else (some false))) else (none))) = some r := by first | (rw [hy287]; with_reducible exact H) | (have H2_ := (Option.bind_some _ _).symm.trans H; rw [hy287]; with_reducible exact H2_) | (have H2_ := (Option.bind_some _ _).symm.trans H; with_reducible exact H2_) | with_reducible exact H | (rw [hy287]; exact H) | exact H
              have Ny287 := am hy287; clear hy287; obtain ⟨y290, hy290⟩ : ∃ y_ : List (S37), y_ = (([(⟨(rd_T37 t269 (ji32)).f0, a2, (rd_T37 t269 (ji32)).f2⟩ : S37)] : List (S37))) := ⟨_, rfl⟩
              replace H : (if y287.length + y290.length < 4398046511104 then ((lines_Merge.f kj20 (y287 ++ y290)).bind fun bt296 => (if bt296.2 = 0 then ((packhorseref04_Same.f kj20 bt296.1 t269).bind fun t300 => (if t300 = true then ((lines_Pieces.f kj20 t280).bind fun t301 => ((lines_Pieces.f kj20 t269).bind fun t302 => (if (wrap64 (t301 + a2)) = t302 then ((lines_Weight.f kj20 t280).bind fun t303 => ((lines_Weight.f kj20 t269).bind fun t304 => (some ((wrap64 (t303 + (wrap64 (a2 * ((rd_T37 t269 (ji32)).f2))))) == t304)))) else (some false)))) else (some false))) else (some false))) else (none)) = some r := by first | (rw [hy290]; with_reducible exact H) | (have H2_ := (Option.bind_some _ _).symm.trans H; rw [hy290]; with_reducible exact H2_) | (have H2_ := (Option.bind_some _ _).symm.trans H; with_reducible exact H2_) | with_reducible exact H | (rw [hy290]; exact H) | exact H
              have Ny290 := am hy290; clear hy290
              by_cases c38 : y287.length + y290.length < 4398046511104
              ·rw [if_pos c38] at H
               have LMc38 := am c38; clear c38; obtain ⟨y293, hy293⟩ : ∃ y_ : List (S37), y_ = (y287 ++ y290) := ⟨_, rfl⟩
               replace H : ((lines_Merge.f kj20 y293).bind fun bt296 => (if bt296.2 = 0 then ((packhorseref04_Same.f kj20 bt296.1 t269).bind fun t300 => (if t300 = true then ((lines_Pieces.f kj20 t280).bind fun t301 => ((lines_Pieces.f kj20 t269).bind fun t302 => (if (wrap64 (t301 + a2)) = t302 then ((lines_Weight.f kj20 t280).bind fun t303 => ((lines_Weight.f kj20 t269).bind fun t304 => (some ((wrap64 (t303 + (wrap64 (a2 * ((rd_T37 t269 (ji32)).f2))))) == t304)))) else (some false)))) else (some false))) else (some false))) = some r := by first | (rw [hy293]; with_reducible exact H) | (have H2_ := (Option.bind_some _ _).symm.trans H; rw [hy293]; with_reducible exact H2_) | (have H2_ := (Option.bind_some _ _).symm.trans H; with_reducible exact H2_) | with_reducible exact H | (rw [hy293]; exact H) | exact H
               have Ny293 := am hy293; clear hy293; replace H := obm H; obtain ⟨⟨t296, t297⟩, A390, H⟩ := H; replace H : (if t297 = 0 then ((packhorseref04_Same.f kj20 t296 t269).bind fun t300 => (if t300 = true then ((lines_Pieces.f kj20 t280).bind fun t301 => ((lines_Pieces.f kj20 t269).bind fun t302 => (if (wrap64 (t301 + a2)) = t302 then ((lines_Weight.f kj20 t280).bind fun t303 => ((lines_Weight.f kj20 t269).bind fun t304 => (some ((wrap64 (t303 + (wrap64 (a2 * ((rd_T37 t269 (ji32)).f2))))) == t304)))) else (some false)))) else (some false))) else (some false)) = some r := H; have A39 := am A390; clear A390
               by_cases c40 : t297 = 0
               ·rw [if_pos c40] at H
                have c40b0 : (t297 == 0) = true := beq_iff_eq.mpr c40; have c40b1 : (t297 != 0) = false := bne_eq_false_iff_eq.mpr c40; clear c40; replace H := obm H; obtain ⟨t300, A410, H⟩ := H; replace H : (if t300 = true then ((lines_Pieces.f kj20 t280).bind fun t301 => ((lines_Pieces.f kj20 t269).bind fun t302 => (if (wrap64 (t301 + a2)) = t302 then ((lines_Weight.f kj20 t280).bind fun t303 => ((lines_Weight.f kj20 t269).bind fun t304 => (some ((wrap64 (t303 + (wrap64 (a2 * ((rd_T37 t269 (ji32)).f2))))) == t304)))) else (some false)))) else (some false)) = some r := H; have A41 := am A410; clear A410
                by_cases c42 : t300 = true
                ·subst c42
                 have H1 : ((lines_Pieces.f kj20 t280).bind fun t301 => ((lines_Pieces.f kj20 t269).bind fun t302 => (if (wrap64 (t301 + a2)) = t302 then ((lines_Weight.f kj20 t280).bind fun t303 => ((lines_Weight.f kj20 t269).bind fun t304 => (some ((wrap64 (t303 + (wrap64 (a2 * ((rd_T37 t269 (ji32)).f2))))) == t304)))) else (some false)))) = some r := by rw [if_pos rfl] at H; exact H
                 clear H; have H := H1; clear H1; replace H := obm H; obtain ⟨t301, A430, H⟩ := H; replace H : ((lines_Pieces.f kj20 t269).bind fun t302 => (if (wrap64 (t301 + a2)) = t302 then ((lines_Weight.f kj20 t280).bind fun t303 => ((lines_Weight.f kj20 t269).bind fun t304 => (some ((wrap64 (t303 + (wrap64 (a2 * ((rd_T37 t269 (ji32)).f2))))) == t304)))) else (some false))) = some r := H; have A43 := am A430; clear A430; replace H := obm H; obtain ⟨t302, A440, H⟩ := H; replace H : (if (wrap64 (t301 + a2)) = t302 then ((lines_Weight.f kj20 t280).bind fun t303 => ((lines_Weight.f kj20 t269).bind fun t304 => (some ((wrap64 (t303 + (wrap64 (a2 * ((rd_T37 t269 (ji32)).f2))))) == t304)))) else (some false)) = some r := H; have A44 := am A440; clear A440
                 by_cases c45 : (wrap64 (t301 + a2)) = t302
                 ·rw [if_pos c45] at H
                  have c45b0 : ((wrap64 (t301 + a2)) == t302) = true := beq_iff_eq.mpr c45; have c45b1 : ((wrap64 (t301 + a2)) != t302) = false := bne_eq_false_iff_eq.mpr c45; clear c45; replace H := obm H; obtain ⟨t303, A460, H⟩ := H; replace H : ((lines_Weight.f kj20 t269).bind fun t304 => (some ((wrap64 (t303 + (wrap64 (a2 * ((rd_T37 t269 (ji32)).f2))))) == t304))) = some r := H; have A46 := am A460; clear A460; replace H := obm H; obtain ⟨t304, A470, H⟩ := H; replace H : (some ((wrap64 (t303 + (wrap64 (a2 * ((rd_T37 t269 (ji32)).f2))))) == t304)) = some r := H; have A47 := am A470; clear A470; obtain rfl := Option.some.inj H; simp only [Option.some.injEq, Prod.mk.injEq] at H; obtain ⟨rfl⟩ := H; obtain ⟨Ao48, co48, eo48⟩ := Kd.R_slice HO_9.out; subst eo48; have p278 : 0 ≤ ((ji32) : Int) := of_decide_eq_true ap2; have q278 : (ji32) < (t269.length : Int) := of_decide_eq_true ap2; obtain ⟨ad278, e278, hx278_0, hx278_1, hx278_2⟩ := at_T37 (Kd.R_reads' HO_9.out).2.2 (ji32) p278 q278
                  cases e278
                  replace p278 := eq_true p278; replace q278 := eq_true q278
                  try go_wp2_with (first | ((with_reducible refine gate_dst (N := 13) rfl ?_); (try (refine gate_guard (by rfl) ?_; dsimp only)); refine box_event ?hg (N := 13) ?hd (cs := #[.string ⟨#[]⟩, .int .i64 0, .int .i64 0]) (t := 37) ?hr ?_; (case hd => rfl); (case hg => rfl); (case hr => first | (go_simp; done) | (go_simp; rfl)); intro gb279 hg w49 hbox hb; have _ := am (Kd.R_below (Kd.R_elderB (ru HO_9.out) gb279 (Nat.le_of_eq hg.symm)) hb); have _ := am (below_step (beu HB.out) hb); have _ := am (hbox); have _ := am ((by rw [hg]; exact (below_size (beu HB.out)) : w.heap.size ≤ gb279)); have _ := am ((by rw [hg]; exact (below_size (beu HB.out)) : w.heap.size ≤ gb279)); clear HO_9 HB; rename_i HO_9 HB BK279 GW279 GE279; clear hb hbox hg; obtain ⟨_, _, _⟩ := cells3 BK279.out; obtain ⟨_, _, _⟩ := frozens3 BK279.out) | ((with_reducible refine gate_callee (f := 20) rfl ?_); refine goesL_ (some 76) rfl rfl Tryd.func20 (by kernel_rfl) rfl #[.slice (some ad278) t269.length co48, .string ((rd_T37 t269 (ji32)).f0), .int .i64 a2] rfl (by (try simp only [List.map_toArray, List.map_cons, List.map_nil]); first | done | (simp only [hji32]; rfl) | rfl | (simp only [List.length_drop, List.length_take]; rfl)) ?_; (with_reducible refine (lines_Take.calls kj20 _ _ t269 ((rd_T37 t269 (ji32)).f0) a2 t280 t281 _ ?side1 ?side2 ?side3 A35.out).mono ?_); (case side1 => refine (Kd.R_reads' (e := 37) (base := w.heap.size) (ok := fun k_ => (True ∧ k_ ≠ gb279)) (n := t269.length) (c := co48) ?_).2.2; exact (ru (Kd.R_mono (rf gb279 2 (rf gb279 1 (rf gb279 0 (Kd.R_mono HO_9.out (fun k_ hk => (⟨hk, by first | exact hk.2 | exact hk.2.2.2 | exact hk.2.2 | exact hk.2.1 | exact hk.2.2.1⟩ : _ ∧ k_ ≠ gb279))) (.string ((rd_T37 t269 (ji32)).f0))) (.int .i64 ((rd_T37 t269 (ji32)).f1))) (.int .i64 ((rd_T37 t269 (ji32)).f2))) (fun _ h_ => h_.1)))); (case side2 => exact (Kd.R_reads' HO_9.out).2.1); (case side3 => first | (with_reducible exact HT.out) | exact Tabs.below HT.out (beu HB.out)); rintro e w51 ⟨v282, rfl, ho0, hb⟩; refine ⟨_, rfl, ?_⟩; have _ := am (Kd.R_elder' (ru (Kd.R_mono (rf gb279 2 (rf gb279 1 (rf gb279 0 (Kd.R_mono HO_9.out (fun k_ hk => (⟨hk, by first | exact hk.2 | exact hk.2.2.2 | exact hk.2.2 | exact hk.2.1 | exact hk.2.2.1⟩ : _ ∧ k_ ≠ gb279))) (.string ((rd_T37 t269 (ji32)).f0))) (.int .i64 ((rd_T37 t269 (ji32)).f1))) (.int .i64 ((rd_T37 t269 (ji32)).f2))) (fun _ h_ => h_.1))) (Kd.R_base ho0) hb); have _ := am (Kd.R_lower (Kd.R_newB (Kd.R_new' ho0 (Kd.R_lt (ru (Kd.R_mono (rf gb279 2 (rf gb279 1 (rf gb279 0 (Kd.R_mono HO_9.out (fun k_ hk => (⟨hk, by first | exact hk.2 | exact hk.2.2.2 | exact hk.2.2 | exact hk.2.1 | exact hk.2.2.1⟩ : _ ∧ k_ ≠ gb279))) (.string ((rd_T37 t269 (ji32)).f0))) (.int .i64 ((rd_T37 t269 (ji32)).f1))) (.int .i64 ((rd_T37 t269 (ji32)).f2))) (fun _ h_ => h_.1))))) (g := gb279) (o := .cells #[.string ((rd_T37 t269 (ji32)).f0), .int .i64 ((rd_T37 t269 (ji32)).f1), .int .i64 ((rd_T37 t269 (ji32)).f2)] 37 (0, 0)) (by refine bu ?_; refine blk_put (cs := #[.string ((rd_T37 t269 (ji32)).f0), .int .i64 ((rd_T37 t269 (ji32)).f1), .int .i64 0]) ?_ 2 _ rfl; refine bu ?_; refine blk_put (cs := #[.string ((rd_T37 t269 (ji32)).f0), .int .i64 0, .int .i64 0]) ?_ 1 _ rfl; refine bu ?_; refine blk_put (cs := #[.string ⟨#[]⟩, .int .i64 0, .int .i64 0]) ?_ 0 _ rfl; refine bu ?_; exact BK279.out)) (below_size (beu HB.out))); have _ := am (blk_below (g := gb279) (o := .cells #[.string ((rd_T37 t269 (ji32)).f0), .int .i64 ((rd_T37 t269 (ji32)).f1), .int .i64 ((rd_T37 t269 (ji32)).f2)] 37 (0, 0)) (by refine bu ?_; refine blk_put (cs := #[.string ((rd_T37 t269 (ji32)).f0), .int .i64 ((rd_T37 t269 (ji32)).f1), .int .i64 0]) ?_ 2 _ rfl; refine bu ?_; refine blk_put (cs := #[.string ((rd_T37 t269 (ji32)).f0), .int .i64 0, .int .i64 0]) ?_ 1 _ rfl; refine bu ?_; refine blk_put (cs := #[.string ⟨#[]⟩, .int .i64 0, .int .i64 0]) ?_ 0 _ rfl; refine bu ?_; exact BK279.out) hb); have _ := am (below_step (beu HB.out) hb); clear HO_9 BK279 HB; rename_i HO_9 HO283 BK279 HB; (try clear hb); (try clear ho0); obtain ⟨_, _, _⟩ := cells3 BK279.out; obtain ⟨_, _, _⟩ := frozens3 BK279.out; obtain ⟨Ao53, co53, eo53⟩ := Kd.R_slice HO283.out; subst eo53))
                  have n0_ : Aside0 (Kd.R k37 37 (w51.setCell ⟨gb279, 1, none⟩ (.int .i64 a2)) w.heap.size (fun k_ => some k_ ≠ (.slice Ao53 t280.length co53 : Value).ownBlock ∧ k_ ≠ gb279) (.slice (some ad278) t269.length co48) t269) := ⟨ru (Kd.R_mono (rf gb279 1 (Kd.R_mono HO_9.out (fun k_ hk => (⟨hk, hk.1.2⟩ : _ ∧ k_ ≠ gb279))) (.int .i64 a2)) (fun _ hk => ⟨hk.1.2, hk.1.1.2⟩))⟩; have n1_ : Aside0 (Kd.R k37 37 (w51.setCell ⟨gb279, 1, none⟩ (.int .i64 a2)) w.heap.size (fun k_ => some k_ ≠ (.slice (some ad278) t269.length co48 : Value).ownBlock ∧ k_ ≠ gb279) (.slice Ao53 t280.length co53) t280) := ⟨ru (Kd.R_mono (rf gb279 1 (Kd.R_mono HO283.out (fun k_ hk => (⟨hk, by first | exact hk.2 | exact hk.2.2.2 | exact hk.2.2 | exact hk.2.1 | exact hk.2.2.1⟩ : _ ∧ k_ ≠ gb279))) (.int .i64 a2)) (fun _ hk => ⟨hk.1.1.2, hk.1.2⟩))⟩; have n2_ : Aside0 ((w51.setCell ⟨gb279, 1, none⟩ (.int .i64 a2)).heap[gb279]? = some (.cells #[.string ((rd_T37 t269 (ji32)).f0), .int .i64 a2, .int .i64 ((rd_T37 t269 (ji32)).f2)] 37 (0, 0))) := ⟨by refine bu ?_; refine blk_put (cs := #[.string ((rd_T37 t269 (ji32)).f0), .int .i64 ((rd_T37 t269 (ji32)).f1), .int .i64 ((rd_T37 t269 (ji32)).f2)]) ?_ 1 _ rfl; refine bu ?_; exact BK279.out⟩; have n3_ : Aside0 (Below w.heap.size w (w51.setCell ⟨gb279, 1, none⟩ (.int .i64 a2))) := ⟨beu HB.out⟩
                  (try clear HO_9)
                  (try clear HO283)
                  (try clear BK279)
                  (try clear HB)
                  generalize (w51.setCell ⟨gb279, 1, none⟩ (.int .i64 a2)) = w54 at n0_ n1_ n2_ n3_ ⊢; have HO_9 := n0_; have HO283 := n1_; have BK279 := n2_; have HB := n3_; clear n0_ n1_ n2_ n3_
                  (try (rw [drewN_self w54]; generalize hq_ : World.drewN w54 _ = w54; have _ := am (show Kd.R _ _ w54 _ _ _ _ from by rw [← hq_]; exact Kd.R_drewN HO_9.out _); have _ := am (show Kd.R _ _ w54 _ _ _ _ from by rw [← hq_]; exact Kd.R_drewN HO283.out _); have _ := am (blk_at hq_ BK279.out); have _ := am (below_at hq_ HB.out); clear hq_ HO_9 HO283 BK279 HB; rename_i HO_9 HO283 BK279 HB))
                  have n0_ := am (Kd.R_drew HO_9.out); have n1_ := am (Kd.R_drew HO283.out); have n2_ := am (blk_drew BK279.out); have n3_ := am (below_drew1 HB.out); clear HO_9 HO283 BK279 HB; have HO_9 := n0_; have HO283 := n1_; have BK279 := n2_; have HB := n3_; clear n0_ n1_ n2_ n3_
                  refine start_ (n := 12) (S := fun w' => w'.cell? ⟨gb279, 0, none⟩ = some (.string ((rd_T37 t269 (ji32)).f0)) ∧ w'.cell? ⟨gb279, 1, none⟩ = some (.int .i64 a2) ∧ w'.cell? ⟨gb279, 2, none⟩ = some (.int .i64 ((rd_T37 t269 (ji32)).f2))) (ds := []) #[false, false, false, false, false, false, false, false, false, false, false, false] (by kernel_rfl) rfl rfl ⟨(blk_cell BK279.out 0).trans rfl, (blk_cell BK279.out 1).trans rfl, (blk_cell BK279.out 2).trans rfl⟩ (fun hHeld => ?_); refine with_tabW packhorselaw04_LinesBack.tab21 packhorselaw04_LinesBack.bits21 (fun HT_ HW_ => ?_)
                  generalize w54.drew = w55 at HO_9 HO283 BK279 HB hHeld ⊢; refine pure_ (i := 1) (N := some 109) (v := ?_) (a' := ?_) (bs 12 2) rfl rfl (ak HT_.out) (fun _ _ _ h => h) (Or.inl ⟨by rfl, ?_⟩) ?_ ?_; rotate_left
                  ·intro w'
                   go_simp
                   with_reducible rfl
                  rotate_left
                  ·simp only [Act.put, sA, sB, sC, i64_w, i32_w]
                   rfl
                  refine take_ (i := 3) (N := some 111) (v := ?_) (a' := ?_) (bs 12 10) rfl rfl (take_ofW HT_.out HW_.out (by kernel_rfl)) (fun _ _ _ h => h) (Or.inl ⟨by rfl, ?_⟩) hHeld ?_ ?_; rotate_left
                  ·rintro w' ⟨s0, s1, s2⟩
                   go_simp
                   with_reducible rfl
                  rotate_left
                  ·simp only [Act.put, sA, sB, sC, i64_w, i32_w]
                   rfl
                  refine join_ (σ := Value × Value × Value) 7 #[true, true, true, true, true, false, false, false, false, false, false, false] (fun s_ => [(108, s_.1), (110, s_.2.1), (112, s_.2.2)]) (fun s_ w' => (w'.cell? ⟨gb279, 0, none⟩ = some (.string ((rd_T37 t269 (ji32)).f0)) ∧ w'.cell? ⟨gb279, 1, none⟩ = some (.int .i64 a2) ∧ w'.cell? ⟨gb279, 2, none⟩ = some (.int .i64 ((rd_T37 t269 (ji32)).f2))) ∧ (Kd.R k37 37 w' w.heap.size (fun k_ => some k_ ≠ (s_.2.1 : Value).ownBlock ∧ some k_ ≠ (s_.2.2 : Value).ownBlock ∧ some k_ ≠ (.slice (some ad278) t269.length co48 : Value).ownBlock ∧ k_ ≠ gb279) (.slice Ao53 t280.length co53) t280) ∧ (Kd.R k37 37 w' w.heap.size (fun k_ => some k_ ≠ (.slice Ao53 t280.length co53 : Value).ownBlock ∧ some k_ ≠ (s_.2.2 : Value).ownBlock ∧ some k_ ≠ (.slice (some ad278) t269.length co48 : Value).ownBlock ∧ k_ ≠ gb279) s_.2.1 y287) ∧ (Kd.R k37 37 w' w.heap.size (fun k_ => some k_ ≠ (.slice Ao53 t280.length co53 : Value).ownBlock ∧ some k_ ≠ (s_.2.1 : Value).ownBlock ∧ some k_ ≠ (.slice (some ad278) t269.length co48 : Value).ownBlock ∧ k_ ≠ gb279) s_.2.2 y290) ∧ (Kd.R k37 37 w' w.heap.size (fun k_ => some k_ ≠ (.slice Ao53 t280.length co53 : Value).ownBlock ∧ some k_ ≠ (s_.2.1 : Value).ownBlock ∧ some k_ ≠ (s_.2.2 : Value).ownBlock ∧ k_ ≠ gb279) (.slice (some ad278) t269.length co48) t269) ∧ (w'.heap[gb279]? = some (.cells #[.string ((rd_T37 t269 (ji32)).f0), .int .i64 a2, .int .i64 ((rd_T37 t269 (ji32)).f2)] 37 (0, 0))) ∧ (Below w.heap.size w w')) ?_ ?_; rotate_left
                  ·intro hCont
                   refine two_ (i := 0) (j := 4) (Ni := some 108) (Nj := some 112) #[true, true, false, true, false, false, false, false, false, false, false, false] #[false, true, false, true, true, false, false, false, false, false, false, false] rfl rfl rfl rfl (two_of HT_.out (by kernel_rfl)) (by decide) (by decide) (fun K hK => ?_) (fun K hK => ?_)
                   ·skip
                    refine Kd.R_lit_step k37 _ 37 ?hg (N := 108) ?hd (xs := ([] : List (S37))) (inner := []) (ok := fun _ => True) (okp := fun _ => True) ?hr ?hp (fun _ hk => hk) trivial (Below.refl _ _) (Nat.le_refl _) (by simp) ?_; (case hd => rfl); (case hg => rfl); (case hr => first | (go_simp; done) | (go_simp; rfl)); (case hp => exact (Reps.none _ _))
                    intro v285 w56 ho57 hb hg_ hnew_; clear hg_ hnew_
                    (first | rw [← Ny284.out] at ho57 | (simp only [Int.reduceToNat] at ho57; rw [← Ny284.out] at ho57))
                    have n0_ := am (Kd.R_elder' (ru HO_9.out) (Kd.R_base ho57) hb); have n1_ := am (Kd.R_elder' (ru HO283.out) (Kd.R_base ho57) hb); have n2_ := am (Kd.R_lower (Kd.R_newB (Kd.R_new' (Kd.R_new' ho57 (Kd.R_lt (ru HO_9.out))) (Kd.R_lt (ru HO283.out))) (bu BK279.out)) (below_size (beu HB.out))); have n3_ := am (blk_below (bu BK279.out) hb); have n4_ := am (below_step (beu HB.out) hb); clear HO_9 HO283 BK279 HB; have HO_9 := n0_; have HO283 := n1_; have HO286 := n2_; have BK279 := n3_; have HB := n4_; clear n0_ n1_ n2_ n3_ n4_ hb ho57; refine hK.out _ _ ⟨(blk_cell BK279.out 0).trans rfl, (blk_cell BK279.out 1).trans rfl, (blk_cell BK279.out 2).trans rfl⟩ (fun hHeld => ?_); clear hK K; refine norm_ (a' := ?_) ?_ ?_; rotate_left
                    ·show Act.put _ (some 108) _ = _
                     simp only [Act.put, sA, sB, sC, i64_w, i32_w]
                     rfl
                    refine two_ (i := 2) (j := 4) (Ni := some 110) (Nj := some 112) #[true, true, true, true, false, false, false, false, false, false, false, false] #[true, true, false, true, true, false, false, false, false, false, false, false] rfl rfl rfl rfl (two_of HT_.out (by kernel_rfl)) (by decide) (by decide) (fun K hK => ?_) (fun K hK => ?_)
                    ·skip
                     refine Kd.R_append_rows_step k37 (w0 := w) w.heap.size (by rfl) (.tmp 108) (.tmp 109) 22 37 (.agg #[(.string ⟨#[]⟩), (.int .i64 0), (.int .i64 0)]) 32 rfl Tryd.underlying22 info37 rfl (by decide) (by omega) v285 y284 t280 _ _ _ (fun k_ => some k_ ≠ (.slice (some ad278) t269.length co48 : Value).ownBlock ∧ some k_ ≠ (.slice Ao53 t280.length co53 : Value).ownBlock ∧ k_ ≠ gb279) (fun _ => False) rfl rfl ?aO ?aR (fun _ _ h => h) (fun _ h => h.elim) ?aF ?aB ?aS ?aL ?_
                     (case aR => exact cu (Kd.R_reads' HO283.out).2.2)
                     (case aB => exact (beu HB.out))
                     (case aF => exact (fun k_ hk => ⟨Kd.fresh' (Kd.R_lt (ru HO_9.out)) k_ hk, Kd.fresh' (Kd.R_lt (ru HO283.out)) k_ hk, Kd.freshB (bu BK279.out) k_ hk⟩))
                     (case aO => exact (ru (Kd.R_mono HO286.out (fun _ hk => ⟨hk.1.1.2, ⟨hk.1.2, hk.2⟩⟩))))
                     (case aS => exact (below_size (beu HB.out)))
                     (case aL => have := LMc37.out; omega)
                     intro v288 w58 ho hb hg hat; rw [← Ny287.out] at ho; have n0_ := am (Kd.R_after (ok := (fun k_ => some k_ ≠ (.slice Ao53 t280.length co53 : Value).ownBlock ∧ k_ ≠ gb279)) (ru HO_9.out) hg hat); have n1_ := am (blk_grown (bu BK279.out) hg (Kd.R_away HO286.out (fun _ hk => hk.2))); have n2_ := am (Kd.R_after (ok := (fun k_ => some k_ ≠ (.slice (some ad278) t269.length co48 : Value).ownBlock ∧ k_ ≠ gb279)) (ru HO283.out) hg hat); have n3_ := am (hb); have n4_ := am (ho); clear HO_9 BK279 HO283 HB HO286; have HO_9 := n0_; have BK279 := n1_; have HO283 := n2_; have HB := n3_; have HO289 := n4_; clear n0_ n1_ n2_ n3_ n4_ ho hb hg hat; refine hK.out _ _ ⟨(blk_cell BK279.out 0).trans rfl, (blk_cell BK279.out 1).trans rfl, (blk_cell BK279.out 2).trans rfl⟩ (fun hHeld => ?_); clear hK K; refine norm_ (a' := ?_) ?_ ?_; rotate_left
                     ·show Act.put _ (some 110) _ = _
                      simp only [Act.put, sA, sB, sC, i64_w, i32_w]
                      rfl
                     refine one_ (i := 4) (N := some 112) (bs 12 31) rfl rfl (one_of HT_.out (by kernel_rfl)) (by decide) (fun K hK => ?_)
                     refine Kd.R_lit_step k37 _ 37 ?hg (N := 112) ?hd (xs := ([(⟨(rd_T37 t269 (ji32)).f0, a2, (rd_T37 t269 (ji32)).f2⟩ : S37)] : List (S37))) (inner := [.string ((rd_T37 t269 (ji32)).f0), .int .i64 a2, .int .i64 ((rd_T37 t269 (ji32)).f2)]) (ok := fun _ => True) (okp := fun _ => True) ?hr ?hp (fun _ hk => hk) trivial (Below.refl _ _) (Nat.le_refl _) (by simp) ?_; (case hd => rfl); (case hg => rfl); (case hr => first | (go_simp; done) | (go_simp; rfl)); (case hp => exact (Reps.c3 (show Kd.M k37 _ _ _ (⟨(rd_T37 t269 (ji32)).f0, a2, (rd_T37 t269 (ji32)).f2⟩ : S37) [.string ((rd_T37 t269 (ji32)).f0), .int .i64 a2, .int .i64 ((rd_T37 t269 (ji32)).f2)] from (k37_mkM _ _ _ (⟨(rd_T37 t269 (ji32)).f0, a2, (rd_T37 t269 (ji32)).f2⟩ : S37) )) (Reps.none _ _)))
                     intro v291 w59 ho60 hb hg_ hnew_; clear hg_ hnew_
                     (first | rw [← Ny290.out] at ho60 | (simp only [Int.reduceToNat] at ho60; rw [← Ny290.out] at ho60))
                     have n0_ := am (Kd.R_elder' (ru HO_9.out) (Kd.R_base ho60) hb); have n1_ := am (Kd.R_elder' (ru HO283.out) (Kd.R_base ho60) hb); have n2_ := am (Kd.R_elder' (ru HO289.out) (Kd.R_base ho60) hb); have n3_ := am (Kd.R_lower (Kd.R_newB (Kd.R_new' (Kd.R_new' (Kd.R_new' ho60 (Kd.R_lt (ru HO_9.out))) (Kd.R_lt (ru HO283.out))) (Kd.R_lt (ru HO289.out))) (bu BK279.out)) (below_size (beu HB.out))); have n4_ := am (blk_below (bu BK279.out) hb); have n5_ := am (below_step (beu HB.out) hb); clear HO_9 HO283 HO289 BK279 HB; have HO_9 := n0_; have HO283 := n1_; have HO289 := n2_; have HO292 := n3_; have BK279 := n4_; have HB := n5_; clear n0_ n1_ n2_ n3_ n4_ n5_ hb ho60; refine hK.out _ _ ⟨(blk_cell BK279.out 0).trans rfl, (blk_cell BK279.out 1).trans rfl, (blk_cell BK279.out 2).trans rfl⟩ (fun hHeld => ?_); clear hK K; refine norm_ (a' := ?_) ?_ ?_; rotate_left
                     ·show Act.put _ (some 112) _ = _
                      simp only [Act.put, sA, sB, sC, i64_w, i32_w]
                      rfl
                     exact norm_ (by simp only [putAll, Act.put, sA, sB, sC]) (hCont (v285, v288, v291) _ ⟨hHeld, (ru (Kd.R_mono HO283.out (fun _ hk => ⟨hk.1.2, ⟨hk.2, ⟨hk.1.1.1, hk.1.1.2⟩⟩⟩))), (ru (Kd.R_mono HO289.out (fun _ hk => ⟨hk.1.2.1, ⟨hk.2, ⟨hk.1.1, hk.1.2.2⟩⟩⟩))), (ru (Kd.R_mono HO292.out (fun _ hk => ⟨hk.1.1.2, ⟨hk.1.2, ⟨hk.1.1.1.2, hk.2⟩⟩⟩))), (ru (Kd.R_mono HO_9.out (fun _ hk => ⟨hk.1.1.1, ⟨hk.1.2, ⟨hk.2, hk.1.1.2⟩⟩⟩))), (bu BK279.out), (beu HB.out)⟩)
                    ·skip
                     refine Kd.R_lit_step k37 _ 37 ?hg (N := 112) ?hd (xs := ([(⟨(rd_T37 t269 (ji32)).f0, a2, (rd_T37 t269 (ji32)).f2⟩ : S37)] : List (S37))) (inner := [.string ((rd_T37 t269 (ji32)).f0), .int .i64 a2, .int .i64 ((rd_T37 t269 (ji32)).f2)]) (ok := fun _ => True) (okp := fun _ => True) ?hr ?hp (fun _ hk => hk) trivial (Below.refl _ _) (Nat.le_refl _) (by simp) ?_; (case hd => rfl); (case hg => rfl); (case hr => first | (go_simp; done) | (go_simp; rfl)); (case hp => exact (Reps.c3 (show Kd.M k37 _ _ _ (⟨(rd_T37 t269 (ji32)).f0, a2, (rd_T37 t269 (ji32)).f2⟩ : S37) [.string ((rd_T37 t269 (ji32)).f0), .int .i64 a2, .int .i64 ((rd_T37 t269 (ji32)).f2)] from (k37_mkM _ _ _ (⟨(rd_T37 t269 (ji32)).f0, a2, (rd_T37 t269 (ji32)).f2⟩ : S37) )) (Reps.none _ _)))
                     intro v291 w58 ho59 hb hg_ hnew_; clear hg_ hnew_
                     (first | rw [← Ny290.out] at ho59 | (simp only [Int.reduceToNat] at ho59; rw [← Ny290.out] at ho59))
                     have n0_ := am (Kd.R_elder' (ru HO_9.out) (Kd.R_base ho59) hb); have n1_ := am (Kd.R_elder' (ru HO283.out) (Kd.R_base ho59) hb); have n2_ := am (Kd.R_elder' (ru HO286.out) (Kd.R_base ho59) hb); have n3_ := am (Kd.R_lower (Kd.R_newB (Kd.R_new' (Kd.R_new' (Kd.R_new' ho59 (Kd.R_lt (ru HO_9.out))) (Kd.R_lt (ru HO283.out))) (Kd.R_lt (ru HO286.out))) (bu BK279.out)) (below_size (beu HB.out))); have n4_ := am (blk_below (bu BK279.out) hb); have n5_ := am (below_step (beu HB.out) hb); clear HO_9 HO283 HO286 BK279 HB; have HO_9 := n0_; have HO283 := n1_; have HO286 := n2_; have HO292 := n3_; have BK279 := n4_; have HB := n5_; clear n0_ n1_ n2_ n3_ n4_ n5_ hb ho59; refine hK.out _ _ ⟨(blk_cell BK279.out 0).trans rfl, (blk_cell BK279.out 1).trans rfl, (blk_cell BK279.out 2).trans rfl⟩ (fun hHeld => ?_); clear hK K; refine norm_ (a' := ?_) ?_ ?_; rotate_left
                     ·show Act.put _ (some 112) _ = _
                      simp only [Act.put, sA, sB, sC, i64_w, i32_w]
                      rfl
                     refine one_ (i := 2) (N := some 110) (bs 12 31) rfl rfl (one_of HT_.out (by kernel_rfl)) (by decide) (fun K hK => ?_); refine Kd.R_append_rows_step k37 (w0 := w) w.heap.size (by rfl) (.tmp 108) (.tmp 109) 22 37 (.agg #[(.string ⟨#[]⟩), (.int .i64 0), (.int .i64 0)]) 32 rfl Tryd.underlying22 info37 rfl (by decide) (by omega) v285 y284 t280 _ _ _ (fun k_ => some k_ ≠ (.slice (some ad278) t269.length co48 : Value).ownBlock ∧ some k_ ≠ (.slice Ao53 t280.length co53 : Value).ownBlock ∧ some k_ ≠ (v291 : Value).ownBlock ∧ k_ ≠ gb279) (fun _ => False) rfl rfl ?aO ?aR (fun _ _ h => h) (fun _ h => h.elim) ?aF ?aB ?aS ?aL ?_
                     (case aR => exact cu (Kd.R_reads' HO283.out).2.2)
                     (case aB => exact (beu HB.out))
                     (case aF => exact (fun k_ hk => ⟨Kd.fresh' (Kd.R_lt (ru HO_9.out)) k_ hk, Kd.fresh' (Kd.R_lt (ru HO283.out)) k_ hk, Kd.fresh' (Kd.R_lt (ru HO292.out)) k_ hk, Kd.freshB (bu BK279.out) k_ hk⟩))
                     (case aO => exact (ru (Kd.R_mono HO286.out (fun _ hk => ⟨hk.1.1.1.2, ⟨hk.1.1.2, ⟨hk.2, hk.1.2⟩⟩⟩))))
                     (case aS => exact (below_size (beu HB.out)))
                     (case aL => have := LMc37.out; omega)
                     intro v288 w60 ho hb hg hat; rw [← Ny287.out] at ho; have n0_ := am (Kd.R_after (ok := (fun k_ => some k_ ≠ (.slice Ao53 t280.length co53 : Value).ownBlock ∧ some k_ ≠ (v291 : Value).ownBlock ∧ k_ ≠ gb279)) (ru (Kd.R_mono HO_9.out (fun _ hk => ⟨⟨hk.1.1.1, ⟨hk.2, hk.1.1.2⟩⟩, hk.1.2⟩))) hg hat); have n1_ := am (blk_grown (bu BK279.out) hg (Kd.R_away HO286.out (fun _ hk => hk.1.2))); have n2_ := am (Kd.R_after (ok := (fun k_ => some k_ ≠ (.slice (some ad278) t269.length co48 : Value).ownBlock ∧ some k_ ≠ (v291 : Value).ownBlock ∧ k_ ≠ gb279)) (ru (Kd.R_mono HO283.out (fun _ hk => ⟨⟨hk.1.1.1, ⟨hk.2, hk.1.1.2⟩⟩, hk.1.2⟩))) hg hat); have n3_ := am (Kd.R_after (ok := (fun k_ => some k_ ≠ (.slice (some ad278) t269.length co48 : Value).ownBlock ∧ some k_ ≠ (.slice Ao53 t280.length co53 : Value).ownBlock ∧ k_ ≠ gb279)) (ru (Kd.R_mono HO292.out (fun _ hk => ⟨⟨hk.1.1.1.2, ⟨hk.1.1.2, hk.2⟩⟩, hk.1.2⟩))) hg hat); have n4_ := am (hb); have n5_ := am (ho); clear HO_9 BK279 HO283 HO292 HB HO286; have HO_9 := n0_; have BK279 := n1_; have HO283 := n2_; have HO292 := n3_; have HB := n4_; have HO289 := n5_; clear n0_ n1_ n2_ n3_ n4_ n5_ ho hb hg hat; refine hK.out _ _ ⟨(blk_cell BK279.out 0).trans rfl, (blk_cell BK279.out 1).trans rfl, (blk_cell BK279.out 2).trans rfl⟩ (fun hHeld => ?_); clear hK K; refine norm_ (a' := ?_) ?_ ?_; rotate_left
                     ·show Act.put _ (some 110) _ = _
                      simp only [Act.put, sA, sB, sC, i64_w, i32_w]
                      rfl
                     exact norm_ (by simp only [putAll, Act.put, sA, sB, sC]) (hCont (v285, v288, v291) _ ⟨hHeld, (ru (Kd.R_mono HO283.out (fun _ hk => ⟨hk.2, ⟨hk.1.2.1, ⟨hk.1.1, hk.1.2.2⟩⟩⟩))), (ru (Kd.R_mono HO289.out (fun _ hk => ⟨hk.2.1, ⟨hk.2.2.1, ⟨hk.1, hk.2.2.2⟩⟩⟩))), (ru (Kd.R_mono HO292.out (fun _ hk => ⟨hk.1.2.1, ⟨hk.2, ⟨hk.1.1, hk.1.2.2⟩⟩⟩))), (ru (Kd.R_mono HO_9.out (fun _ hk => ⟨hk.1.1, ⟨hk.2, ⟨hk.1.2.1, hk.1.2.2⟩⟩⟩))), (bu BK279.out), (beu HB.out)⟩)
                   ·skip
                    refine Kd.R_lit_step k37 _ 37 ?hg (N := 112) ?hd (xs := ([(⟨(rd_T37 t269 (ji32)).f0, a2, (rd_T37 t269 (ji32)).f2⟩ : S37)] : List (S37))) (inner := [.string ((rd_T37 t269 (ji32)).f0), .int .i64 a2, .int .i64 ((rd_T37 t269 (ji32)).f2)]) (ok := fun _ => True) (okp := fun _ => True) ?hr ?hp (fun _ hk => hk) trivial (Below.refl _ _) (Nat.le_refl _) (by simp) ?_; (case hd => rfl); (case hg => rfl); (case hr => first | (go_simp; done) | (go_simp; rfl)); (case hp => exact (Reps.c3 (show Kd.M k37 _ _ _ (⟨(rd_T37 t269 (ji32)).f0, a2, (rd_T37 t269 (ji32)).f2⟩ : S37) [.string ((rd_T37 t269 (ji32)).f0), .int .i64 a2, .int .i64 ((rd_T37 t269 (ji32)).f2)] from (k37_mkM _ _ _ (⟨(rd_T37 t269 (ji32)).f0, a2, (rd_T37 t269 (ji32)).f2⟩ : S37) )) (Reps.none _ _)))
                    intro v291 w56 ho57 hb hg_ hnew_; clear hg_ hnew_
                    (first | rw [← Ny290.out] at ho57 | (simp only [Int.reduceToNat] at ho57; rw [← Ny290.out] at ho57))
                    have n0_ := am (Kd.R_elder' (ru HO_9.out) (Kd.R_base ho57) hb); have n1_ := am (Kd.R_elder' (ru HO283.out) (Kd.R_base ho57) hb); have n2_ := am (Kd.R_lower (Kd.R_newB (Kd.R_new' (Kd.R_new' ho57 (Kd.R_lt (ru HO_9.out))) (Kd.R_lt (ru HO283.out))) (bu BK279.out)) (below_size (beu HB.out))); have n3_ := am (blk_below (bu BK279.out) hb); have n4_ := am (below_step (beu HB.out) hb); clear HO_9 HO283 BK279 HB; have HO_9 := n0_; have HO283 := n1_; have HO292 := n2_; have BK279 := n3_; have HB := n4_; clear n0_ n1_ n2_ n3_ n4_ hb ho57; refine hK.out _ _ ⟨(blk_cell BK279.out 0).trans rfl, (blk_cell BK279.out 1).trans rfl, (blk_cell BK279.out 2).trans rfl⟩ (fun hHeld => ?_); clear hK K; refine norm_ (a' := ?_) ?_ ?_; rotate_left
                    ·show Act.put _ (some 112) _ = _
                     simp only [Act.put, sA, sB, sC, i64_w, i32_w]
                     rfl
                    refine one_ (i := 0) (N := some 108) (bs 12 27) rfl rfl (one_of HT_.out (by kernel_rfl)) (by decide) (fun K hK => ?_)
                    refine Kd.R_lit_step k37 _ 37 ?hg (N := 108) ?hd (xs := ([] : List (S37))) (inner := []) (ok := fun _ => True) (okp := fun _ => True) ?hr ?hp (fun _ hk => hk) trivial (Below.refl _ _) (Nat.le_refl _) (by simp) ?_; (case hd => rfl); (case hg => rfl); (case hr => first | (go_simp; done) | (go_simp; rfl)); (case hp => exact (Reps.none _ _))
                    intro v285 w58 ho59 hb hg_ hnew_; clear hg_ hnew_
                    (first | rw [← Ny284.out] at ho59 | (simp only [Int.reduceToNat] at ho59; rw [← Ny284.out] at ho59))
                    have n0_ := am (Kd.R_elder' (ru HO_9.out) (Kd.R_base ho59) hb); have n1_ := am (Kd.R_elder' (ru HO283.out) (Kd.R_base ho59) hb); have n2_ := am (Kd.R_elder' (ru HO292.out) (Kd.R_base ho59) hb); have n3_ := am (Kd.R_lower (Kd.R_newB (Kd.R_new' (Kd.R_new' (Kd.R_new' ho59 (Kd.R_lt (ru HO_9.out))) (Kd.R_lt (ru HO283.out))) (Kd.R_lt (ru HO292.out))) (bu BK279.out)) (below_size (beu HB.out))); have n4_ := am (blk_below (bu BK279.out) hb); have n5_ := am (below_step (beu HB.out) hb); clear HO_9 HO283 HO292 BK279 HB; have HO_9 := n0_; have HO283 := n1_; have HO292 := n2_; have HO286 := n3_; have BK279 := n4_; have HB := n5_; clear n0_ n1_ n2_ n3_ n4_ n5_ hb ho59; refine hK.out _ _ ⟨(blk_cell BK279.out 0).trans rfl, (blk_cell BK279.out 1).trans rfl, (blk_cell BK279.out 2).trans rfl⟩ (fun hHeld => ?_); clear hK K; refine norm_ (a' := ?_) ?_ ?_; rotate_left
                    ·show Act.put _ (some 108) _ = _
                     simp only [Act.put, sA, sB, sC, i64_w, i32_w]
                     rfl
                    refine one_ (i := 2) (N := some 110) (bs 12 31) rfl rfl (one_of HT_.out (by kernel_rfl)) (by decide) (fun K hK => ?_); refine Kd.R_append_rows_step k37 (w0 := w) w.heap.size (by rfl) (.tmp 108) (.tmp 109) 22 37 (.agg #[(.string ⟨#[]⟩), (.int .i64 0), (.int .i64 0)]) 32 rfl Tryd.underlying22 info37 rfl (by decide) (by omega) v285 y284 t280 _ _ _ (fun k_ => some k_ ≠ (.slice (some ad278) t269.length co48 : Value).ownBlock ∧ some k_ ≠ (.slice Ao53 t280.length co53 : Value).ownBlock ∧ some k_ ≠ (v291 : Value).ownBlock ∧ k_ ≠ gb279) (fun _ => False) rfl rfl ?aO ?aR (fun _ _ h => h) (fun _ h => h.elim) ?aF ?aB ?aS ?aL ?_
                    (case aR => exact cu (Kd.R_reads' HO283.out).2.2)
                    (case aB => exact (beu HB.out))
                    (case aF => exact (fun k_ hk => ⟨Kd.fresh' (Kd.R_lt (ru HO_9.out)) k_ hk, Kd.fresh' (Kd.R_lt (ru HO283.out)) k_ hk, Kd.fresh' (Kd.R_lt (ru HO292.out)) k_ hk, Kd.freshB (bu BK279.out) k_ hk⟩))
                    (case aO => exact (ru (Kd.R_mono HO286.out (fun _ hk => ⟨hk.1.1.1.2, ⟨hk.1.1.2, ⟨hk.1.2, hk.2⟩⟩⟩))))
                    (case aS => exact (below_size (beu HB.out)))
                    (case aL => have := LMc37.out; omega)
                    intro v288 w60 ho hb hg hat; rw [← Ny287.out] at ho; have n0_ := am (Kd.R_after (ok := (fun k_ => some k_ ≠ (.slice Ao53 t280.length co53 : Value).ownBlock ∧ some k_ ≠ (v291 : Value).ownBlock ∧ k_ ≠ gb279)) (ru (Kd.R_mono HO_9.out (fun _ hk => ⟨⟨hk.1.1.1, ⟨hk.1.2, hk.1.1.2⟩⟩, hk.2⟩))) hg hat); have n1_ := am (blk_grown (bu BK279.out) hg (Kd.R_away HO286.out (fun _ hk => hk.2))); have n2_ := am (Kd.R_after (ok := (fun k_ => some k_ ≠ (.slice (some ad278) t269.length co48 : Value).ownBlock ∧ some k_ ≠ (v291 : Value).ownBlock ∧ k_ ≠ gb279)) (ru (Kd.R_mono HO283.out (fun _ hk => ⟨⟨hk.1.1.1, ⟨hk.1.2, hk.1.1.2⟩⟩, hk.2⟩))) hg hat); have n3_ := am (Kd.R_after (ok := (fun k_ => some k_ ≠ (.slice (some ad278) t269.length co48 : Value).ownBlock ∧ some k_ ≠ (.slice Ao53 t280.length co53 : Value).ownBlock ∧ k_ ≠ gb279)) (ru (Kd.R_mono HO292.out (fun _ hk => ⟨⟨hk.1.1.1.2, ⟨hk.1.1.2, hk.1.2⟩⟩, hk.2⟩))) hg hat); have n4_ := am (hb); have n5_ := am (ho); clear HO_9 BK279 HO283 HO292 HB HO286; have HO_9 := n0_; have BK279 := n1_; have HO283 := n2_; have HO292 := n3_; have HB := n4_; have HO289 := n5_; clear n0_ n1_ n2_ n3_ n4_ n5_ ho hb hg hat; refine hK.out _ _ ⟨(blk_cell BK279.out 0).trans rfl, (blk_cell BK279.out 1).trans rfl, (blk_cell BK279.out 2).trans rfl⟩ (fun hHeld => ?_); clear hK K; refine norm_ (a' := ?_) ?_ ?_; rotate_left
                    ·show Act.put _ (some 110) _ = _
                     simp only [Act.put, sA, sB, sC, i64_w, i32_w]
                     rfl
                    exact norm_ (by simp only [putAll, Act.put, sA, sB, sC]) (hCont (v285, v288, v291) _ ⟨hHeld, (ru (Kd.R_mono HO283.out (fun _ hk => ⟨hk.2, ⟨hk.1.2.1, ⟨hk.1.1, hk.1.2.2⟩⟩⟩))), (ru (Kd.R_mono HO289.out (fun _ hk => ⟨hk.2.1, ⟨hk.2.2.1, ⟨hk.1, hk.2.2.2⟩⟩⟩))), (ru (Kd.R_mono HO292.out (fun _ hk => ⟨hk.1.2.1, ⟨hk.2, ⟨hk.1.1, hk.1.2.2⟩⟩⟩))), (ru (Kd.R_mono HO_9.out (fun _ hk => ⟨hk.1.1, ⟨hk.2, ⟨hk.1.2.1, hk.1.2.2⟩⟩⟩))), (bu BK279.out), (beu HB.out)⟩)
                  rintro ⟨v285, v288, v291⟩ w61 ⟨hS_, h0_, h1_, h2_, h3_, h4_, h5_⟩; have n0_ : Aside0 (Kd.R k37 37 w61 w.heap.size (fun k_ => some k_ ≠ (v288 : Value).ownBlock ∧ some k_ ≠ (v291 : Value).ownBlock ∧ some k_ ≠ (.slice (some ad278) t269.length co48 : Value).ownBlock ∧ k_ ≠ gb279) (.slice Ao53 t280.length co53) t280) := ⟨h0_⟩; have n1_ : Aside0 (Kd.R k37 37 w61 w.heap.size (fun k_ => some k_ ≠ (.slice Ao53 t280.length co53 : Value).ownBlock ∧ some k_ ≠ (v291 : Value).ownBlock ∧ some k_ ≠ (.slice (some ad278) t269.length co48 : Value).ownBlock ∧ k_ ≠ gb279) v288 y287) := ⟨h1_⟩; have n2_ : Aside0 (Kd.R k37 37 w61 w.heap.size (fun k_ => some k_ ≠ (.slice Ao53 t280.length co53 : Value).ownBlock ∧ some k_ ≠ (v288 : Value).ownBlock ∧ some k_ ≠ (.slice (some ad278) t269.length co48 : Value).ownBlock ∧ k_ ≠ gb279) v291 y290) := ⟨h2_⟩; have n3_ : Aside0 (Kd.R k37 37 w61 w.heap.size (fun k_ => some k_ ≠ (.slice Ao53 t280.length co53 : Value).ownBlock ∧ some k_ ≠ (v288 : Value).ownBlock ∧ some k_ ≠ (v291 : Value).ownBlock ∧ k_ ≠ gb279) (.slice (some ad278) t269.length co48) t269) := ⟨h3_⟩; have n4_ : Aside0 (w61.heap[gb279]? = some (.cells #[.string ((rd_T37 t269 (ji32)).f0), .int .i64 a2, .int .i64 ((rd_T37 t269 (ji32)).f2)] 37 (0, 0))) := ⟨h4_⟩; have n5_ : Aside0 (Below w.heap.size w w61) := ⟨h5_⟩; clear HO_9 HO283 BK279 HB h0_ h1_ h2_ h3_ h4_ h5_; have HO283 := n0_; have HO289 := n1_; have HO292 := n2_; have HO_9 := n3_; have BK279 := n4_; have HB := n5_; clear n0_ n1_ n2_ n3_ n4_ n5_; have hHeld : w61.cell? ⟨gb279, 0, none⟩ = some (.string ((rd_T37 t269 (ji32)).f0)) ∧ w61.cell? ⟨gb279, 1, none⟩ = some (.int .i64 a2) ∧ w61.cell? ⟨gb279, 2, none⟩ = some (.int .i64 ((rd_T37 t269 (ji32)).f2)) := hS_; obtain ⟨Ao63, co63, eo63⟩ := Kd.R_slice HO292.out
                  (first | subst eo63 | (injection eo63 with f1_ f2_ f3_; have f4_ := f1_.symm; have f5_ := f3_.symm; clear f1_ f2_ f3_; subst f4_; subst f5_))
                  refine norm_ (a' := ?_) ?_ ?_; rotate_left
                  ·simp only [putAll, Act.put, sA, sB, sC]
                   rfl
                  refine one_ (i := 5) (N := some 113) (bs 12 63) rfl rfl (one_of HT_.out (by kernel_rfl)) (by decide) (fun K hK => ?_); refine Kd.R_append_rows_step k37 (w0 := w) w.heap.size (by rfl) (.tmp 110) (.tmp 112) 22 37 (.agg #[(.string ⟨#[]⟩), (.int .i64 0), (.int .i64 0)]) 32 rfl Tryd.underlying22 info37 rfl (by decide) (by omega) v288 y287 y290 _ _ _ (fun k_ => some k_ ≠ (.slice (some ad278) t269.length co48 : Value).ownBlock ∧ some k_ ≠ (.slice Ao53 t280.length co53 : Value).ownBlock ∧ some k_ ≠ (.slice Ao63 y290.length co63 : Value).ownBlock ∧ k_ ≠ gb279) (fun _ => False) rfl rfl ?aO ?aR (fun _ _ h => h) (fun _ h => h.elim) ?aF ?aB ?aS ?aL ?_
                  (case aR => exact cu (Kd.R_reads' HO292.out).2.2)
                  (case aB => exact (beu HB.out))
                  (case aF => exact (fun k_ hk => ⟨Kd.fresh' (Kd.R_lt (ru HO_9.out)) k_ hk, Kd.fresh' (Kd.R_lt (ru HO283.out)) k_ hk, Kd.fresh' (Kd.R_lt (ru HO292.out)) k_ hk, Kd.freshB (bu BK279.out) k_ hk⟩))
                  (case aO => exact (ru (Kd.R_mono HO289.out (fun _ hk => ⟨hk.2.2.1, ⟨hk.1, ⟨hk.2.1, hk.2.2.2⟩⟩⟩))))
                  (case aS => exact (below_size (beu HB.out)))
                  (case aL => have := LMc38.out; omega)
                  intro v294 w62 ho hb hg hat; rw [← Ny293.out] at ho; have n0_ := am (Kd.R_after (ok := (fun k_ => some k_ ≠ (.slice Ao53 t280.length co53 : Value).ownBlock ∧ some k_ ≠ (.slice Ao63 y290.length co63 : Value).ownBlock ∧ k_ ≠ gb279)) (ru (Kd.R_mono HO_9.out (fun _ hk => ⟨⟨hk.1, ⟨hk.2.2.1, hk.2.2.2⟩⟩, hk.2.1⟩))) hg hat); have n1_ := am (blk_grown (bu BK279.out) hg (Kd.R_away HO289.out (fun _ hk => hk.2.2.2))); have n2_ := am (Kd.R_after (ok := (fun k_ => some k_ ≠ (.slice (some ad278) t269.length co48 : Value).ownBlock ∧ some k_ ≠ (.slice Ao63 y290.length co63 : Value).ownBlock ∧ k_ ≠ gb279)) (ru (Kd.R_mono HO283.out (fun _ hk => ⟨⟨hk.2.2.1, ⟨hk.2.1, hk.2.2.2⟩⟩, hk.1⟩))) hg hat); have n3_ := am (Kd.R_after (ok := (fun k_ => some k_ ≠ (.slice (some ad278) t269.length co48 : Value).ownBlock ∧ some k_ ≠ (.slice Ao53 t280.length co53 : Value).ownBlock ∧ k_ ≠ gb279)) (ru (Kd.R_mono HO292.out (fun _ hk => ⟨⟨hk.2.2.1, ⟨hk.1, hk.2.2.2⟩⟩, hk.2.1⟩))) hg hat); have n4_ := am (hb); have n5_ := am (ho); clear HO_9 BK279 HO283 HO292 HB HO289; have HO_9 := n0_; have BK279 := n1_; have HO283 := n2_; have HO292 := n3_; have HB := n4_; have HO295 := n5_; clear n0_ n1_ n2_ n3_ n4_ n5_ ho hb hg hat; obtain ⟨Ao64, co64, eo64⟩ := Kd.R_slice HO295.out
                  (first | subst eo64 | (injection eo64 with f1_ f2_ f3_; have f4_ := f1_.symm; have f5_ := f3_.symm; clear f1_ f2_ f3_; subst f4_; subst f5_))
                  refine hK.out _ _ ⟨(blk_cell BK279.out 0).trans rfl, (blk_cell BK279.out 1).trans rfl, (blk_cell BK279.out 2).trans rfl⟩ (fun hHeld => ?_); clear hK K; refine norm_ (a' := ?_) ?_ ?_; rotate_left
                  ·show Act.put _ (some 113) _ = _
                   simp only [Act.put, sA, sB, sC, i64_w, i32_w]
                   rfl
                  refine one_ (i := 6) (N := some 114) (bs 12 127) rfl rfl (one_of HT_.out (by kernel_rfl)) (by decide) (fun K hK => ?_); refine goes_ Tryd.func11 (by kernel_rfl) rfl #[.slice Ao64 y293.length co64] (by rfl) rfl rfl ap1 ?_; with_reducible refine (lines_Merge.calls kj20 _ _ y293 t296 t297 _ ?side1 ?side2 ?side3 A39.out).mono ?_
                  (case side1 => exact cu (Kd.R_reads' HO295.out).2.2)
                  (case side2 => exact (Kd.R_reads' HO295.out).2.1)
                  (case side3 => first | (with_reducible exact HT.out) | exact Tabs.below HT.out (beu HB.out))
                  rintro e w65 ⟨v298, rfl, ho0, hb⟩; refine ⟨_, rfl, ?_⟩; have n0_ := am (Kd.R_elder' (ru HO_9.out) (Kd.R_base ho0) hb); have n1_ := am (Kd.R_elder' (ru HO283.out) (Kd.R_base ho0) hb); have n2_ := am (Kd.R_elder' (ru HO292.out) (Kd.R_base ho0) hb); have n3_ := am (Kd.R_elder' (ru HO295.out) (Kd.R_base ho0) hb); have n4_ := am (Kd.R_lower (Kd.R_newB (Kd.R_new' (Kd.R_new' (Kd.R_new' (Kd.R_new' ho0 (Kd.R_lt (ru HO_9.out))) (Kd.R_lt (ru HO283.out))) (Kd.R_lt (ru HO292.out))) (Kd.R_lt (ru HO295.out))) (bu BK279.out)) (below_size (beu HB.out))); have n5_ := am (blk_below (bu BK279.out) hb); have n6_ := am (below_step (beu HB.out) hb); clear HO_9 HO283 HO292 HO295 BK279 HB; have HO_9 := n0_; have HO283 := n1_; have HO292 := n2_; have HO295 := n3_; have HO299 := n4_; have BK279 := n5_; have HB := n6_; clear n0_ n1_ n2_ n3_ n4_ n5_ n6_
                  (try clear hb)
                  (try clear hb2)
                  (try clear hk)
                  (try clear hi)
                  (try clear ho0)
                  refine hK.out _ _ ⟨(blk_cell BK279.out 0).trans rfl, (blk_cell BK279.out 1).trans rfl, (blk_cell BK279.out 2).trans rfl⟩ (fun hHeld => ?_); clear hK K; refine norm_ (a' := ?_) ?_ ?_; rotate_left
                  ·show Act.put _ (some 114) _ = _
                   simp only [Act.put, sA, sB, sC, i64_w, i32_w]
                   rfl
                  refine pure_ (i := 7) (N := some 107) (v := ?_) (a' := ?_) (bs 12 255) rfl rfl (ak HT_.out) (fun _ _ _ h => h) (Or.inl ⟨by rfl, ?_⟩) ?_ ?_; rotate_left
                  ·intro w'
                   go_simp
                   with_reducible rfl
                  rotate_left
                  ·simp only [Act.put, sA, sB, sC, i64_w, i32_w]
                   rfl
                  refine pure_ (i := 8) (N := some 115) (v := ?_) (a' := ?_) (bs 12 511) rfl rfl (ak HT_.out) (fun _ _ _ h => h) (Or.inl ⟨by rfl, ?_⟩) ?_ ?_; rotate_left
                  ·intro w'
                   go_simp
                   with_reducible rfl
                  rotate_left
                  ·simp only [Act.put, sA, sB, sC, i64_w, i32_w]
                   rfl
                  refine pure_ (i := 9) (N := some 116) (v := ?_) (a' := ?_) (bs 12 1023) rfl rfl (ak HT_.out) (fun _ _ _ h => h) (Or.inl ⟨by rfl, ?_⟩) ?_ ?_; rotate_left
                  ·intro w'
                   go_simp
                   with_reducible rfl
                  rotate_left
                  ·simp only [Act.put, sA, sB, sC, i64_w, i32_w]
                   rfl
                  refine pure_ (i := 10) (N := some 16) (v := ?_) (a' := ?_) (bs 12 2047) rfl rfl (ak HT_.out) (fun _ _ _ h => h) (Or.inl ⟨by rfl, ?_⟩) ?_ ?_; rotate_left
                  ·intro w'
                   go_simp
                   with_reducible rfl
                  rotate_left
                  ·simp only [Act.put, sA, sB, sC, i64_w, i32_w]
                   rfl
                  refine pure_ (i := 11) (N := some 17) (v := ?_) (a' := ?_) (bs 12 4095) rfl rfl (ak HT_.out) (fun _ _ _ h => h) (Or.inl ⟨by rfl, ?_⟩) ?_ ?_; rotate_left
                  ·intro w'
                   go_simp
                   with_reducible rfl
                  rotate_left
                  ·simp only [Act.put, sA, sB, sC, i64_w, i32_w]
                   rfl
                  refine done_ (done_of HT_.out (by kernel_rfl)) ?_
                  try go_wp2
                  (try (rw [drewN_self w65]; generalize hq_ : World.drewN w65 _ = w65; have _ := am (show Kd.R _ _ w65 _ _ _ _ from by rw [← hq_]; exact Kd.R_drewN HO_9.out _); have _ := am (show Kd.R _ _ w65 _ _ _ _ from by rw [← hq_]; exact Kd.R_drewN HO283.out _); have _ := am (show Kd.R _ _ w65 _ _ _ _ from by rw [← hq_]; exact Kd.R_drewN HO292.out _); have _ := am (show Kd.R _ _ w65 _ _ _ _ from by rw [← hq_]; exact Kd.R_drewN HO295.out _); have _ := am (show Kd.R _ _ w65 _ _ _ _ from by rw [← hq_]; exact Kd.R_drewN HO299.out _); have _ := am (blk_at hq_ BK279.out); have _ := am (below_at hq_ HB.out); clear hq_ HO_9 HO283 HO292 HO295 HO299 BK279 HB; rename_i HO_9 HO283 HO292 HO295 HO299 BK279 HB))
                  have n0_ := am (Kd.R_drew HO_9.out); have n1_ := am (Kd.R_drew HO283.out); have n2_ := am (Kd.R_drew HO292.out); have n3_ := am (Kd.R_drew HO295.out); have n4_ := am (Kd.R_drew HO299.out); have n5_ := am (blk_drew BK279.out); have n6_ := am (below_drew1 HB.out); clear HO_9 HO283 HO292 HO295 HO299 BK279 HB; have HO_9 := n0_; have HO283 := n1_; have HO292 := n2_; have HO295 := n3_; have HO299 := n4_; have BK279 := n5_; have HB := n6_; clear n0_ n1_ n2_ n3_ n4_ n5_ n6_; obtain ⟨Ao67, co67, eo67⟩ := Kd.R_slice HO299.out
                  (first | subst eo67 | (injection eo67 with f1_ f2_ f3_; have f4_ := f1_.symm; have f5_ := f3_.symm; clear f1_ f2_ f3_; subst f4_; subst f5_))
                  refine start_ (n := 29) (S := fun w' => w'.cell? ⟨gb279, 0, none⟩ = some (.string ((rd_T37 t269 (ji32)).f0)) ∧ w'.cell? ⟨gb279, 1, none⟩ = some (.int .i64 a2) ∧ w'.cell? ⟨gb279, 2, none⟩ = some (.int .i64 ((rd_T37 t269 (ji32)).f2))) (ds := []) #[false, false, false, false, false, false, false, false, false, false, false, false, false, false, false, false, false, false, false, false, false, false, false, false, false, false, false, false, false] (by kernel_rfl) rfl rfl ⟨(blk_cell BK279.out 0).trans rfl, (blk_cell BK279.out 1).trans rfl, (blk_cell BK279.out 2).trans rfl⟩ (fun hHeld => ?_); refine with_tabW packhorselaw04_LinesBack.tab22 packhorselaw04_LinesBack.bits22 (fun HT_ HW_ => ?_)
                  generalize w65.drew = w66 at HO_9 HO283 HO292 HO295 HO299 BK279 HB hHeld ⊢; refine pure_ (i := 0) (N := some 117) (v := ?_) (a' := ?_) (bs 29 1) rfl rfl (ak HT_.out) (fun _ _ _ h => h) (Or.inl ⟨by rfl, ?_⟩) ?_ ?_; rotate_left
                  ·intro w'
                   go_simp
                   with_reducible rfl
                  rotate_left
                  ·simp only [Act.put, sA, sB, sC, i64_w, i32_w]
                   rfl
                  refine pure_ (i := 1) (N := some 118) (v := ?_) (a' := ?_) (bs 29 3) rfl rfl (ak HT_.out) (fun _ _ _ h => h) (Or.inl ⟨by rfl, ?_⟩) ?_ ?_; rotate_left
                  ·intro w'
                   go_simp
                   with_reducible rfl
                  rotate_left
                  ·simp only [Act.put, sA, sB, sC, i64_w, i32_w]
                   rfl
                  refine pure_ (i := 2) (N := some 119) (v := ?_) (a' := ?_) (bs 29 7) rfl rfl (ak HT_.out) (fun _ _ _ h => h) (Or.inl ⟨by rfl, ?_⟩) ?_ ?_; rotate_left
                  ·intro w'
                   go_simp
                   with_reducible rfl
                  rotate_left
                  ·simp only [Act.put, sA, sB, sC, i64_w, i32_w]
                   rfl
                  refine pure_ (i := 3) (N := some 120) (v := ?_) (a' := ?_) (bs 29 15) rfl rfl (ak HT_.out) (fun _ _ _ h => h) (Or.inl ⟨by rfl, ?_⟩) ?_ ?_; rotate_left
                  ·intro w'
                   go_simp
                   with_reducible rfl
                  rotate_left
                  ·simp only [Act.put, sA, sB, sC, i64_w, i32_w]
                   rfl
                  refine pure_ (i := 4) (N := some 121) (v := ?_) (a' := ?_) (bs 29 31) rfl rfl (ak HT_.out) (fun _ _ _ h => h) (Or.inl ⟨by rfl, ?_⟩) ?_ ?_; rotate_left
                  ·intro w'
                   go_simp
                   with_reducible rfl
                  rotate_left
                  ·simp only [Act.put, sA, sB, sC, i64_w, i32_w]
                   rfl
                  refine one_ (i := 5) (N := some 122) (bs 29 63) rfl rfl (one_of HT_.out (by kernel_rfl)) (by decide) (fun K hK => ?_); refine goes_ Tryd.func13 (by kernel_rfl) rfl #[.slice Ao67 t296.length co67, .slice (some ad278) t269.length co48] (by rfl) rfl rfl ap1 ?_; with_reducible refine (packhorseref04_Same.calls kj20 _ _ t296 _ _ t269 true _ ?side1 ?side2 ?side3 ?side4 A41.out).mono ?_
                  (case side1 => exact cu (Kd.R_reads' HO299.out).2.2)
                  (case side2 => exact (Kd.R_reads' HO299.out).2.1)
                  (case side3 => exact cu (Kd.R_reads' HO_9.out).2.2)
                  (case side4 => exact (Kd.R_reads' HO_9.out).2.1)
                  rintro e w' ⟨rfl, ⟨nd, rfl⟩⟩; refine ⟨_, rfl, ?_⟩; refine hK.out _ _ ⟨(blk_cell BK279.out 0).trans rfl, (blk_cell BK279.out 1).trans rfl, (blk_cell BK279.out 2).trans rfl⟩ (fun hHeld => ?_); clear hK K; refine norm_ (a' := ?_) ?_ ?_; rotate_left
                  ·show Act.put _ (some 122) _ = _
                   simp only [Act.put, sA, sB, sC, i64_w, i32_w]
                   rfl
                  refine pure_ (i := 6) (N := some 123) (v := ?_) (a' := ?_) (bs 29 127) rfl rfl (ak HT_.out) (fun _ _ _ h => h) (Or.inl ⟨by rfl, ?_⟩) ?_ ?_; rotate_left
                  ·intro w'
                   go_simp
                   with_reducible rfl
                  rotate_left
                  ·simp only [Act.put, sA, sB, sC, i64_w, i32_w]
                   rfl
                  refine pure_ (i := 7) (N := some 124) (v := ?_) (a' := ?_) (bs 29 255) rfl rfl (ak HT_.out) (fun _ _ _ h => h) (Or.inl ⟨by rfl, ?_⟩) ?_ ?_; rotate_left
                  ·intro w'
                   go_simp
                   with_reducible rfl
                  rotate_left
                  ·simp only [Act.put, sA, sB, sC, i64_w, i32_w]
                   rfl
                  refine pure_ (i := 8) (N := some 125) (v := ?_) (a' := ?_) (bs 29 511) rfl rfl (ak HT_.out) (fun _ _ _ h => h) (Or.inl ⟨by rfl, ?_⟩) ?_ ?_; rotate_left
                  ·intro w'
                   go_simp
                   with_reducible rfl
                  rotate_left
                  ·simp only [Act.put, sA, sB, sC, i64_w, i32_w]
                   rfl
                  refine pure_ (i := 10) (N := some 127) (v := ?_) (a' := ?_) (bs 29 1535) rfl rfl (ak HT_.out) (fun _ _ _ h => h) (Or.inl ⟨by rfl, ?_⟩) ?_ ?_; rotate_left
                  ·intro w'
                   go_simp
                   with_reducible rfl
                  rotate_left
                  ·simp only [Act.put, sA, sB, sC, i64_w, i32_w]
                   rfl
                  refine pure_ (i := 12) (N := some 129) (v := ?_) (a' := ?_) (bs 29 5631) rfl rfl (ak HT_.out) (fun _ _ _ h => h) (Or.inl ⟨by rfl, ?_⟩) ?_ ?_; rotate_left
                  ·intro w'
                   go_simp
                   with_reducible rfl
                  rotate_left
                  ·simp only [Act.put, sA, sB, sC, i64_w, i32_w]
                   rfl
                  refine one_ (i := 9) (N := some 126) (bs 29 6143) rfl rfl (one_of HT_.out (by kernel_rfl)) (by decide) (fun K hK => ?_); refine goes_ Tryd.func16 (by kernel_rfl) rfl #[.slice Ao53 t280.length co53] (by rfl) rfl rfl ap1 ?_; with_reducible refine (lines_Pieces.calls kj20 _ _ t280 t301 _ ?side1 ?side2 ?side3 A43.out).mono ?_
                  (case side1 => exact cu (Kd.R_reads' HO283.out).2.2)
                  (case side2 => exact (Kd.R_reads' HO283.out).2.1)
                  (case side3 => first | (with_reducible exact HT.out) | exact Tabs.below HT.out (beu HB.out))
                  rintro e w68 ⟨rfl, hb⟩; refine ⟨_, rfl, ?_⟩; have n0_ := am (Kd.R_below (ru HO_9.out) hb); have n1_ := am (Kd.R_below (ru HO283.out) hb); have n2_ := am (Kd.R_below (ru HO292.out) hb); have n3_ := am (Kd.R_below (ru HO295.out) hb); have n4_ := am (Kd.R_below (ru HO299.out) hb); have n5_ := am (blk_below (bu BK279.out) hb); have n6_ := am (below_step (beu HB.out) hb); clear HO_9 HO283 HO292 HO295 HO299 BK279 HB; have HO_9 := n0_; have HO283 := n1_; have HO292 := n2_; have HO295 := n3_; have HO299 := n4_; have BK279 := n5_; have HB := n6_; clear n0_ n1_ n2_ n3_ n4_ n5_ n6_
                  (try clear hb)
                  (try clear hb2)
                  (try clear hk)
                  (try clear hi)
                  refine hK.out _ _ ⟨(blk_cell BK279.out 0).trans rfl, (blk_cell BK279.out 1).trans rfl, (blk_cell BK279.out 2).trans rfl⟩ (fun hHeld => ?_); clear hK K; refine norm_ (a' := ?_) ?_ ?_; rotate_left
                  ·show Act.put _ (some 126) _ = _
                   simp only [Act.put, sA, sB, sC, i64_w, i32_w]
                   rfl
                  refine pure_ (i := 11) (N := some 128) (v := ?_) (a' := ?_) (bs 29 8191) rfl rfl (ak HT_.out) (fun _ _ _ h => h) (Or.inl ⟨by rfl, ?_⟩) ?_ ?_; rotate_left
                  ·intro w'
                   go_simp
                   with_reducible rfl
                  rotate_left
                  ·simp only [Act.put, sA, sB, sC, i64_w, i32_w]
                   rfl
                  refine one_ (i := 13) (N := some 130) (bs 29 16383) rfl rfl (one_of HT_.out (by kernel_rfl)) (by decide) (fun K hK => ?_); refine goes_ Tryd.func16 (by kernel_rfl) rfl #[.slice (some ad278) t269.length co48] (by rfl) rfl rfl ap1 ?_; with_reducible refine (lines_Pieces.calls kj20 _ _ t269 t302 _ ?side1 ?side2 ?side3 A44.out).mono ?_
                  (case side1 => exact cu (Kd.R_reads' HO_9.out).2.2)
                  (case side2 => exact (Kd.R_reads' HO_9.out).2.1)
                  (case side3 => first | (with_reducible exact HT.out) | exact Tabs.below HT.out (beu HB.out))
                  rintro e w69 ⟨rfl, hb⟩; refine ⟨_, rfl, ?_⟩; have n0_ := am (Kd.R_below (ru HO_9.out) hb); have n1_ := am (Kd.R_below (ru HO283.out) hb); have n2_ := am (Kd.R_below (ru HO292.out) hb); have n3_ := am (Kd.R_below (ru HO295.out) hb); have n4_ := am (Kd.R_below (ru HO299.out) hb); have n5_ := am (blk_below (bu BK279.out) hb); have n6_ := am (below_step (beu HB.out) hb); clear HO_9 HO283 HO292 HO295 HO299 BK279 HB; have HO_9 := n0_; have HO283 := n1_; have HO292 := n2_; have HO295 := n3_; have HO299 := n4_; have BK279 := n5_; have HB := n6_; clear n0_ n1_ n2_ n3_ n4_ n5_ n6_
                  (try clear hb)
                  (try clear hb2)
                  (try clear hk)
                  (try clear hi)
                  refine hK.out _ _ ⟨(blk_cell BK279.out 0).trans rfl, (blk_cell BK279.out 1).trans rfl, (blk_cell BK279.out 2).trans rfl⟩ (fun hHeld => ?_); clear hK K; refine norm_ (a' := ?_) ?_ ?_; rotate_left
                  ·show Act.put _ (some 130) _ = _
                   simp only [Act.put, sA, sB, sC, i64_w, i32_w]
                   rfl
                  refine pure_ (i := 14) (N := some 131) (v := ?_) (a' := ?_) (bs 29 32767) rfl rfl (ak HT_.out) (fun _ _ _ h => h) (Or.inl ⟨by rfl, ?_⟩) ?_ ?_; rotate_left
                  ·intro w'
                   go_simp
                   with_reducible rfl
                  rotate_left
                  ·simp only [Act.put, sA, sB, sC, i64_w, i32_w]
                   rfl
                  refine pure_ (i := 15) (N := some 132) (v := ?_) (a' := ?_) (bs 29 65535) rfl rfl (ak HT_.out) (fun _ _ _ h => h) (Or.inl ⟨by rfl, ?_⟩) ?_ ?_; rotate_left
                  ·intro w'
                   go_simp
                   with_reducible rfl
                  rotate_left
                  ·simp only [Act.put, sA, sB, sC, i64_w, i32_w]
                   rfl
                  refine pure_ (i := 16) (N := some 133) (v := ?_) (a' := ?_) (bs 29 131071) rfl rfl (ak HT_.out) (fun _ _ _ h => h) (Or.inl ⟨by rfl, ?_⟩) ?_ ?_; rotate_left
                  ·intro w'
                   go_simp
                   with_reducible rfl
                  rotate_left
                  ·simp only [Act.put, sA, sB, sC, i64_w, i32_w]
                   rfl
                  refine pure_ (i := 17) (N := some 134) (v := ?_) (a' := ?_) (bs 29 262143) rfl rfl (ak HT_.out) (fun _ _ _ h => h) (Or.inl ⟨by rfl, ?_⟩) ?_ ?_; rotate_left
                  ·intro w'
                   go_simp
                   with_reducible rfl
                  rotate_left
                  ·simp only [Act.put, sA, sB, sC, i64_w, i32_w]
                   rfl
                  refine pure_ (i := 19) (N := some 136) (v := ?_) (a' := ?_) (bs 29 786431) rfl rfl (ak HT_.out) (fun _ _ _ h => h) (Or.inl ⟨by rfl, ?_⟩) ?_ ?_; rotate_left
                  ·intro w'
                   go_simp
                   with_reducible rfl
                  rotate_left
                  ·simp only [Act.put, sA, sB, sC, i64_w, i32_w]
                   rfl
                  refine pure_ (i := 20) (N := some 137) (v := ?_) (a' := ?_) (bs 29 1835007) rfl rfl (ak HT_.out) (fun _ _ _ h => h) (Or.inl ⟨by rfl, ?_⟩) ?_ ?_; rotate_left
                  ·intro w'
                   go_simp
                   with_reducible rfl
                  rotate_left
                  ·simp only [Act.put, sA, sB, sC, i64_w, i32_w]
                   rfl
                  refine pure_ (i := 24) (N := some 141) (v := ?_) (a' := ?_) (bs 29 18612223) rfl rfl (ak HT_.out) (fun _ _ _ h => h) (Or.inl ⟨by rfl, ?_⟩) ?_ ?_; rotate_left
                  ·intro w'
                   go_simp
                   with_reducible rfl
                  rotate_left
                  ·simp only [Act.put, sA, sB, sC, i64_w, i32_w]
                   rfl
                  refine take_ (i := 21) (N := some 138) (v := ?_) (a' := ?_) (bs 29 20709375) rfl rfl (take_ofW HT_.out HW_.out (by kernel_rfl)) (fun _ _ _ h => h) (Or.inl ⟨by rfl, ?_⟩) hHeld ?_ ?_; rotate_left
                  ·rintro w' ⟨s0, s1, s2⟩
                   go_simp
                   with_reducible rfl
                  rotate_left
                  ·simp only [Act.put, sA, sB, sC, i64_w, i32_w]
                   rfl
                  refine pure_ (i := 22) (N := some 139) (v := ?_) (a' := ?_) (bs 29 24903679) rfl rfl (ak HT_.out) (fun _ _ _ h => h) (Or.inl ⟨by rfl, ?_⟩) ?_ ?_; rotate_left
                  ·intro w'
                   go_simp
                   with_reducible rfl
                  rotate_left
                  ·simp only [Act.put, sA, sB, sC, i64_w, i32_w]
                   rfl
                  refine one_ (i := 18) (N := some 135) (bs 29 25165823) rfl rfl (one_of HT_.out (by kernel_rfl)) (by decide) (fun K hK => ?_); refine goes_ Tryd.func18 (by kernel_rfl) rfl #[.slice Ao53 t280.length co53] (by rfl) rfl rfl ap1 ?_; with_reducible refine (lines_Weight.calls kj20 _ _ t280 t303 _ ?side1 ?side2 ?side3 A46.out).mono ?_
                  (case side1 => exact cu (Kd.R_reads' HO283.out).2.2)
                  (case side2 => exact (Kd.R_reads' HO283.out).2.1)
                  (case side3 => first | (with_reducible exact HT.out) | exact Tabs.below HT.out (beu HB.out))
                  rintro e w70 ⟨rfl, hb⟩; refine ⟨_, rfl, ?_⟩; have n0_ := am (Kd.R_below (ru HO_9.out) hb); have n1_ := am (Kd.R_below (ru HO283.out) hb); have n2_ := am (Kd.R_below (ru HO292.out) hb); have n3_ := am (Kd.R_below (ru HO295.out) hb); have n4_ := am (Kd.R_below (ru HO299.out) hb); have n5_ := am (blk_below (bu BK279.out) hb); have n6_ := am (below_step (beu HB.out) hb); clear HO_9 HO283 HO292 HO295 HO299 BK279 HB; have HO_9 := n0_; have HO283 := n1_; have HO292 := n2_; have HO295 := n3_; have HO299 := n4_; have BK279 := n5_; have HB := n6_; clear n0_ n1_ n2_ n3_ n4_ n5_ n6_
                  (try clear hb)
                  (try clear hb2)
                  (try clear hk)
                  (try clear hi)
                  refine hK.out _ _ ⟨(blk_cell BK279.out 0).trans rfl, (blk_cell BK279.out 1).trans rfl, (blk_cell BK279.out 2).trans rfl⟩ (fun hHeld => ?_); clear hK K; refine norm_ (a' := ?_) ?_ ?_; rotate_left
                  ·show Act.put _ (some 135) _ = _
                   simp only [Act.put, sA, sB, sC, i64_w, i32_w]
                   rfl
                  refine pure_ (i := 23) (N := some 140) (v := ?_) (a' := ?_) (bs 29 33554431) rfl rfl (ak HT_.out) (fun _ _ _ h => h) (Or.inl ⟨by rfl, ?_⟩) ?_ ?_; rotate_left
                  ·intro w'
                   go_simp
                   with_reducible rfl
                  rotate_left
                  ·simp only [Act.put, sA, sB, sC, i64_w, i32_w]
                   rfl
                  refine one_ (i := 25) (N := some 142) (bs 29 67108863) rfl rfl (one_of HT_.out (by kernel_rfl)) (by decide) (fun K hK => ?_); refine goes_ Tryd.func18 (by kernel_rfl) rfl #[.slice (some ad278) t269.length co48] (by rfl) rfl rfl ap1 ?_; with_reducible refine (lines_Weight.calls kj20 _ _ t269 t304 _ ?side1 ?side2 ?side3 A47.out).mono ?_
                  (case side1 => exact cu (Kd.R_reads' HO_9.out).2.2)
                  (case side2 => exact (Kd.R_reads' HO_9.out).2.1)
                  (case side3 => first | (with_reducible exact HT.out) | exact Tabs.below HT.out (beu HB.out))
                  rintro e w71 ⟨rfl, hb⟩; refine ⟨_, rfl, ?_⟩; have n0_ := am (Kd.R_below (ru HO_9.out) hb); have n1_ := am (Kd.R_below (ru HO283.out) hb); have n2_ := am (Kd.R_below (ru HO292.out) hb); have n3_ := am (Kd.R_below (ru HO295.out) hb); have n4_ := am (Kd.R_below (ru HO299.out) hb); have n5_ := am (blk_below (bu BK279.out) hb); have n6_ := am (below_step (beu HB.out) hb); clear HO_9 HO283 HO292 HO295 HO299 BK279 HB; have HO_9 := n0_; have HO283 := n1_; have HO292 := n2_; have HO295 := n3_; have HO299 := n4_; have BK279 := n5_; have HB := n6_; clear n0_ n1_ n2_ n3_ n4_ n5_ n6_
                  (try clear hb)
                  (try clear hb2)
                  (try clear hk)
                  (try clear hi)
                  refine hK.out _ _ ⟨(blk_cell BK279.out 0).trans rfl, (blk_cell BK279.out 1).trans rfl, (blk_cell BK279.out 2).trans rfl⟩ (fun hHeld => ?_); clear hK K; refine norm_ (a' := ?_) ?_ ?_; rotate_left
                  ·show Act.put _ (some 142) _ = _
                   simp only [Act.put, sA, sB, sC, i64_w, i32_w]
                   rfl
                  refine pure_ (i := 26) (N := some 143) (v := ?_) (a' := ?_) (bs 29 134217727) rfl rfl (ak HT_.out) (fun _ _ _ h => h) (Or.inl ⟨by rfl, ?_⟩) ?_ ?_; rotate_left
                  ·intro w'
                   go_simp
                   with_reducible rfl
                  rotate_left
                  ·simp only [Act.put, sA, sB, sC, i64_w, i32_w]
                   rfl
                  refine pure_ (i := 27) (N := some 144) (v := ?_) (a' := ?_) (bs 29 268435455) rfl rfl (ak HT_.out) (fun _ _ _ h => h) (Or.inl ⟨by rfl, ?_⟩) ?_ ?_; rotate_left
                  ·intro w'
                   go_simp
                   with_reducible rfl
                  rotate_left
                  ·simp only [Act.put, sA, sB, sC, i64_w, i32_w]
                   rfl
                  refine pure_ (i := 28) (N := some 6) (v := ?_) (a' := ?_) (bs 29 536870911) rfl rfl (ak HT_.out) (fun _ _ _ h => h) (Or.inl ⟨by rfl, ?_⟩) ?_ ?_; rotate_left
                  ·intro w'
                   go_simp
                   with_reducible rfl
                  rotate_left
                  ·simp only [Act.put, sA, sB, sC, i64_w, i32_w]
                   rfl
                  refine done_ (done_of HT_.out (by kernel_rfl)) ?_
                  try go_wp2
                  go_ret
                  exact ⟨by first | rfl | (simp [errW_none, errW_some] <;> rfl) | (simp only [← hji31, ← hji32]; first | rfl | (simp [errW_none, errW_some] <;> rfl)) | (simp [*, errW_none, errW_some] <;> rfl), beu HB.out⟩
                 ·rw [if_neg c45] at H
                  have c45b0 : ((wrap64 (t301 + a2)) == t302) = false := beq_eq_false_iff_ne.mpr c45; have c45b1 : ((wrap64 (t301 + a2)) != t302) = true := bne_iff_ne.mpr c45; obtain rfl := Option.some.inj H; exact absurd HRT.out (by decide)
                ·replace c42 := Bool.eq_false_iff.mpr c42
                 subst c42
                 have H1 : (some false) = some r := by rw [if_neg (show ¬ (false = true) by decide)] at H; exact H
                 clear H; have H := H1; clear H1; obtain rfl := Option.some.inj H; exact absurd HRT.out (by decide)
               ·rw [if_neg c40] at H
                have c40b0 : (t297 == 0) = false := beq_eq_false_iff_ne.mpr c40; have c40b1 : (t297 != 0) = true := bne_iff_ne.mpr c40; obtain rfl := Option.some.inj H; exact absurd HRT.out (by decide)
              ·rw [if_neg c38] at H
               exact absurd H (by simp)
             ·rw [if_neg c37] at H
              exact absurd H (by simp)
            ·rw [if_neg c36] at H
             have c36b0 : (t281 == 0) = false := beq_eq_false_iff_ne.mpr c36; have c36b1 : (t281 != 0) = true := bne_iff_ne.mpr c36
             by_cases c72 : (t280.length : Int) = 0
             ·rw [if_pos c72] at H
              have c72b0 : ((t280.length : Int) == 0) = true := beq_iff_eq.mpr c72; have c72b1 : ((t280.length : Int) != 0) = false := bne_eq_false_iff_eq.mpr c72; clear c72
              by_cases c73 : a2 < 1
              ·rw [if_pos c73] at H
               have c73b0 : decide (a2 < 1) = true := decide_eq_true c73; clear c73; obtain rfl := Option.some.inj H; simp only [Option.some.injEq, Prod.mk.injEq] at H; obtain ⟨rfl⟩ := H; obtain ⟨Ao74, co74, eo74⟩ := Kd.R_slice HO_9.out; subst eo74; have p278 : 0 ≤ ((ji32) : Int) := of_decide_eq_true ap2; have q278 : (ji32) < (t269.length : Int) := of_decide_eq_true ap2; obtain ⟨ad278, e278, hx278_0, hx278_1, hx278_2⟩ := at_T37 (Kd.R_reads' HO_9.out).2.2 (ji32) p278 q278
               cases e278
               replace p278 := eq_true p278; replace q278 := eq_true q278
               go_wp2_with (first | ((with_reducible refine gate_dst (N := 13) rfl ?_); (try (refine gate_guard (by rfl) ?_; dsimp only)); refine box_event ?hg (N := 13) ?hd (cs := #[.string ⟨#[]⟩, .int .i64 0, .int .i64 0]) (t := 37) ?hr ?_; (case hd => rfl); (case hg => rfl); (case hr => first | (go_simp; done) | (go_simp; rfl)); intro gb279 hg w75 hbox hb; have _ := am (Kd.R_below (Kd.R_elderB (ru HO_9.out) gb279 (Nat.le_of_eq hg.symm)) hb); have _ := am (below_step (beu HB.out) hb); have _ := am (hbox); have _ := am ((by rw [hg]; exact (below_size (beu HB.out)) : w.heap.size ≤ gb279)); have _ := am ((by rw [hg]; exact (below_size (beu HB.out)) : w.heap.size ≤ gb279)); clear HO_9 HB; rename_i HO_9 HB BK279 GW279 GE279; clear hb hbox hg; obtain ⟨_, _, _⟩ := cells3 BK279.out; obtain ⟨_, _, _⟩ := frozens3 BK279.out) | ((with_reducible refine gate_callee (f := 20) rfl ?_); refine goesL_ (some 76) rfl rfl Tryd.func20 (by kernel_rfl) rfl #[.slice (some ad278) t269.length co74, .string ((rd_T37 t269 (ji32)).f0), .int .i64 a2] rfl (by (try simp only [List.map_toArray, List.map_cons, List.map_nil]); first | done | (simp only [hji32]; rfl) | rfl | (simp only [List.length_drop, List.length_take]; rfl)) ?_; (with_reducible refine (lines_Take.calls kj20 _ _ t269 ((rd_T37 t269 (ji32)).f0) a2 t280 t281 _ ?side1 ?side2 ?side3 A35.out).mono ?_); (case side1 => refine (Kd.R_reads' (e := 37) (base := w.heap.size) (ok := fun k_ => (True ∧ k_ ≠ gb279)) (n := t269.length) (c := co74) ?_).2.2; exact (ru (Kd.R_mono (rf gb279 2 (rf gb279 1 (rf gb279 0 (Kd.R_mono HO_9.out (fun k_ hk => (⟨hk, by first | exact hk.2 | exact hk.2.2.2 | exact hk.2.2 | exact hk.2.1 | exact hk.2.2.1⟩ : _ ∧ k_ ≠ gb279))) (.string ((rd_T37 t269 (ji32)).f0))) (.int .i64 ((rd_T37 t269 (ji32)).f1))) (.int .i64 ((rd_T37 t269 (ji32)).f2))) (fun _ h_ => h_.1)))); (case side2 => exact (Kd.R_reads' HO_9.out).2.1); (case side3 => first | (with_reducible exact HT.out) | exact Tabs.below HT.out (beu HB.out)); rintro e w77 ⟨v282, rfl, ho0, hb⟩; refine ⟨_, rfl, ?_⟩; have _ := am (Kd.R_elder' (ru (Kd.R_mono (rf gb279 2 (rf gb279 1 (rf gb279 0 (Kd.R_mono HO_9.out (fun k_ hk => (⟨hk, by first | exact hk.2 | exact hk.2.2.2 | exact hk.2.2 | exact hk.2.1 | exact hk.2.2.1⟩ : _ ∧ k_ ≠ gb279))) (.string ((rd_T37 t269 (ji32)).f0))) (.int .i64 ((rd_T37 t269 (ji32)).f1))) (.int .i64 ((rd_T37 t269 (ji32)).f2))) (fun _ h_ => h_.1))) (Kd.R_base ho0) hb); have _ := am (Kd.R_lower (Kd.R_newB (Kd.R_new' ho0 (Kd.R_lt (ru (Kd.R_mono (rf gb279 2 (rf gb279 1 (rf gb279 0 (Kd.R_mono HO_9.out (fun k_ hk => (⟨hk, by first | exact hk.2 | exact hk.2.2.2 | exact hk.2.2 | exact hk.2.1 | exact hk.2.2.1⟩ : _ ∧ k_ ≠ gb279))) (.string ((rd_T37 t269 (ji32)).f0))) (.int .i64 ((rd_T37 t269 (ji32)).f1))) (.int .i64 ((rd_T37 t269 (ji32)).f2))) (fun _ h_ => h_.1))))) (g := gb279) (o := .cells #[.string ((rd_T37 t269 (ji32)).f0), .int .i64 ((rd_T37 t269 (ji32)).f1), .int .i64 ((rd_T37 t269 (ji32)).f2)] 37 (0, 0)) (by refine bu ?_; refine blk_put (cs := #[.string ((rd_T37 t269 (ji32)).f0), .int .i64 ((rd_T37 t269 (ji32)).f1), .int .i64 0]) ?_ 2 _ rfl; refine bu ?_; refine blk_put (cs := #[.string ((rd_T37 t269 (ji32)).f0), .int .i64 0, .int .i64 0]) ?_ 1 _ rfl; refine bu ?_; refine blk_put (cs := #[.string ⟨#[]⟩, .int .i64 0, .int .i64 0]) ?_ 0 _ rfl; refine bu ?_; exact BK279.out)) (below_size (beu HB.out))); have _ := am (blk_below (g := gb279) (o := .cells #[.string ((rd_T37 t269 (ji32)).f0), .int .i64 ((rd_T37 t269 (ji32)).f1), .int .i64 ((rd_T37 t269 (ji32)).f2)] 37 (0, 0)) (by refine bu ?_; refine blk_put (cs := #[.string ((rd_T37 t269 (ji32)).f0), .int .i64 ((rd_T37 t269 (ji32)).f1), .int .i64 0]) ?_ 2 _ rfl; refine bu ?_; refine blk_put (cs := #[.string ((rd_T37 t269 (ji32)).f0), .int .i64 0, .int .i64 0]) ?_ 1 _ rfl; refine bu ?_; refine blk_put (cs := #[.string ⟨#[]⟩, .int .i64 0, .int .i64 0]) ?_ 0 _ rfl; refine bu ?_; exact BK279.out) hb); have _ := am (below_step (beu HB.out) hb); clear HO_9 BK279 HB; rename_i HO_9 HO283 BK279 HB; (try clear hb); (try clear ho0); obtain ⟨Ao78, co78, eo78⟩ := Kd.R_slice HO283.out; subst eo78))
               go_ret
               exact ⟨by first | rfl | (simp [errW_none, errW_some] <;> rfl) | (simp only [← hji31, ← hji32]; first | rfl | (simp [errW_none, errW_some] <;> rfl)) | (simp [*, errW_none, errW_some] <;> rfl), beu HB.out⟩
              ·rw [if_neg c73] at H
               have c73b0 : decide (a2 < 1) = false := decide_eq_false c73; clear c73
               by_cases c79 : a2 > ((rd_T37 t269 (ji32)).f1)
               ·rw [if_pos c79] at H
                have c79b0 : decide (((rd_T37 t269 (ji32)).f1) < a2) = true := decide_eq_true c79; clear c79; obtain rfl := Option.some.inj H; simp only [Option.some.injEq, Prod.mk.injEq] at H; obtain ⟨rfl⟩ := H; obtain ⟨Ao80, co80, eo80⟩ := Kd.R_slice HO_9.out; subst eo80; have p278 : 0 ≤ ((ji32) : Int) := of_decide_eq_true ap2; have q278 : (ji32) < (t269.length : Int) := of_decide_eq_true ap2; obtain ⟨ad278, e278, hx278_0, hx278_1, hx278_2⟩ := at_T37 (Kd.R_reads' HO_9.out).2.2 (ji32) p278 q278
                cases e278
                replace p278 := eq_true p278; replace q278 := eq_true q278
                go_wp2_with (first | ((with_reducible refine gate_dst (N := 13) rfl ?_); (try (refine gate_guard (by rfl) ?_; dsimp only)); refine box_event ?hg (N := 13) ?hd (cs := #[.string ⟨#[]⟩, .int .i64 0, .int .i64 0]) (t := 37) ?hr ?_; (case hd => rfl); (case hg => rfl); (case hr => first | (go_simp; done) | (go_simp; rfl)); intro gb279 hg w81 hbox hb; have _ := am (Kd.R_below (Kd.R_elderB (ru HO_9.out) gb279 (Nat.le_of_eq hg.symm)) hb); have _ := am (below_step (beu HB.out) hb); have _ := am (hbox); have _ := am ((by rw [hg]; exact (below_size (beu HB.out)) : w.heap.size ≤ gb279)); have _ := am ((by rw [hg]; exact (below_size (beu HB.out)) : w.heap.size ≤ gb279)); clear HO_9 HB; rename_i HO_9 HB BK279 GW279 GE279; clear hb hbox hg; obtain ⟨_, _, _⟩ := cells3 BK279.out; obtain ⟨_, _, _⟩ := frozens3 BK279.out) | ((with_reducible refine gate_callee (f := 20) rfl ?_); refine goesL_ (some 76) rfl rfl Tryd.func20 (by kernel_rfl) rfl #[.slice (some ad278) t269.length co80, .string ((rd_T37 t269 (ji32)).f0), .int .i64 a2] rfl (by (try simp only [List.map_toArray, List.map_cons, List.map_nil]); first | done | (simp only [hji32]; rfl) | rfl | (simp only [List.length_drop, List.length_take]; rfl)) ?_; (with_reducible refine (lines_Take.calls kj20 _ _ t269 ((rd_T37 t269 (ji32)).f0) a2 t280 t281 _ ?side1 ?side2 ?side3 A35.out).mono ?_); (case side1 => refine (Kd.R_reads' (e := 37) (base := w.heap.size) (ok := fun k_ => (True ∧ k_ ≠ gb279)) (n := t269.length) (c := co80) ?_).2.2; exact (ru (Kd.R_mono (rf gb279 2 (rf gb279 1 (rf gb279 0 (Kd.R_mono HO_9.out (fun k_ hk => (⟨hk, by first | exact hk.2 | exact hk.2.2.2 | exact hk.2.2 | exact hk.2.1 | exact hk.2.2.1⟩ : _ ∧ k_ ≠ gb279))) (.string ((rd_T37 t269 (ji32)).f0))) (.int .i64 ((rd_T37 t269 (ji32)).f1))) (.int .i64 ((rd_T37 t269 (ji32)).f2))) (fun _ h_ => h_.1)))); (case side2 => exact (Kd.R_reads' HO_9.out).2.1); (case side3 => first | (with_reducible exact HT.out) | exact Tabs.below HT.out (beu HB.out)); rintro e w83 ⟨v282, rfl, ho0, hb⟩; refine ⟨_, rfl, ?_⟩; have _ := am (Kd.R_elder' (ru (Kd.R_mono (rf gb279 2 (rf gb279 1 (rf gb279 0 (Kd.R_mono HO_9.out (fun k_ hk => (⟨hk, by first | exact hk.2 | exact hk.2.2.2 | exact hk.2.2 | exact hk.2.1 | exact hk.2.2.1⟩ : _ ∧ k_ ≠ gb279))) (.string ((rd_T37 t269 (ji32)).f0))) (.int .i64 ((rd_T37 t269 (ji32)).f1))) (.int .i64 ((rd_T37 t269 (ji32)).f2))) (fun _ h_ => h_.1))) (Kd.R_base ho0) hb); have _ := am (Kd.R_lower (Kd.R_newB (Kd.R_new' ho0 (Kd.R_lt (ru (Kd.R_mono (rf gb279 2 (rf gb279 1 (rf gb279 0 (Kd.R_mono HO_9.out (fun k_ hk => (⟨hk, by first | exact hk.2 | exact hk.2.2.2 | exact hk.2.2 | exact hk.2.1 | exact hk.2.2.1⟩ : _ ∧ k_ ≠ gb279))) (.string ((rd_T37 t269 (ji32)).f0))) (.int .i64 ((rd_T37 t269 (ji32)).f1))) (.int .i64 ((rd_T37 t269 (ji32)).f2))) (fun _ h_ => h_.1))))) (g := gb279) (o := .cells #[.string ((rd_T37 t269 (ji32)).f0), .int .i64 ((rd_T37 t269 (ji32)).f1), .int .i64 ((rd_T37 t269 (ji32)).f2)] 37 (0, 0)) (by refine bu ?_; refine blk_put (cs := #[.string ((rd_T37 t269 (ji32)).f0), .int .i64 ((rd_T37 t269 (ji32)).f1), .int .i64 0]) ?_ 2 _ rfl; refine bu ?_; refine blk_put (cs := #[.string ((rd_T37 t269 (ji32)).f0), .int .i64 0, .int .i64 0]) ?_ 1 _ rfl; refine bu ?_; refine blk_put (cs := #[.string ⟨#[]⟩, .int .i64 0, .int .i64 0]) ?_ 0 _ rfl; refine bu ?_; exact BK279.out)) (below_size (beu HB.out))); have _ := am (blk_below (g := gb279) (o := .cells #[.string ((rd_T37 t269 (ji32)).f0), .int .i64 ((rd_T37 t269 (ji32)).f1), .int .i64 ((rd_T37 t269 (ji32)).f2)] 37 (0, 0)) (by refine bu ?_; refine blk_put (cs := #[.string ((rd_T37 t269 (ji32)).f0), .int .i64 ((rd_T37 t269 (ji32)).f1), .int .i64 0]) ?_ 2 _ rfl; refine bu ?_; refine blk_put (cs := #[.string ((rd_T37 t269 (ji32)).f0), .int .i64 0, .int .i64 0]) ?_ 1 _ rfl; refine bu ?_; refine blk_put (cs := #[.string ⟨#[]⟩, .int .i64 0, .int .i64 0]) ?_ 0 _ rfl; refine bu ?_; exact BK279.out) hb); have _ := am (below_step (beu HB.out) hb); clear HO_9 BK279 HB; rename_i HO_9 HO283 BK279 HB; (try clear hb); (try clear ho0); obtain ⟨Ao84, co84, eo84⟩ := Kd.R_slice HO283.out; subst eo84; obtain ⟨_, _, _⟩ := cells3 BK279.out; obtain ⟨_, _, _⟩ := frozens3 BK279.out))
                go_ret
                exact ⟨by first | rfl | (simp [errW_none, errW_some] <;> rfl) | (simp only [← hji31, ← hji32]; first | rfl | (simp [errW_none, errW_some] <;> rfl)) | (simp [*, errW_none, errW_some] <;> rfl), beu HB.out⟩
               ·rw [if_neg c79] at H
                have c79b0 : decide (((rd_T37 t269 (ji32)).f1) < a2) = false := decide_eq_false c79; clear c79
                by_cases c86 : (t269.length : Int) = 1
                ·rw [if_pos c86] at H
                 have c86b0 : ((t269.length : Int) == 1) = true := beq_iff_eq.mpr c86; have c86b1 : ((t269.length : Int) != 1) = false := bne_eq_false_iff_eq.mpr c86; clear c86; obtain rfl := Option.some.inj H; simp only [Option.some.injEq, Prod.mk.injEq] at H; obtain ⟨rfl⟩ := H; obtain ⟨Ao87, co87, eo87⟩ := Kd.R_slice HO_9.out; subst eo87; have p278 : 0 ≤ ((ji32) : Int) := of_decide_eq_true ap2; have q278 : (ji32) < (t269.length : Int) := of_decide_eq_true ap2; obtain ⟨ad278, e278, hx278_0, hx278_1, hx278_2⟩ := at_T37 (Kd.R_reads' HO_9.out).2.2 (ji32) p278 q278
                 cases e278
                 replace p278 := eq_true p278; replace q278 := eq_true q278
                 go_wp2_with (first | ((with_reducible refine gate_dst (N := 13) rfl ?_); (try (refine gate_guard (by rfl) ?_; dsimp only)); refine box_event ?hg (N := 13) ?hd (cs := #[.string ⟨#[]⟩, .int .i64 0, .int .i64 0]) (t := 37) ?hr ?_; (case hd => rfl); (case hg => rfl); (case hr => first | (go_simp; done) | (go_simp; rfl)); intro gb279 hg w88 hbox hb; have _ := am (Kd.R_below (Kd.R_elderB (ru HO_9.out) gb279 (Nat.le_of_eq hg.symm)) hb); have _ := am (below_step (beu HB.out) hb); have _ := am (hbox); have _ := am ((by rw [hg]; exact (below_size (beu HB.out)) : w.heap.size ≤ gb279)); have _ := am ((by rw [hg]; exact (below_size (beu HB.out)) : w.heap.size ≤ gb279)); clear HO_9 HB; rename_i HO_9 HB BK279 GW279 GE279; clear hb hbox hg; obtain ⟨_, _, _⟩ := cells3 BK279.out; obtain ⟨_, _, _⟩ := frozens3 BK279.out) | ((with_reducible refine gate_callee (f := 20) rfl ?_); refine goesL_ (some 76) rfl rfl Tryd.func20 (by kernel_rfl) rfl #[.slice (some ad278) t269.length co87, .string ((rd_T37 t269 (ji32)).f0), .int .i64 a2] rfl (by (try simp only [List.map_toArray, List.map_cons, List.map_nil]); first | done | (simp only [hji32]; rfl) | rfl | (simp only [List.length_drop, List.length_take]; rfl)) ?_; (with_reducible refine (lines_Take.calls kj20 _ _ t269 ((rd_T37 t269 (ji32)).f0) a2 t280 t281 _ ?side1 ?side2 ?side3 A35.out).mono ?_); (case side1 => refine (Kd.R_reads' (e := 37) (base := w.heap.size) (ok := fun k_ => (True ∧ k_ ≠ gb279)) (n := t269.length) (c := co87) ?_).2.2; exact (ru (Kd.R_mono (rf gb279 2 (rf gb279 1 (rf gb279 0 (Kd.R_mono HO_9.out (fun k_ hk => (⟨hk, by first | exact hk.2 | exact hk.2.2.2 | exact hk.2.2 | exact hk.2.1 | exact hk.2.2.1⟩ : _ ∧ k_ ≠ gb279))) (.string ((rd_T37 t269 (ji32)).f0))) (.int .i64 ((rd_T37 t269 (ji32)).f1))) (.int .i64 ((rd_T37 t269 (ji32)).f2))) (fun _ h_ => h_.1)))); (case side2 => exact (Kd.R_reads' HO_9.out).2.1); (case side3 => first | (with_reducible exact HT.out) | exact Tabs.below HT.out (beu HB.out)); rintro e w90 ⟨v282, rfl, ho0, hb⟩; refine ⟨_, rfl, ?_⟩; have _ := am (Kd.R_elder' (ru (Kd.R_mono (rf gb279 2 (rf gb279 1 (rf gb279 0 (Kd.R_mono HO_9.out (fun k_ hk => (⟨hk, by first | exact hk.2 | exact hk.2.2.2 | exact hk.2.2 | exact hk.2.1 | exact hk.2.2.1⟩ : _ ∧ k_ ≠ gb279))) (.string ((rd_T37 t269 (ji32)).f0))) (.int .i64 ((rd_T37 t269 (ji32)).f1))) (.int .i64 ((rd_T37 t269 (ji32)).f2))) (fun _ h_ => h_.1))) (Kd.R_base ho0) hb); have _ := am (Kd.R_lower (Kd.R_newB (Kd.R_new' ho0 (Kd.R_lt (ru (Kd.R_mono (rf gb279 2 (rf gb279 1 (rf gb279 0 (Kd.R_mono HO_9.out (fun k_ hk => (⟨hk, by first | exact hk.2 | exact hk.2.2.2 | exact hk.2.2 | exact hk.2.1 | exact hk.2.2.1⟩ : _ ∧ k_ ≠ gb279))) (.string ((rd_T37 t269 (ji32)).f0))) (.int .i64 ((rd_T37 t269 (ji32)).f1))) (.int .i64 ((rd_T37 t269 (ji32)).f2))) (fun _ h_ => h_.1))))) (g := gb279) (o := .cells #[.string ((rd_T37 t269 (ji32)).f0), .int .i64 ((rd_T37 t269 (ji32)).f1), .int .i64 ((rd_T37 t269 (ji32)).f2)] 37 (0, 0)) (by refine bu ?_; refine blk_put (cs := #[.string ((rd_T37 t269 (ji32)).f0), .int .i64 ((rd_T37 t269 (ji32)).f1), .int .i64 0]) ?_ 2 _ rfl; refine bu ?_; refine blk_put (cs := #[.string ((rd_T37 t269 (ji32)).f0), .int .i64 0, .int .i64 0]) ?_ 1 _ rfl; refine bu ?_; refine blk_put (cs := #[.string ⟨#[]⟩, .int .i64 0, .int .i64 0]) ?_ 0 _ rfl; refine bu ?_; exact BK279.out)) (below_size (beu HB.out))); have _ := am (blk_below (g := gb279) (o := .cells #[.string ((rd_T37 t269 (ji32)).f0), .int .i64 ((rd_T37 t269 (ji32)).f1), .int .i64 ((rd_T37 t269 (ji32)).f2)] 37 (0, 0)) (by refine bu ?_; refine blk_put (cs := #[.string ((rd_T37 t269 (ji32)).f0), .int .i64 ((rd_T37 t269 (ji32)).f1), .int .i64 0]) ?_ 2 _ rfl; refine bu ?_; refine blk_put (cs := #[.string ((rd_T37 t269 (ji32)).f0), .int .i64 0, .int .i64 0]) ?_ 1 _ rfl; refine bu ?_; refine blk_put (cs := #[.string ⟨#[]⟩, .int .i64 0, .int .i64 0]) ?_ 0 _ rfl; refine bu ?_; exact BK279.out) hb); have _ := am (below_step (beu HB.out) hb); clear HO_9 BK279 HB; rename_i HO_9 HO283 BK279 HB; (try clear hb); (try clear ho0); obtain ⟨Ao91, co91, eo91⟩ := Kd.R_slice HO283.out; subst eo91; obtain ⟨_, _, _⟩ := cells3 BK279.out; obtain ⟨_, _, _⟩ := frozens3 BK279.out))
                 go_ret
                 exact ⟨by first | rfl | (simp [errW_none, errW_some] <;> rfl) | (simp only [← hji31, ← hji32]; first | rfl | (simp [errW_none, errW_some] <;> rfl)) | (simp [*, errW_none, errW_some] <;> rfl), beu HB.out⟩
                ·rw [if_neg c86] at H
                 have c86b0 : ((t269.length : Int) == 1) = false := beq_eq_false_iff_ne.mpr c86; have c86b1 : ((t269.length : Int) != 1) = true := bne_iff_ne.mpr c86; obtain rfl := Option.some.inj H; exact absurd HRT.out (by decide)
             ·rw [if_neg c72] at H
              have c72b0 : ((t280.length : Int) == 0) = false := beq_eq_false_iff_ne.mpr c72; have c72b1 : ((t280.length : Int) != 0) = true := bne_iff_ne.mpr c72
              have c72b2 : ¬ (t280 = []) := fun h_ => c72 (by rw [h_]; rfl)
              obtain rfl := Option.some.inj H; exact absurd HRT.out (by decide)
           ·rw [if_neg c34] at H
            exact absurd H (by simp)
          ·rw [if_neg c33] at H
           exact absurd H (by simp)
         ·rw [if_neg c30] at H
          have c30b0 : (t270 == 0) = false := beq_eq_false_iff_ne.mpr c30; have c30b1 : (t270 != 0) = true := bne_iff_ne.mpr c30; obtain rfl := Option.some.inj H; simp only [Option.some.injEq, Prod.mk.injEq] at H; obtain ⟨rfl⟩ := H; obtain ⟨Ao93, co93, eo93⟩ := Kd.R_slice HO_9.out; subst eo93
          go_wp2
          go_ret
          exact ⟨ap4, beu HB.out⟩
 ·replace c5 := Bool.eq_false_iff.mpr c5
  subst c5
  have H1 : (some false) = some r := by rw [if_neg (show ¬ (false = true) by decide)] at H; exact H
  clear H; have H := H1; clear H1; obtain rfl := Option.some.inj H; exact absurd HRT.out (by decide)
mutual
def packhorselaw04_LinesWeigh.j0 : Nat → List (S37) → Bool → Option (Bool)
 | 0, _, _ => none
 | k + 1, x0, x18 => if x18 = true then (some true) else (packhorselaw04_LinesWeigh.l0 k x0 0 0 x0 (x0.length : Int) 0)
def packhorselaw04_LinesWeigh.l0 : Nat → List (S37) → Int → Int → List (S37) → Int → Int → Option (Bool)
 | 0, _, _, _, _, _, _ => none
 | k + 1, x0, x3, x4, x19, x20, x21 => if x21 < x20 then (if 0 ≤ x21 then (if x21 < (x19.length : Int) then ((lines_Pieces.f k (([(⟨(rd_T37 x19 x21).f0, (rd_T37 x19 x21).f1, (rd_T37 x19 x21).f2⟩ : S37)] : List (S37)))).bind fun t314 => ((lines_Weight.f k (([(⟨(rd_T37 x19 x21).f0, (rd_T37 x19 x21).f1, (rd_T37 x19 x21).f2⟩ : S37)] : List (S37)))).bind fun t318 => ((lines_Take.f k x0 ((rd_T37 x19 x21).f0) 1).bind fun bt319 => (if bt319.2 = 0 then ((lines_Weight.f k bt319.1).bind fun t323 => ((lines_Weight.f k x0).bind fun t324 => (if t323 = (wrap64 (t324 - ((rd_T37 x19 x21).f2))) then ((lines_Pieces.f k bt319.1).bind fun t325 => ((lines_Pieces.f k x0).bind fun t326 => (if t325 = (wrap64 (t326 - 1)) then (packhorselaw04_LinesWeigh.l0 k x0 (wrap64 (x3 + t314)) (wrap64 (x4 + t318)) x19 x20 (wrap64 (x21 + 1))) else (some false)))) else (some false)))) else (packhorselaw04_LinesWeigh.l0 k x0 (wrap64 (x3 + t314)) (wrap64 (x4 + t318)) x19 x20 (wrap64 (x21 + 1))))))) else (none)) else (none)) else ((lines_Pieces.f k x0).bind fun t307 => (if x3 = t307 then ((lines_Weight.f k x0).bind fun t308 => (some (x4 == t308))) else (some false)))
end
def packhorselaw04_LinesWeigh.f (k : Nat) (l0 : List (S37)) : Option (Bool) := (packhorselaw04_linesAlive.f k).bind fun t305 => (if t305 = true then (if (l0.length : Int) > 50 then (packhorselaw04_LinesWeigh.j0 k l0 true) else ((lines_Right.f k l0).bind fun t306 => (packhorselaw04_LinesWeigh.j0 k l0 (!t306)))) else (some false))
def packhorselaw04_LinesWeigh.T12 : Bool × List (List Nat × List Nat) := (true, [([], []), ([0], [0]), ([1], [1]), ([2], [2]), ([3, 2, 2], [2, 3]), ([2], [2]), ([5, 4, 2], [2, 5]), ([2], [2]), ([7, 2], [2, 7]), ([6, 8, 2], [2, 6, 8]), ([4, 9, 2], [2, 4, 9]), ([10, 6, 2], [2, 10]), ([11], [11]), ([12, 11, 11], [11, 12]), ([11], [11]), ([14, 13, 11], [11, 14]), ([15, 11], [11, 15]), ([13, 16, 11], [11, 13, 16]), ([11, 17, 2], [2, 11, 17]), ([2, 18], [2, 18])])
def packhorselaw04_LinesWeigh.B12 : List Nat := [0, 1, 3, 7, 15, 7, 63, 7, 135, 511, 1023, 2047, 4095, 8191, 4095, 32767, 65535, 131071, 262143, 524287]
theorem packhorselaw04_LinesWeigh.tab12 : rtab .any (opsOf Tryd.f9 12) = packhorselaw04_LinesWeigh.T12 := by kernel_rfl
theorem packhorselaw04_LinesWeigh.bits12 : waitsOk packhorselaw04_LinesWeigh.T12.2 packhorselaw04_LinesWeigh.B12 = true := by kernel_rfl
set_option maxHeartbeats 8000000 in
set_option maxRecDepth 100000 in
theorem packhorselaw04_LinesWeigh.calls (k : Nat) (A0 : Option Addr) (c0 : Nat) (l0 : List (S37)) (r : Bool) (w : World) (hr0 : Kd.C k37 w A0 l0.length l0) (hc0 : l0.length ≤ c0) (hT : Tabs w) (h : packhorselaw04_LinesWeigh.f k l0 = some r) (hr_ : r = true) :
  Calls Tryd.prog 9 #[.slice A0 l0.length c0] w fun e w' => e = .returned (.bool r) ∧ Below w.heap.size w w' := by
 have hu37 := Tryd.underlying37; have HR0 := am hr0; have HC0 := am hc0; clear hr0 hc0; have HRT := am hr_; clear hr_; have HT := am hT; clear hT; have HB := am (Below.refl w.heap.size w); have H : ((packhorselaw04_linesAlive.f k).bind fun t305 => (if t305 = true then (if (l0.length : Int) > 50 then (packhorselaw04_LinesWeigh.j0 k l0 true) else ((lines_Right.f k l0).bind fun t306 => (packhorselaw04_LinesWeigh.j0 k l0 (!t306)))) else (some false))) = some r := h; clear h; replace H := obm H; obtain ⟨t305, A20, H⟩ := H; replace H : (if t305 = true then (if (l0.length : Int) > 50 then (packhorselaw04_LinesWeigh.j0 k l0 true) else ((lines_Right.f k l0).bind fun t306 => (packhorselaw04_LinesWeigh.j0 k l0 (!t306)))) else (some false)) = some r := H; have A2 := am A20; clear A20
 by_cases c3 : t305 = true
 ·subst c3
  have H1 : (if (l0.length : Int) > 50 then (packhorselaw04_LinesWeigh.j0 k l0 true) else ((lines_Right.f k l0).bind fun t306 => (packhorselaw04_LinesWeigh.j0 k l0 (!t306)))) = some r := by rw [if_pos rfl] at H; exact H
  clear H; have H := H1; clear H1; have HC4 := am H; clear H
  go_enter Tryd.func9, Tryd.ntmps9
  go_upto_region 3 with (first | ((with_reducible refine gate_callee (f := 10) rfl ?_); refine goesL_ (some 9) rfl rfl Tryd.func10 (by kernel_rfl) rfl #[] rfl ap1 ?_; (with_reducible refine (packhorselaw04_linesAlive.calls k  true _ ?side1 A2.out rfl).mono ?_); (case side1 => first | (with_reducible exact HT.out) | exact Tabs.below HT.out (beu HB.out)); rintro e w5 ⟨rfl, hb⟩; refine ⟨_, rfl, ?_⟩; have _ := am (below_step (beu HB.out) hb); clear HB; rename_i HB; (try clear hb)))
  (try simp only [Act.put, sA, sB, sC])
  go_cut [18] (fun v18 wc => ∃ (kq : Nat) (x18_3 : Bool), v18 = .bool x18_3 ∧ Aside0 (packhorselaw04_LinesWeigh.j0 kq l0 x18_3 = some r) ∧ Aside0 (kq ≤ k) ∧ Aside0 (Below w.heap.size w wc))
  case first =>
   have H := HC4.out; clear HC4
   by_cases c6 : (l0.length : Int) > 50
   ·rw [if_pos c6] at H
    have c6b0 : decide (50 < (l0.length : Int)) = true := decide_eq_true c6; have c6b1 : decide (50 < l0.length) = true := decide_eq_true (by omega); clear c6
    (first | rw [c6b0] | (simp only [i64_w, i32_w]; rw [c6b0]) | skip)
    have H' := am H; clear H
    go_wp2
    go_meet
    case rel => exact ⟨_, (true), ap3, H', ⟨by first | omega | exact Nat.le_refl _⟩, ⟨beu HB.out⟩⟩
   ·rw [if_neg c6] at H
    have c6b0 : decide (50 < (l0.length : Int)) = false := decide_eq_false c6; have c6b1 : decide (50 < l0.length) = false := decide_eq_false (by omega); clear c6
    (first | rw [c6b0] | (simp only [i64_w, i32_w]; rw [c6b0]) | skip)
    replace H := obm H; obtain ⟨t306, A70, H⟩ := H; replace H : (packhorselaw04_LinesWeigh.j0 k l0 (!t306)) = some r := H; have A7 := am A70; clear A70; have H' := am H; clear H
    go_wp2_with (first | (go_at_call 14; (with_reducible refine (lines_Right.calls k _ _ l0 t306 _ ?side1 ?side2 ?side3 A7.out).mono ?_); (case side1 => exact cu (Kd.C_below HR0.out HB.out)); (case side2 => exact HC0.out); (case side3 => first | (with_reducible exact HT.out) | exact Tabs.below HT.out (beu HB.out)); rintro e w8 ⟨rfl, hb⟩; have _ := am (below_step (beu HB.out) hb); clear HB; rename_i HB; (try clear hb)))
    go_meet
    case rel => exact ⟨_, (!t306), ap3, H', ⟨by first | omega | exact Nat.le_refl _⟩, ⟨beu HB.out⟩⟩
  case rest =>
   clear HC4; (try clear c1); (try clear p2); (try clear c3); (try clear c6); (try clear c6b0); (try clear c6b1); obtain ⟨kq, x18_3, rfl, HA, HJ3, HB⟩ := hcut
   cases kq with
   | zero => exact absurd HA.out (by simp [packhorselaw04_LinesWeigh.j0])
   | succ kj3 =>
    have H := HA.out; clear HA; simp only [packhorselaw04_LinesWeigh.j0] at H
    by_cases c9 : x18_3 = true
    ·subst c9
     have H1 : (some true) = some r := by rw [if_pos rfl] at H; exact H
     clear H; have H := H1; clear H1; obtain rfl := Option.some.inj H; simp only [Option.some.injEq, Prod.mk.injEq] at H; obtain ⟨rfl⟩ := H
     go_wp2
     go_ret
     exact ⟨ap4, beu HB.out⟩
    ·replace c9 := Bool.eq_false_iff.mpr c9
     subst c9
     have H1 : (packhorselaw04_LinesWeigh.l0 kj3 l0 0 0 l0 (l0.length : Int) 0) = some r := by rw [if_neg (show ¬ (false = true) by decide)] at H; exact H
     clear H; have H := H1; clear H1; have H' := am H; clear H
     go_wp2
     go_loopg [3, 4, 21] kj3 (fun kq v3 v4 v21 w' => ∃ (x3_2 : Int) (x4_2 : Int) (x21_2 : Int), v3 = .int .i64 x3_2 ∧ v4 = .int .i64 x4_2 ∧ v21 = .int .i64 x21_2 ∧ Aside0 (packhorselaw04_LinesWeigh.l0 kq l0 x3_2 x4_2 l0 (l0.length : Int) x21_2 = some r) ∧ Aside0 (kq ≤ kj3) ∧ Aside0 (Below w.heap.size w w'))
     case atStart => exact ⟨(0), (0), (0), ap3, ap3, ap3, H', ⟨Nat.le_refl _⟩, ⟨beu HB.out⟩⟩
     case round =>
      clear H'; (try clear c1); (try clear p2); (try clear c3); (try clear c6); (try clear c6b0); (try clear c6b1); (try clear c9); (try clear p2); obtain ⟨x3_2, x4_2, x21_2, rfl, rfl, rfl, HA, HK2, HB⟩ := hrel
      cases gk with
      | zero => exact absurd HA.out (by simp [packhorselaw04_LinesWeigh.l0])
      | succ k2 =>
       have H := HA.out; clear HA; simp only [packhorselaw04_LinesWeigh.l0] at H
       by_cases c10 : x21_2 < (l0.length : Int)
       ·rw [if_pos c10] at H
        have c10b0 : decide (x21_2 < (l0.length : Int)) = true := decide_eq_true c10; clear c10
        by_cases c11 : 0 ≤ x21_2
        ·rw [if_pos c11] at H
         have c11b0 : decide (0 ≤ x21_2) = true := decide_eq_true c11; clear c11
         by_cases c12 : x21_2 < (l0.length : Int)
         ·rw [if_pos c12] at H
          have c12b0 : decide (x21_2 < (l0.length : Int)) = true := decide_eq_true c12; clear c12; obtain ⟨y311, hy311⟩ : ∃ y_ : List (S37), y_ = (([(⟨(rd_T37 l0 x21_2).f0, (rd_T37 l0 x21_2).f1, (rd_T37 l0 x21_2).f2⟩ : S37)] : List (S37))) := ⟨_, rfl⟩
          replace H : ((lines_Pieces.f k2 y311).bind fun t314 => ((lines_Weight.f k2 (([(⟨(rd_T37 l0 x21_2).f0, (rd_T37 l0 x21_2).f1, (rd_T37 l0 x21_2).f2⟩ : S37)] : List (S37)))).bind fun t318 => ((lines_Take.f k2 l0 ((rd_T37 l0 x21_2).f0) 1).bind fun bt319 => (if bt319.2 = 0 then ((lines_Weight.f k2 bt319.1).bind fun t323 => ((lines_Weight.f k2 l0).bind fun t324 => (if t323 = (wrap64 (t324 - ((rd_T37 l0 x21_2).f2))) then ((lines_Pieces.f k2 bt319.1).bind fun t325 => ((lines_Pieces.f k2 l0).bind fun t326 => (if t325 = (wrap64 (t326 - 1)) then (packhorselaw04_LinesWeigh.l0 k2 l0 (wrap64 (x3_2 + t314)) (wrap64 (x4_2 + t318)) l0 (l0.length : Int) (wrap64 (x21_2 + 1))) else (some false)))) else (some false)))) else (packhorselaw04_LinesWeigh.l0 k2 l0 (wrap64 (x3_2 + t314)) (wrap64 (x4_2 + t318)) l0 (l0.length : Int) (wrap64 (x21_2 + 1))))))) = some r := by first | (rw [hy311]; with_reducible exact H) | (have H2_ := (Option.bind_some _ _).symm.trans H; rw [hy311]; with_reducible exact H2_) | (have H2_ := (Option.bind_some _ _).symm.trans H; with_reducible exact H2_) | with_reducible exact H | (rw [hy311]; exact H) | exact H
          have Ny311 := am hy311; clear hy311; replace H := obm H; obtain ⟨t314, A130, H⟩ := H; replace H : ((lines_Weight.f k2 (([(⟨(rd_T37 l0 x21_2).f0, (rd_T37 l0 x21_2).f1, (rd_T37 l0 x21_2).f2⟩ : S37)] : List (S37)))).bind fun t318 => ((lines_Take.f k2 l0 ((rd_T37 l0 x21_2).f0) 1).bind fun bt319 => (if bt319.2 = 0 then ((lines_Weight.f k2 bt319.1).bind fun t323 => ((lines_Weight.f k2 l0).bind fun t324 => (if t323 = (wrap64 (t324 - ((rd_T37 l0 x21_2).f2))) then ((lines_Pieces.f k2 bt319.1).bind fun t325 => ((lines_Pieces.f k2 l0).bind fun t326 => (if t325 = (wrap64 (t326 - 1)) then (packhorselaw04_LinesWeigh.l0 k2 l0 (wrap64 (x3_2 + t314)) (wrap64 (x4_2 + t318)) l0 (l0.length : Int) (wrap64 (x21_2 + 1))) else (some false)))) else (some false)))) else (packhorselaw04_LinesWeigh.l0 k2 l0 (wrap64 (x3_2 + t314)) (wrap64 (x4_2 + t318)) l0 (l0.length : Int) (wrap64 (x21_2 + 1)))))) = some r := H; have A13 := am A130; clear A130; obtain ⟨y315, hy315⟩ : ∃ y_ : List (S37), y_ = (([(⟨(rd_T37 l0 x21_2).f0, (rd_T37 l0 x21_2).f1, (rd_T37 l0 x21_2).f2⟩ : S37)] : List (S37))) := ⟨_, rfl⟩
          replace H : ((lines_Weight.f k2 y315).bind fun t318 => ((lines_Take.f k2 l0 ((rd_T37 l0 x21_2).f0) 1).bind fun bt319 => (if bt319.2 = 0 then ((lines_Weight.f k2 bt319.1).bind fun t323 => ((lines_Weight.f k2 l0).bind fun t324 => (if t323 = (wrap64 (t324 - ((rd_T37 l0 x21_2).f2))) then ((lines_Pieces.f k2 bt319.1).bind fun t325 => ((lines_Pieces.f k2 l0).bind fun t326 => (if t325 = (wrap64 (t326 - 1)) then (packhorselaw04_LinesWeigh.l0 k2 l0 (wrap64 (x3_2 + t314)) (wrap64 (x4_2 + t318)) l0 (l0.length : Int) (wrap64 (x21_2 + 1))) else (some false)))) else (some false)))) else (packhorselaw04_LinesWeigh.l0 k2 l0 (wrap64 (x3_2 + t314)) (wrap64 (x4_2 + t318)) l0 (l0.length : Int) (wrap64 (x21_2 + 1)))))) = some r := by first | (rw [hy315]; with_reducible exact H) | (have H2_ := (Option.bind_some _ _).symm.trans H; rw [hy315]; with_reducible exact H2_) | (have H2_ := (Option.bind_some _ _).symm.trans H; with_reducible exact H2_) | with_reducible exact H | (rw [hy315]; exact H) | exact H
          have Ny315 := am hy315; clear hy315; replace H := obm H; obtain ⟨t318, A140, H⟩ := H; replace H : ((lines_Take.f k2 l0 ((rd_T37 l0 x21_2).f0) 1).bind fun bt319 => (if bt319.2 = 0 then ((lines_Weight.f k2 bt319.1).bind fun t323 => ((lines_Weight.f k2 l0).bind fun t324 => (if t323 = (wrap64 (t324 - ((rd_T37 l0 x21_2).f2))) then ((lines_Pieces.f k2 bt319.1).bind fun t325 => ((lines_Pieces.f k2 l0).bind fun t326 => (if t325 = (wrap64 (t326 - 1)) then (packhorselaw04_LinesWeigh.l0 k2 l0 (wrap64 (x3_2 + t314)) (wrap64 (x4_2 + t318)) l0 (l0.length : Int) (wrap64 (x21_2 + 1))) else (some false)))) else (some false)))) else (packhorselaw04_LinesWeigh.l0 k2 l0 (wrap64 (x3_2 + t314)) (wrap64 (x4_2 + t318)) l0 (l0.length : Int) (wrap64 (x21_2 + 1))))) = some r := H; have A14 := am A140; clear A140; replace H := obm H; obtain ⟨⟨t319, t320⟩, A150, H⟩ := H; replace H : (if t320 = 0 then ((lines_Weight.f k2 t319).bind fun t323 => ((lines_Weight.f k2 l0).bind fun t324 => (if t323 = (wrap64 (t324 - ((rd_T37 l0 x21_2).f2))) then ((lines_Pieces.f k2 t319).bind fun t325 => ((lines_Pieces.f k2 l0).bind fun t326 => (if t325 = (wrap64 (t326 - 1)) then (packhorselaw04_LinesWeigh.l0 k2 l0 (wrap64 (x3_2 + t314)) (wrap64 (x4_2 + t318)) l0 (l0.length : Int) (wrap64 (x21_2 + 1))) else (some false)))) else (some false)))) else (packhorselaw04_LinesWeigh.l0 k2 l0 (wrap64 (x3_2 + t314)) (wrap64 (x4_2 + t318)) l0 (l0.length : Int) (wrap64 (x21_2 + 1)))) = some r := H; have A15 := am A150; clear A150
          by_cases c16 : t320 = 0
          ·rw [if_pos c16] at H
           have c16b0 : (t320 == 0) = true := beq_iff_eq.mpr c16; have c16b1 : (t320 != 0) = false := bne_eq_false_iff_eq.mpr c16; clear c16; replace H := obm H; obtain ⟨t323, A170, H⟩ := H; replace H : ((lines_Weight.f k2 l0).bind fun t324 => (if t323 = (wrap64 (t324 - ((rd_T37 l0 x21_2).f2))) then ((lines_Pieces.f k2 t319).bind fun t325 => ((lines_Pieces.f k2 l0).bind fun t326 => (if t325 = (wrap64 (t326 - 1)) then (packhorselaw04_LinesWeigh.l0 k2 l0 (wrap64 (x3_2 + t314)) (wrap64 (x4_2 + t318)) l0 (l0.length : Int) (wrap64 (x21_2 + 1))) else (some false)))) else (some false))) = some r := H; have A17 := am A170; clear A170; replace H := obm H; obtain ⟨t324, A180, H⟩ := H; replace H : (if t323 = (wrap64 (t324 - ((rd_T37 l0 x21_2).f2))) then ((lines_Pieces.f k2 t319).bind fun t325 => ((lines_Pieces.f k2 l0).bind fun t326 => (if t325 = (wrap64 (t326 - 1)) then (packhorselaw04_LinesWeigh.l0 k2 l0 (wrap64 (x3_2 + t314)) (wrap64 (x4_2 + t318)) l0 (l0.length : Int) (wrap64 (x21_2 + 1))) else (some false)))) else (some false)) = some r := H; have A18 := am A180; clear A180
           by_cases c19 : t323 = (wrap64 (t324 - ((rd_T37 l0 x21_2).f2)))
           ·rw [if_pos c19] at H
            have c19b0 : (t323 == (wrap64 (t324 - ((rd_T37 l0 x21_2).f2)))) = true := beq_iff_eq.mpr c19; have c19b1 : (t323 != (wrap64 (t324 - ((rd_T37 l0 x21_2).f2)))) = false := bne_eq_false_iff_eq.mpr c19; clear c19; replace H := obm H; obtain ⟨t325, A200, H⟩ := H; replace H : ((lines_Pieces.f k2 l0).bind fun t326 => (if t325 = (wrap64 (t326 - 1)) then (packhorselaw04_LinesWeigh.l0 k2 l0 (wrap64 (x3_2 + t314)) (wrap64 (x4_2 + t318)) l0 (l0.length : Int) (wrap64 (x21_2 + 1))) else (some false))) = some r := H; have A20 := am A200; clear A200; replace H := obm H; obtain ⟨t326, A210, H⟩ := H; replace H : (if t325 = (wrap64 (t326 - 1)) then (packhorselaw04_LinesWeigh.l0 k2 l0 (wrap64 (x3_2 + t314)) (wrap64 (x4_2 + t318)) l0 (l0.length : Int) (wrap64 (x21_2 + 1))) else (some false)) = some r := H; have A21 := am A210; clear A210
            by_cases c22 : t325 = (wrap64 (t326 - 1))
            ·rw [if_pos c22] at H
             have c22b0 : (t325 == (wrap64 (t326 - 1))) = true := beq_iff_eq.mpr c22; have c22b1 : (t325 != (wrap64 (t326 - 1))) = false := bne_eq_false_iff_eq.mpr c22; clear c22; have H' := am H; clear H; have p309 : 0 ≤ (x21_2 : Int) := of_decide_eq_true ap2; have q309 : x21_2 < (l0.length : Int) := of_decide_eq_true ap2; obtain ⟨ad309, e309, hx309_0, hx309_1, hx309_2⟩ := at_T37 HR0.out x21_2 p309 q309
             cases e309
             replace hx309_0 := (HB.out.cell (World.block_lt_of_cell? w _ hx309_0)).trans hx309_0; replace hx309_1 := (HB.out.cell (World.block_lt_of_cell? w _ hx309_1)).trans hx309_1; replace hx309_2 := (HB.out.cell (World.block_lt_of_cell? w _ hx309_2)).trans hx309_2; replace p309 := eq_true p309; replace q309 := eq_true q309
             try go_wp2_with (first | ((with_reducible refine gate_dst (N := 6) rfl ?_); refine box_event ?hg (N := 6) ?hd (cs := #[.string ⟨#[]⟩, .int .i64 0, .int .i64 0]) (t := 37) ?hr ?_; (case hd => rfl); (case hg => rfl); (case hr => first | (go_simp; done) | (go_simp; rfl)); intro gb310 hg w23 hbox hb; have _ := am (below_step (beu HB.out) hb); have _ := am (hbox); have _ := am ((by rw [hg]; exact (below_size (beu HB.out)) : w.heap.size ≤ gb310)); have _ := am ((by rw [hg]; exact (below_size (beu HB.out)) : w.heap.size ≤ gb310)); clear HB; rename_i HB BK310 GW310 GE310; clear hb hbox hg; obtain ⟨_, _, _⟩ := cells3 BK310.out; obtain ⟨_, _, _⟩ := frozens3 BK310.out) | ((with_reducible refine gate_dst (N := 27) rfl ?_); refine Kd.R_lit k37 _ 37 ?hg (N := 27) ?hd (xs := ([(⟨(rd_T37 l0 x21_2).f0, (rd_T37 l0 x21_2).f1, (rd_T37 l0 x21_2).f2⟩ : S37)] : List (S37))) (inner := [.string ((rd_T37 l0 x21_2).f0), .int .i64 ((rd_T37 l0 x21_2).f1), .int .i64 ((rd_T37 l0 x21_2).f2)]) (ok := fun _ => True) (okp := fun _ => True) ?hr ?hp (fun _ hk => hk) trivial (Below.refl _ _) (Nat.le_refl _) (by simp) ?_; (case hd => rfl); (case hg => rfl); (case hr => first | (go_simp; done) | (go_simp; rfl)); (case hp => exact (Reps.c3 (show Kd.M k37 _ _ _ (⟨(rd_T37 l0 x21_2).f0, (rd_T37 l0 x21_2).f1, (rd_T37 l0 x21_2).f2⟩ : S37) [.string ((rd_T37 l0 x21_2).f0), .int .i64 ((rd_T37 l0 x21_2).f1), .int .i64 ((rd_T37 l0 x21_2).f2)] from (k37_mkM _ _ _ (⟨(rd_T37 l0 x21_2).f0, (rd_T37 l0 x21_2).f1, (rd_T37 l0 x21_2).f2⟩ : S37) )) (Reps.none _ _))); intro v312 w25 ho26 hb hg_ hnew_; clear hg_ hnew_; (first | rw [← Ny311.out] at ho26 | (simp only [Int.reduceToNat] at ho26; rw [← Ny311.out] at ho26)); have _ := am (Kd.R_lower (Kd.R_newB ho26 (g := gb310) (o := .cells #[.string ((rd_T37 l0 x21_2).f0), .int .i64 ((rd_T37 l0 x21_2).f1), .int .i64 ((rd_T37 l0 x21_2).f2)] 37 (0, 0)) (by refine bu ?_; refine blk_put (cs := #[.string ((rd_T37 l0 x21_2).f0), .int .i64 ((rd_T37 l0 x21_2).f1), .int .i64 0]) ?_ 2 _ rfl; refine bu ?_; refine blk_put (cs := #[.string ((rd_T37 l0 x21_2).f0), .int .i64 0, .int .i64 0]) ?_ 1 _ rfl; refine bu ?_; refine blk_put (cs := #[.string ⟨#[]⟩, .int .i64 0, .int .i64 0]) ?_ 0 _ rfl; refine bu ?_; exact BK310.out)) (below_size (beu HB.out))); have _ := am (blk_below (g := gb310) (o := .cells #[.string ((rd_T37 l0 x21_2).f0), .int .i64 ((rd_T37 l0 x21_2).f1), .int .i64 ((rd_T37 l0 x21_2).f2)] 37 (0, 0)) (by refine bu ?_; refine blk_put (cs := #[.string ((rd_T37 l0 x21_2).f0), .int .i64 ((rd_T37 l0 x21_2).f1), .int .i64 0]) ?_ 2 _ rfl; refine bu ?_; refine blk_put (cs := #[.string ((rd_T37 l0 x21_2).f0), .int .i64 0, .int .i64 0]) ?_ 1 _ rfl; refine bu ?_; refine blk_put (cs := #[.string ⟨#[]⟩, .int .i64 0, .int .i64 0]) ?_ 0 _ rfl; refine bu ?_; exact BK310.out) hb); have _ := am (below_step (beu HB.out) hb); clear BK310 HB; rename_i HO313 BK310 HB; clear hb ho26; obtain ⟨Ao27, co27, eo27⟩ := Kd.R_slice HO313.out; subst eo27) | ((with_reducible refine gate_callee (f := 16) rfl ?_); refine goesL_ (some 28) rfl rfl Tryd.func16 (by kernel_rfl) rfl #[.slice Ao27 y311.length co27] rfl ap1 ?_; (with_reducible refine (lines_Pieces.calls k2 _ _ y311 t314 _ ?side1 ?side2 ?side3 A13.out).mono ?_); (case side1 => exact cu (Kd.R_reads' HO313.out).2.2); (case side2 => exact (Kd.R_reads' HO313.out).2.1); (case side3 => first | (with_reducible exact HT.out) | exact Tabs.below HT.out (beu HB.out)); rintro e w28 ⟨rfl, hb⟩; refine ⟨_, rfl, ?_⟩; have _ := am (Kd.R_below (ru HO313.out) hb); have _ := am (blk_below (bu BK310.out) hb); have _ := am (below_step (beu HB.out) hb); clear HO313 BK310 HB; rename_i HO313 BK310 HB; (try clear hb); obtain ⟨_, _, _⟩ := cells3 BK310.out; obtain ⟨_, _, _⟩ := frozens3 BK310.out) | ((with_reducible refine gate_dst (N := 32) rfl ?_); refine Kd.R_lit k37 _ 37 ?hg (N := 32) ?hd (xs := ([(⟨(rd_T37 l0 x21_2).f0, (rd_T37 l0 x21_2).f1, (rd_T37 l0 x21_2).f2⟩ : S37)] : List (S37))) (inner := [.string ((rd_T37 l0 x21_2).f0), .int .i64 ((rd_T37 l0 x21_2).f1), .int .i64 ((rd_T37 l0 x21_2).f2)]) (ok := fun _ => True) (okp := fun _ => True) ?hr ?hp (fun _ hk => hk) trivial (Below.refl _ _) (Nat.le_refl _) (by simp) ?_; (case hd => rfl); (case hg => rfl); (case hr => first | (go_simp; done) | (go_simp; rfl)); (case hp => exact (Reps.c3 (show Kd.M k37 _ _ _ (⟨(rd_T37 l0 x21_2).f0, (rd_T37 l0 x21_2).f1, (rd_T37 l0 x21_2).f2⟩ : S37) [.string ((rd_T37 l0 x21_2).f0), .int .i64 ((rd_T37 l0 x21_2).f1), .int .i64 ((rd_T37 l0 x21_2).f2)] from (k37_mkM _ _ _ (⟨(rd_T37 l0 x21_2).f0, (rd_T37 l0 x21_2).f1, (rd_T37 l0 x21_2).f2⟩ : S37) )) (Reps.none _ _))); intro v316 w30 ho31 hb hg_ hnew_; clear hg_ hnew_; (first | rw [← Ny315.out] at ho31 | (simp only [Int.reduceToNat] at ho31; rw [← Ny315.out] at ho31)); have _ := am (Kd.R_elder' (ru HO313.out) (Kd.R_base ho31) hb); have _ := am (Kd.R_lower (Kd.R_newB (Kd.R_new' ho31 (Kd.R_lt (ru HO313.out))) (bu BK310.out)) (below_size (beu HB.out))); have _ := am (blk_below (bu BK310.out) hb); have _ := am (below_step (beu HB.out) hb); clear HO313 BK310 HB; rename_i HO313 HO317 BK310 HB; clear hb ho31; obtain ⟨Ao32, co32, eo32⟩ := Kd.R_slice HO317.out; subst eo32) | ((with_reducible refine gate_callee (f := 18) rfl ?_); refine goesL_ (some 33) rfl rfl Tryd.func18 (by kernel_rfl) rfl #[.slice Ao32 y315.length co32] rfl ap1 ?_; (with_reducible refine (lines_Weight.calls k2 _ _ y315 t318 _ ?side1 ?side2 ?side3 A14.out).mono ?_); (case side1 => exact cu (Kd.R_reads' HO317.out).2.2); (case side2 => exact (Kd.R_reads' HO317.out).2.1); (case side3 => first | (with_reducible exact HT.out) | exact Tabs.below HT.out (beu HB.out)); rintro e w33 ⟨rfl, hb⟩; refine ⟨_, rfl, ?_⟩; have _ := am (Kd.R_below (ru HO313.out) hb); have _ := am (Kd.R_below (ru HO317.out) hb); have _ := am (blk_below (bu BK310.out) hb); have _ := am (below_step (beu HB.out) hb); clear HO313 HO317 BK310 HB; rename_i HO313 HO317 BK310 HB; (try clear hb); obtain ⟨_, _, _⟩ := cells3 BK310.out; obtain ⟨_, _, _⟩ := frozens3 BK310.out) | ((with_reducible refine gate_callee (f := 20) rfl ?_); refine goesL_ (some 39) rfl rfl Tryd.func20 (by kernel_rfl) rfl #[.slice (some ad309) l0.length c0, .string ((rd_T37 l0 x21_2).f0), .int .i64 1] rfl ap1 ?_; (with_reducible refine (lines_Take.calls k2 _ _ l0 ((rd_T37 l0 x21_2).f0) 1 t319 t320 _ ?side1 ?side2 ?side3 A15.out).mono ?_); (case side1 => exact cu (Kd.C_below HR0.out HB.out)); (case side2 => exact HC0.out); (case side3 => first | (with_reducible exact HT.out) | exact Tabs.below HT.out (beu HB.out)); rintro e w35 ⟨v321, rfl, ho0, hb⟩; refine ⟨_, rfl, ?_⟩; have _ := am (Kd.R_elder' (ru HO313.out) (Kd.R_base ho0) hb); have _ := am (Kd.R_elder' (ru HO317.out) (Kd.R_base ho0) hb); have _ := am (Kd.R_lower (Kd.R_newB (Kd.R_new' (Kd.R_new' ho0 (Kd.R_lt (ru HO313.out))) (Kd.R_lt (ru HO317.out))) (bu BK310.out)) (below_size (beu HB.out))); have _ := am (blk_below (bu BK310.out) hb); have _ := am (below_step (beu HB.out) hb); clear HO313 HO317 BK310 HB; rename_i HO313 HO317 HO322 BK310 HB; (try clear hb); (try clear ho0)))
             (try (rw [drewN_self w35]; generalize hq_ : World.drewN w35 _ = w35; have _ := am (show Kd.R _ _ w35 _ _ _ _ from by rw [← hq_]; exact Kd.R_drewN HO313.out _); have _ := am (show Kd.R _ _ w35 _ _ _ _ from by rw [← hq_]; exact Kd.R_drewN HO317.out _); have _ := am (show Kd.R _ _ w35 _ _ _ _ from by rw [← hq_]; exact Kd.R_drewN HO322.out _); have _ := am (blk_at hq_ BK310.out); have _ := am (below_at hq_ HB.out); clear hq_ HO313 HO317 HO322 BK310 HB; rename_i HO313 HO317 HO322 BK310 HB))
             have n0_ := am (Kd.R_drew HO313.out); have n1_ := am (Kd.R_drew HO317.out); have n2_ := am (Kd.R_drew HO322.out); have n3_ := am (blk_drew BK310.out); have n4_ := am (below_drew1 HB.out); clear HO313 HO317 HO322 BK310 HB; have HO313 := n0_; have HO317 := n1_; have HO322 := n2_; have BK310 := n3_; have HB := n4_; clear n0_ n1_ n2_ n3_ n4_; obtain ⟨Ao37, co37, eo37⟩ := Kd.R_slice HO322.out
             (first | subst eo37 | (injection eo37 with f1_ f2_ f3_; have f4_ := f1_.symm; have f5_ := f3_.symm; clear f1_ f2_ f3_; subst f4_; subst f5_))
             refine start_ (n := 20) (S := fun w' => w'.cell? ⟨gb310, 0, none⟩ = some (.string ((rd_T37 l0 x21_2).f0)) ∧ w'.cell? ⟨gb310, 1, none⟩ = some (.int .i64 ((rd_T37 l0 x21_2).f1)) ∧ w'.cell? ⟨gb310, 2, none⟩ = some (.int .i64 ((rd_T37 l0 x21_2).f2))) (ds := []) #[false, false, false, false, false, false, false, false, false, false, false, false, false, false, false, false, false, false, false, false] (by kernel_rfl) rfl rfl ⟨(blk_cell BK310.out 0).trans rfl, (blk_cell BK310.out 1).trans rfl, (blk_cell BK310.out 2).trans rfl⟩ (fun hHeld => ?_); refine with_tabW packhorselaw04_LinesWeigh.tab12 packhorselaw04_LinesWeigh.bits12 (fun HT_ HW_ => ?_)
             generalize w35.drew = w36 at HO313 HO317 HO322 BK310 HB hHeld ⊢; refine pure_ (i := 0) (N := some 42) (v := ?_) (a' := ?_) (bs 20 1) rfl rfl (ak HT_.out) (fun _ _ _ h => h) (Or.inl ⟨by rfl, ?_⟩) ?_ ?_; rotate_left
             ·intro w'
              go_simp
              with_reducible rfl
             rotate_left
             ·simp only [Act.put, sA, sB, sC, i64_w, i32_w]
              rfl
             refine pure_ (i := 1) (N := some 43) (v := ?_) (a' := ?_) (bs 20 3) rfl rfl (ak HT_.out) (fun _ _ _ h => h) (Or.inl ⟨by rfl, ?_⟩) ?_ ?_; rotate_left
             ·intro w'
              go_simp
              with_reducible rfl
             rotate_left
             ·simp only [Act.put, sA, sB, sC, i64_w, i32_w]
              rfl
             refine pure_ (i := 2) (N := some 44) (v := ?_) (a' := ?_) (bs 20 7) rfl rfl (ak HT_.out) (fun _ _ _ h => h) (Or.inl ⟨by rfl, ?_⟩) ?_ ?_; rotate_left
             ·intro w'
              go_simp
              with_reducible rfl
             rotate_left
             ·simp only [Act.put, sA, sB, sC, i64_w, i32_w]
              rfl
             refine pure_ (i := 3) (N := some 45) (v := ?_) (a' := ?_) (bs 20 15) rfl rfl (ak HT_.out) (fun _ _ _ h => h) (Or.inl ⟨by rfl, ?_⟩) ?_ ?_; rotate_left
             ·intro w'
              go_simp
              with_reducible rfl
             rotate_left
             ·simp only [Act.put, sA, sB, sC, i64_w, i32_w]
              rfl
             refine pure_ (i := 5) (N := some 47) (v := ?_) (a' := ?_) (bs 20 47) rfl rfl (ak HT_.out) (fun _ _ _ h => h) (Or.inl ⟨by rfl, ?_⟩) ?_ ?_; rotate_left
             ·intro w'
              go_simp
              with_reducible rfl
             rotate_left
             ·simp only [Act.put, sA, sB, sC, i64_w, i32_w]
              rfl
             refine pure_ (i := 7) (N := some 49) (v := ?_) (a' := ?_) (bs 20 175) rfl rfl (ak HT_.out) (fun _ _ _ h => h) (Or.inl ⟨by rfl, ?_⟩) ?_ ?_; rotate_left
             ·intro w'
              go_simp
              with_reducible rfl
             rotate_left
             ·simp only [Act.put, sA, sB, sC, i64_w, i32_w]
              rfl
             refine take_ (i := 8) (N := some 50) (v := ?_) (a' := ?_) (bs 20 431) rfl rfl (take_ofW HT_.out HW_.out (by kernel_rfl)) (fun _ _ _ h => h) (Or.inl ⟨by rfl, ?_⟩) hHeld ?_ ?_; rotate_left
             ·rintro w' ⟨s0, s1, s2⟩
              go_simp
              with_reducible rfl
             rotate_left
             ·simp only [Act.put, sA, sB, sC, i64_w, i32_w]
              rfl
             refine one_ (i := 4) (N := some 46) (bs 20 447) rfl rfl (one_of HT_.out (by kernel_rfl)) (by decide) (fun K hK => ?_); refine goes_ Tryd.func18 (by kernel_rfl) rfl #[.slice Ao37 t319.length co37] (by rfl) rfl rfl ap1 ?_; with_reducible refine (lines_Weight.calls k2 _ _ t319 t323 _ ?side1 ?side2 ?side3 A17.out).mono ?_
             (case side1 => exact cu (Kd.R_reads' HO322.out).2.2)
             (case side2 => exact (Kd.R_reads' HO322.out).2.1)
             (case side3 => first | (with_reducible exact HT.out) | exact Tabs.below HT.out (beu HB.out))
             rintro e w38 ⟨rfl, hb⟩; refine ⟨_, rfl, ?_⟩; have n0_ := am (Kd.R_below (ru HO313.out) hb); have n1_ := am (Kd.R_below (ru HO317.out) hb); have n2_ := am (Kd.R_below (ru HO322.out) hb); have n3_ := am (blk_below (bu BK310.out) hb); have n4_ := am (below_step (beu HB.out) hb); clear HO313 HO317 HO322 BK310 HB; have HO313 := n0_; have HO317 := n1_; have HO322 := n2_; have BK310 := n3_; have HB := n4_; clear n0_ n1_ n2_ n3_ n4_
             (try clear hb)
             (try clear hb2)
             (try clear hk)
             (try clear hi)
             refine hK.out _ _ ⟨(blk_cell BK310.out 0).trans rfl, (blk_cell BK310.out 1).trans rfl, (blk_cell BK310.out 2).trans rfl⟩ (fun hHeld => ?_); clear hK K; refine norm_ (a' := ?_) ?_ ?_; rotate_left
             ·show Act.put _ (some 46) _ = _
              simp only [Act.put, sA, sB, sC, i64_w, i32_w]
              rfl
             refine one_ (i := 6) (N := some 48) (bs 20 511) rfl rfl (one_of HT_.out (by kernel_rfl)) (by decide) (fun K hK => ?_); refine goes_ Tryd.func18 (by kernel_rfl) rfl #[.slice (some ad309) l0.length c0] (by rfl) rfl rfl ap1 ?_; with_reducible refine (lines_Weight.calls k2 _ _ l0 t324 _ ?side1 ?side2 ?side3 A18.out).mono ?_
             (case side1 => exact cu (Kd.C_below HR0.out HB.out))
             (case side2 => exact HC0.out)
             (case side3 => first | (with_reducible exact HT.out) | exact Tabs.below HT.out (beu HB.out))
             rintro e w39 ⟨rfl, hb⟩; refine ⟨_, rfl, ?_⟩; have n0_ := am (Kd.R_below (ru HO313.out) hb); have n1_ := am (Kd.R_below (ru HO317.out) hb); have n2_ := am (Kd.R_below (ru HO322.out) hb); have n3_ := am (blk_below (bu BK310.out) hb); have n4_ := am (below_step (beu HB.out) hb); clear HO313 HO317 HO322 BK310 HB; have HO313 := n0_; have HO317 := n1_; have HO322 := n2_; have BK310 := n3_; have HB := n4_; clear n0_ n1_ n2_ n3_ n4_
             (try clear hb)
             (try clear hb2)
             (try clear hk)
             (try clear hi)
             refine hK.out _ _ ⟨(blk_cell BK310.out 0).trans rfl, (blk_cell BK310.out 1).trans rfl, (blk_cell BK310.out 2).trans rfl⟩ (fun hHeld => ?_); clear hK K; refine norm_ (a' := ?_) ?_ ?_; rotate_left
             ·show Act.put _ (some 48) _ = _
              simp only [Act.put, sA, sB, sC, i64_w, i32_w]
              rfl
             refine pure_ (i := 9) (N := some 51) (v := ?_) (a' := ?_) (bs 20 1023) rfl rfl (ak HT_.out) (fun _ _ _ h => h) (Or.inl ⟨by rfl, ?_⟩) ?_ ?_; rotate_left
             ·intro w'
              go_simp
              with_reducible rfl
             rotate_left
             ·simp only [Act.put, sA, sB, sC, i64_w, i32_w]
              rfl
             refine pure_ (i := 10) (N := some 52) (v := ?_) (a' := ?_) (bs 20 2047) rfl rfl (ak HT_.out) (fun _ _ _ h => h) (Or.inl ⟨by rfl, ?_⟩) ?_ ?_; rotate_left
             ·intro w'
              go_simp
              with_reducible rfl
             rotate_left
             ·simp only [Act.put, sA, sB, sC, i64_w, i32_w]
              rfl
             refine pure_ (i := 11) (N := some 53) (v := ?_) (a' := ?_) (bs 20 4095) rfl rfl (ak HT_.out) (fun _ _ _ h => h) (Or.inl ⟨by rfl, ?_⟩) ?_ ?_; rotate_left
             ·intro w'
              go_simp
              with_reducible rfl
             rotate_left
             ·simp only [Act.put, sA, sB, sC, i64_w, i32_w]
              rfl
             refine pure_ (i := 12) (N := some 54) (v := ?_) (a' := ?_) (bs 20 8191) rfl rfl (ak HT_.out) (fun _ _ _ h => h) (Or.inl ⟨by rfl, ?_⟩) ?_ ?_; rotate_left
             ·intro w'
              go_simp
              with_reducible rfl
             rotate_left
             ·simp only [Act.put, sA, sB, sC, i64_w, i32_w]
              rfl
             refine pure_ (i := 14) (N := some 56) (v := ?_) (a' := ?_) (bs 20 24575) rfl rfl (ak HT_.out) (fun _ _ _ h => h) (Or.inl ⟨by rfl, ?_⟩) ?_ ?_; rotate_left
             ·intro w'
              go_simp
              with_reducible rfl
             rotate_left
             ·simp only [Act.put, sA, sB, sC, i64_w, i32_w]
              rfl
             refine one_ (i := 13) (N := some 55) (bs 20 32767) rfl rfl (one_of HT_.out (by kernel_rfl)) (by decide) (fun K hK => ?_); refine goes_ Tryd.func16 (by kernel_rfl) rfl #[.slice Ao37 t319.length co37] (by rfl) rfl rfl ap1 ?_; with_reducible refine (lines_Pieces.calls k2 _ _ t319 t325 _ ?side1 ?side2 ?side3 A20.out).mono ?_
             (case side1 => exact cu (Kd.R_reads' HO322.out).2.2)
             (case side2 => exact (Kd.R_reads' HO322.out).2.1)
             (case side3 => first | (with_reducible exact HT.out) | exact Tabs.below HT.out (beu HB.out))
             rintro e w40 ⟨rfl, hb⟩; refine ⟨_, rfl, ?_⟩; have n0_ := am (Kd.R_below (ru HO313.out) hb); have n1_ := am (Kd.R_below (ru HO317.out) hb); have n2_ := am (Kd.R_below (ru HO322.out) hb); have n3_ := am (blk_below (bu BK310.out) hb); have n4_ := am (below_step (beu HB.out) hb); clear HO313 HO317 HO322 BK310 HB; have HO313 := n0_; have HO317 := n1_; have HO322 := n2_; have BK310 := n3_; have HB := n4_; clear n0_ n1_ n2_ n3_ n4_
             (try clear hb)
             (try clear hb2)
             (try clear hk)
             (try clear hi)
             refine hK.out _ _ ⟨(blk_cell BK310.out 0).trans rfl, (blk_cell BK310.out 1).trans rfl, (blk_cell BK310.out 2).trans rfl⟩ (fun hHeld => ?_); clear hK K; refine norm_ (a' := ?_) ?_ ?_; rotate_left
             ·show Act.put _ (some 55) _ = _
              simp only [Act.put, sA, sB, sC, i64_w, i32_w]
              rfl
             refine one_ (i := 15) (N := some 57) (bs 20 65535) rfl rfl (one_of HT_.out (by kernel_rfl)) (by decide) (fun K hK => ?_); refine goes_ Tryd.func16 (by kernel_rfl) rfl #[.slice (some ad309) l0.length c0] (by rfl) rfl rfl ap1 ?_; with_reducible refine (lines_Pieces.calls k2 _ _ l0 t326 _ ?side1 ?side2 ?side3 A21.out).mono ?_
             (case side1 => exact cu (Kd.C_below HR0.out HB.out))
             (case side2 => exact HC0.out)
             (case side3 => first | (with_reducible exact HT.out) | exact Tabs.below HT.out (beu HB.out))
             rintro e w41 ⟨rfl, hb⟩; refine ⟨_, rfl, ?_⟩; have n0_ := am (Kd.R_below (ru HO313.out) hb); have n1_ := am (Kd.R_below (ru HO317.out) hb); have n2_ := am (Kd.R_below (ru HO322.out) hb); have n3_ := am (blk_below (bu BK310.out) hb); have n4_ := am (below_step (beu HB.out) hb); clear HO313 HO317 HO322 BK310 HB; have HO313 := n0_; have HO317 := n1_; have HO322 := n2_; have BK310 := n3_; have HB := n4_; clear n0_ n1_ n2_ n3_ n4_
             (try clear hb)
             (try clear hb2)
             (try clear hk)
             (try clear hi)
             refine hK.out _ _ ⟨(blk_cell BK310.out 0).trans rfl, (blk_cell BK310.out 1).trans rfl, (blk_cell BK310.out 2).trans rfl⟩ (fun hHeld => ?_); clear hK K; refine norm_ (a' := ?_) ?_ ?_; rotate_left
             ·show Act.put _ (some 57) _ = _
              simp only [Act.put, sA, sB, sC, i64_w, i32_w]
              rfl
             refine pure_ (i := 16) (N := some 58) (v := ?_) (a' := ?_) (bs 20 131071) rfl rfl (ak HT_.out) (fun _ _ _ h => h) (Or.inl ⟨by rfl, ?_⟩) ?_ ?_; rotate_left
             ·intro w'
              go_simp
              with_reducible rfl
             rotate_left
             ·simp only [Act.put, sA, sB, sC, i64_w, i32_w]
              rfl
             refine pure_ (i := 17) (N := some 59) (v := ?_) (a' := ?_) (bs 20 262143) rfl rfl (ak HT_.out) (fun _ _ _ h => h) (Or.inl ⟨by rfl, ?_⟩) ?_ ?_; rotate_left
             ·intro w'
              go_simp
              with_reducible rfl
             rotate_left
             ·simp only [Act.put, sA, sB, sC, i64_w, i32_w]
              rfl
             refine pure_ (i := 18) (N := some 60) (v := ?_) (a' := ?_) (bs 20 524287) rfl rfl (ak HT_.out) (fun _ _ _ h => h) (Or.inl ⟨by rfl, ?_⟩) ?_ ?_; rotate_left
             ·intro w'
              go_simp
              with_reducible rfl
             rotate_left
             ·simp only [Act.put, sA, sB, sC, i64_w, i32_w]
              rfl
             refine pure_ (i := 19) (N := some 61) (v := ?_) (a' := ?_) (bs 20 1048575) rfl rfl (ak HT_.out) (fun _ _ _ h => h) (Or.inl ⟨by rfl, ?_⟩) ?_ ?_; rotate_left
             ·intro w'
              go_simp
              with_reducible rfl
             rotate_left
             ·simp only [Act.put, sA, sB, sC, i64_w, i32_w]
              rfl
             refine done_ (done_of HT_.out (by kernel_rfl)) ?_
             try go_wp2
             go_roundg k2
             case measure => have := HJ3.out; have := HK2.out; omega
             case rel => exact ⟨(wrap64 (x3_2 + t314)), (wrap64 (x4_2 + t318)), (wrap64 (x21_2 + 1)), ap3, ap3, ap3, H', ⟨by have := HJ3.out; have := HK2.out; omega⟩, ⟨beu HB.out⟩⟩
            ·rw [if_neg c22] at H
             have c22b0 : (t325 == (wrap64 (t326 - 1))) = false := beq_eq_false_iff_ne.mpr c22; have c22b1 : (t325 != (wrap64 (t326 - 1))) = true := bne_iff_ne.mpr c22; obtain rfl := Option.some.inj H; exact absurd HRT.out (by decide)
           ·rw [if_neg c19] at H
            have c19b0 : (t323 == (wrap64 (t324 - ((rd_T37 l0 x21_2).f2)))) = false := beq_eq_false_iff_ne.mpr c19; have c19b1 : (t323 != (wrap64 (t324 - ((rd_T37 l0 x21_2).f2)))) = true := bne_iff_ne.mpr c19; obtain rfl := Option.some.inj H; exact absurd HRT.out (by decide)
          ·rw [if_neg c16] at H
           have c16b0 : (t320 == 0) = false := beq_eq_false_iff_ne.mpr c16; have c16b1 : (t320 != 0) = true := bne_iff_ne.mpr c16; have H' := am H; clear H; have p309 : 0 ≤ (x21_2 : Int) := of_decide_eq_true ap2; have q309 : x21_2 < (l0.length : Int) := of_decide_eq_true ap2; obtain ⟨ad309, e309, hx309_0, hx309_1, hx309_2⟩ := at_T37 HR0.out x21_2 p309 q309
           cases e309
           replace hx309_0 := (HB.out.cell (World.block_lt_of_cell? w _ hx309_0)).trans hx309_0; replace hx309_1 := (HB.out.cell (World.block_lt_of_cell? w _ hx309_1)).trans hx309_1; replace hx309_2 := (HB.out.cell (World.block_lt_of_cell? w _ hx309_2)).trans hx309_2; replace p309 := eq_true p309; replace q309 := eq_true q309
           try go_wp2_with (first | ((with_reducible refine gate_dst (N := 6) rfl ?_); refine box_event ?hg (N := 6) ?hd (cs := #[.string ⟨#[]⟩, .int .i64 0, .int .i64 0]) (t := 37) ?hr ?_; (case hd => rfl); (case hg => rfl); (case hr => first | (go_simp; done) | (go_simp; rfl)); intro gb310 hg w42 hbox hb; have _ := am (below_step (beu HB.out) hb); have _ := am (hbox); have _ := am ((by rw [hg]; exact (below_size (beu HB.out)) : w.heap.size ≤ gb310)); have _ := am ((by rw [hg]; exact (below_size (beu HB.out)) : w.heap.size ≤ gb310)); clear HB; rename_i HB BK310 GW310 GE310; clear hb hbox hg; obtain ⟨_, _, _⟩ := cells3 BK310.out; obtain ⟨_, _, _⟩ := frozens3 BK310.out) | ((with_reducible refine gate_dst (N := 27) rfl ?_); refine Kd.R_lit k37 _ 37 ?hg (N := 27) ?hd (xs := ([(⟨(rd_T37 l0 x21_2).f0, (rd_T37 l0 x21_2).f1, (rd_T37 l0 x21_2).f2⟩ : S37)] : List (S37))) (inner := [.string ((rd_T37 l0 x21_2).f0), .int .i64 ((rd_T37 l0 x21_2).f1), .int .i64 ((rd_T37 l0 x21_2).f2)]) (ok := fun _ => True) (okp := fun _ => True) ?hr ?hp (fun _ hk => hk) trivial (Below.refl _ _) (Nat.le_refl _) (by simp) ?_; (case hd => rfl); (case hg => rfl); (case hr => first | (go_simp; done) | (go_simp; rfl)); (case hp => exact (Reps.c3 (show Kd.M k37 _ _ _ (⟨(rd_T37 l0 x21_2).f0, (rd_T37 l0 x21_2).f1, (rd_T37 l0 x21_2).f2⟩ : S37) [.string ((rd_T37 l0 x21_2).f0), .int .i64 ((rd_T37 l0 x21_2).f1), .int .i64 ((rd_T37 l0 x21_2).f2)] from (k37_mkM _ _ _ (⟨(rd_T37 l0 x21_2).f0, (rd_T37 l0 x21_2).f1, (rd_T37 l0 x21_2).f2⟩ : S37) )) (Reps.none _ _))); intro v312 w44 ho45 hb hg_ hnew_; clear hg_ hnew_; (first | rw [← Ny311.out] at ho45 | (simp only [Int.reduceToNat] at ho45; rw [← Ny311.out] at ho45)); have _ := am (Kd.R_lower (Kd.R_newB ho45 (g := gb310) (o := .cells #[.string ((rd_T37 l0 x21_2).f0), .int .i64 ((rd_T37 l0 x21_2).f1), .int .i64 ((rd_T37 l0 x21_2).f2)] 37 (0, 0)) (by refine bu ?_; refine blk_put (cs := #[.string ((rd_T37 l0 x21_2).f0), .int .i64 ((rd_T37 l0 x21_2).f1), .int .i64 0]) ?_ 2 _ rfl; refine bu ?_; refine blk_put (cs := #[.string ((rd_T37 l0 x21_2).f0), .int .i64 0, .int .i64 0]) ?_ 1 _ rfl; refine bu ?_; refine blk_put (cs := #[.string ⟨#[]⟩, .int .i64 0, .int .i64 0]) ?_ 0 _ rfl; refine bu ?_; exact BK310.out)) (below_size (beu HB.out))); have _ := am (blk_below (g := gb310) (o := .cells #[.string ((rd_T37 l0 x21_2).f0), .int .i64 ((rd_T37 l0 x21_2).f1), .int .i64 ((rd_T37 l0 x21_2).f2)] 37 (0, 0)) (by refine bu ?_; refine blk_put (cs := #[.string ((rd_T37 l0 x21_2).f0), .int .i64 ((rd_T37 l0 x21_2).f1), .int .i64 0]) ?_ 2 _ rfl; refine bu ?_; refine blk_put (cs := #[.string ((rd_T37 l0 x21_2).f0), .int .i64 0, .int .i64 0]) ?_ 1 _ rfl; refine bu ?_; refine blk_put (cs := #[.string ⟨#[]⟩, .int .i64 0, .int .i64 0]) ?_ 0 _ rfl; refine bu ?_; exact BK310.out) hb); have _ := am (below_step (beu HB.out) hb); clear BK310 HB; rename_i HO313 BK310 HB; clear hb ho45; obtain ⟨Ao46, co46, eo46⟩ := Kd.R_slice HO313.out; subst eo46) | ((with_reducible refine gate_callee (f := 16) rfl ?_); refine goesL_ (some 28) rfl rfl Tryd.func16 (by kernel_rfl) rfl #[.slice Ao46 y311.length co46] rfl ap1 ?_; (with_reducible refine (lines_Pieces.calls k2 _ _ y311 t314 _ ?side1 ?side2 ?side3 A13.out).mono ?_); (case side1 => exact cu (Kd.R_reads' HO313.out).2.2); (case side2 => exact (Kd.R_reads' HO313.out).2.1); (case side3 => first | (with_reducible exact HT.out) | exact Tabs.below HT.out (beu HB.out)); rintro e w47 ⟨rfl, hb⟩; refine ⟨_, rfl, ?_⟩; have _ := am (Kd.R_below (ru HO313.out) hb); have _ := am (blk_below (bu BK310.out) hb); have _ := am (below_step (beu HB.out) hb); clear HO313 BK310 HB; rename_i HO313 BK310 HB; (try clear hb); obtain ⟨_, _, _⟩ := cells3 BK310.out; obtain ⟨_, _, _⟩ := frozens3 BK310.out) | ((with_reducible refine gate_dst (N := 32) rfl ?_); refine Kd.R_lit k37 _ 37 ?hg (N := 32) ?hd (xs := ([(⟨(rd_T37 l0 x21_2).f0, (rd_T37 l0 x21_2).f1, (rd_T37 l0 x21_2).f2⟩ : S37)] : List (S37))) (inner := [.string ((rd_T37 l0 x21_2).f0), .int .i64 ((rd_T37 l0 x21_2).f1), .int .i64 ((rd_T37 l0 x21_2).f2)]) (ok := fun _ => True) (okp := fun _ => True) ?hr ?hp (fun _ hk => hk) trivial (Below.refl _ _) (Nat.le_refl _) (by simp) ?_; (case hd => rfl); (case hg => rfl); (case hr => first | (go_simp; done) | (go_simp; rfl)); (case hp => exact (Reps.c3 (show Kd.M k37 _ _ _ (⟨(rd_T37 l0 x21_2).f0, (rd_T37 l0 x21_2).f1, (rd_T37 l0 x21_2).f2⟩ : S37) [.string ((rd_T37 l0 x21_2).f0), .int .i64 ((rd_T37 l0 x21_2).f1), .int .i64 ((rd_T37 l0 x21_2).f2)] from (k37_mkM _ _ _ (⟨(rd_T37 l0 x21_2).f0, (rd_T37 l0 x21_2).f1, (rd_T37 l0 x21_2).f2⟩ : S37) )) (Reps.none _ _))); intro v316 w49 ho50 hb hg_ hnew_; clear hg_ hnew_; (first | rw [← Ny315.out] at ho50 | (simp only [Int.reduceToNat] at ho50; rw [← Ny315.out] at ho50)); have _ := am (Kd.R_elder' (ru HO313.out) (Kd.R_base ho50) hb); have _ := am (Kd.R_lower (Kd.R_newB (Kd.R_new' ho50 (Kd.R_lt (ru HO313.out))) (bu BK310.out)) (below_size (beu HB.out))); have _ := am (blk_below (bu BK310.out) hb); have _ := am (below_step (beu HB.out) hb); clear HO313 BK310 HB; rename_i HO313 HO317 BK310 HB; clear hb ho50; obtain ⟨Ao51, co51, eo51⟩ := Kd.R_slice HO317.out; subst eo51) | ((with_reducible refine gate_callee (f := 18) rfl ?_); refine goesL_ (some 33) rfl rfl Tryd.func18 (by kernel_rfl) rfl #[.slice Ao51 y315.length co51] rfl ap1 ?_; (with_reducible refine (lines_Weight.calls k2 _ _ y315 t318 _ ?side1 ?side2 ?side3 A14.out).mono ?_); (case side1 => exact cu (Kd.R_reads' HO317.out).2.2); (case side2 => exact (Kd.R_reads' HO317.out).2.1); (case side3 => first | (with_reducible exact HT.out) | exact Tabs.below HT.out (beu HB.out)); rintro e w52 ⟨rfl, hb⟩; refine ⟨_, rfl, ?_⟩; have _ := am (Kd.R_below (ru HO313.out) hb); have _ := am (Kd.R_below (ru HO317.out) hb); have _ := am (blk_below (bu BK310.out) hb); have _ := am (below_step (beu HB.out) hb); clear HO313 HO317 BK310 HB; rename_i HO313 HO317 BK310 HB; (try clear hb); obtain ⟨_, _, _⟩ := cells3 BK310.out; obtain ⟨_, _, _⟩ := frozens3 BK310.out) | ((with_reducible refine gate_callee (f := 20) rfl ?_); refine goesL_ (some 39) rfl rfl Tryd.func20 (by kernel_rfl) rfl #[.slice (some ad309) l0.length c0, .string ((rd_T37 l0 x21_2).f0), .int .i64 1] rfl ap1 ?_; (with_reducible refine (lines_Take.calls k2 _ _ l0 ((rd_T37 l0 x21_2).f0) 1 t319 t320 _ ?side1 ?side2 ?side3 A15.out).mono ?_); (case side1 => exact cu (Kd.C_below HR0.out HB.out)); (case side2 => exact HC0.out); (case side3 => first | (with_reducible exact HT.out) | exact Tabs.below HT.out (beu HB.out)); rintro e w54 ⟨v321, rfl, ho0, hb⟩; refine ⟨_, rfl, ?_⟩; have _ := am (Kd.R_elder' (ru HO313.out) (Kd.R_base ho0) hb); have _ := am (Kd.R_elder' (ru HO317.out) (Kd.R_base ho0) hb); have _ := am (Kd.R_lower (Kd.R_newB (Kd.R_new' (Kd.R_new' ho0 (Kd.R_lt (ru HO313.out))) (Kd.R_lt (ru HO317.out))) (bu BK310.out)) (below_size (beu HB.out))); have _ := am (blk_below (bu BK310.out) hb); have _ := am (below_step (beu HB.out) hb); clear HO313 HO317 BK310 HB; rename_i HO313 HO317 HO322 BK310 HB; (try clear hb); (try clear ho0)))
           (try (rw [drewN_self w54]; generalize hq_ : World.drewN w54 _ = w54; have _ := am (show Kd.R _ _ w54 _ _ _ _ from by rw [← hq_]; exact Kd.R_drewN HO313.out _); have _ := am (show Kd.R _ _ w54 _ _ _ _ from by rw [← hq_]; exact Kd.R_drewN HO317.out _); have _ := am (show Kd.R _ _ w54 _ _ _ _ from by rw [← hq_]; exact Kd.R_drewN HO322.out _); have _ := am (blk_at hq_ BK310.out); have _ := am (below_at hq_ HB.out); clear hq_ HO313 HO317 HO322 BK310 HB; rename_i HO313 HO317 HO322 BK310 HB))
           have n0_ := am (Kd.R_drew HO313.out); have n1_ := am (Kd.R_drew HO317.out); have n2_ := am (Kd.R_drew HO322.out); have n3_ := am (blk_drew BK310.out); have n4_ := am (below_drew1 HB.out); clear HO313 HO317 HO322 BK310 HB; have HO313 := n0_; have HO317 := n1_; have HO322 := n2_; have BK310 := n3_; have HB := n4_; clear n0_ n1_ n2_ n3_ n4_
           refine start_ (n := 20) (S := fun w' => True) (ds := []) #[false, false, false, false, false, false, false, false, false, false, false, false, false, false, false, false, false, false, false, false] (by kernel_rfl) rfl rfl trivial (fun hHeld => ?_); refine with_tabW packhorselaw04_LinesWeigh.tab12 packhorselaw04_LinesWeigh.bits12 (fun HT_ HW_ => ?_)
           generalize w54.drew = w55 at HO313 HO317 HO322 BK310 HB hHeld ⊢; refine pure_ (i := 0) (N := some 42) (v := ?_) (a' := ?_) (bs 20 1) rfl rfl (ak HT_.out) (fun _ _ _ h => h) (Or.inl ⟨by rfl, ?_⟩) ?_ ?_; rotate_left
           ·intro w'
            go_simp
            with_reducible rfl
           rotate_left
           ·simp only [Act.put, sA, sB, sC, i64_w, i32_w]
            rfl
           refine pure_ (i := 1) (N := some 43) (v := ?_) (a' := ?_) (bs 20 3) rfl rfl (ak HT_.out) (fun _ _ _ h => h) (Or.inl ⟨by rfl, ?_⟩) ?_ ?_; rotate_left
           ·intro w'
            go_simp
            with_reducible rfl
           rotate_left
           ·simp only [Act.put, sA, sB, sC, i64_w, i32_w]
            rfl
           refine pure_ (i := 2) (N := some 44) (v := ?_) (a' := ?_) (bs 20 7) rfl rfl (ak HT_.out) (fun _ _ _ h => h) (Or.inl ⟨by rfl, ?_⟩) ?_ ?_; rotate_left
           ·intro w'
            go_simp
            with_reducible rfl
           rotate_left
           ·simp only [Act.put, sA, sB, sC, i64_w, i32_w]
            rfl
           refine pure_ (i := 3) (N := some 45) (v := undef) (a' := ?_) (bs 20 15) rfl rfl (ak HT_.out) (fun _ _ _ h => h) (Or.inr ⟨by rfl, rfl⟩) ?_ ?_; rotate_left
           ·simp only [Act.put, sA, sB, sC, i64_w, i32_w]
            rfl
           refine pure_ (i := 4) (N := some 46) (v := undef) (a' := ?_) (bs 20 31) rfl rfl (ak HT_.out) (fun _ _ _ h => h) (Or.inr ⟨by rfl, rfl⟩) ?_ ?_; rotate_left
           ·simp only [Act.put, sA, sB, sC, i64_w, i32_w]
            rfl
           refine pure_ (i := 5) (N := some 47) (v := undef) (a' := ?_) (bs 20 63) rfl rfl (ak HT_.out) (fun _ _ _ h => h) (Or.inr ⟨by rfl, rfl⟩) ?_ ?_; rotate_left
           ·simp only [Act.put, sA, sB, sC, i64_w, i32_w]
            rfl
           refine pure_ (i := 6) (N := some 48) (v := undef) (a' := ?_) (bs 20 127) rfl rfl (ak HT_.out) (fun _ _ _ h => h) (Or.inr ⟨by rfl, rfl⟩) ?_ ?_; rotate_left
           ·simp only [Act.put, sA, sB, sC, i64_w, i32_w]
            rfl
           refine pure_ (i := 7) (N := some 49) (v := undef) (a' := ?_) (bs 20 255) rfl rfl (ak HT_.out) (fun _ _ _ h => h) (Or.inr ⟨by rfl, rfl⟩) ?_ ?_; rotate_left
           ·simp only [Act.put, sA, sB, sC, i64_w, i32_w]
            rfl
           refine pure_ (i := 8) (N := some 50) (v := undef) (a' := ?_) (bs 20 511) rfl rfl (ak HT_.out) (fun _ _ _ h => h) (Or.inr ⟨by rfl, rfl⟩) ?_ ?_; rotate_left
           ·simp only [Act.put, sA, sB, sC, i64_w, i32_w]
            rfl
           refine pure_ (i := 9) (N := some 51) (v := undef) (a' := ?_) (bs 20 1023) rfl rfl (ak HT_.out) (fun _ _ _ h => h) (Or.inr ⟨by rfl, rfl⟩) ?_ ?_; rotate_left
           ·simp only [Act.put, sA, sB, sC, i64_w, i32_w]
            rfl
           refine pure_ (i := 10) (N := some 52) (v := undef) (a' := ?_) (bs 20 2047) rfl rfl (ak HT_.out) (fun _ _ _ h => h) (Or.inr ⟨by rfl, rfl⟩) ?_ ?_; rotate_left
           ·simp only [Act.put, sA, sB, sC, i64_w, i32_w]
            rfl
           refine pure_ (i := 11) (N := some 53) (v := undef) (a' := ?_) (bs 20 4095) rfl rfl (ak HT_.out) (fun _ _ _ h => h) (Or.inr ⟨by rfl, rfl⟩) ?_ ?_; rotate_left
           ·simp only [Act.put, sA, sB, sC, i64_w, i32_w]
            rfl
           refine pure_ (i := 12) (N := some 54) (v := undef) (a' := ?_) (bs 20 8191) rfl rfl (ak HT_.out) (fun _ _ _ h => h) (Or.inr ⟨by rfl, rfl⟩) ?_ ?_; rotate_left
           ·simp only [Act.put, sA, sB, sC, i64_w, i32_w]
            rfl
           refine pure_ (i := 13) (N := some 55) (v := undef) (a' := ?_) (bs 20 16383) rfl rfl (ak HT_.out) (fun _ _ _ h => h) (Or.inr ⟨by rfl, rfl⟩) ?_ ?_; rotate_left
           ·simp only [Act.put, sA, sB, sC, i64_w, i32_w]
            rfl
           refine pure_ (i := 14) (N := some 56) (v := undef) (a' := ?_) (bs 20 32767) rfl rfl (ak HT_.out) (fun _ _ _ h => h) (Or.inr ⟨by rfl, rfl⟩) ?_ ?_; rotate_left
           ·simp only [Act.put, sA, sB, sC, i64_w, i32_w]
            rfl
           refine pure_ (i := 15) (N := some 57) (v := undef) (a' := ?_) (bs 20 65535) rfl rfl (ak HT_.out) (fun _ _ _ h => h) (Or.inr ⟨by rfl, rfl⟩) ?_ ?_; rotate_left
           ·simp only [Act.put, sA, sB, sC, i64_w, i32_w]
            rfl
           refine pure_ (i := 16) (N := some 58) (v := undef) (a' := ?_) (bs 20 131071) rfl rfl (ak HT_.out) (fun _ _ _ h => h) (Or.inr ⟨by rfl, rfl⟩) ?_ ?_; rotate_left
           ·simp only [Act.put, sA, sB, sC, i64_w, i32_w]
            rfl
           refine pure_ (i := 17) (N := some 59) (v := undef) (a' := ?_) (bs 20 262143) rfl rfl (ak HT_.out) (fun _ _ _ h => h) (Or.inr ⟨by rfl, rfl⟩) ?_ ?_; rotate_left
           ·simp only [Act.put, sA, sB, sC, i64_w, i32_w]
            rfl
           refine pure_ (i := 18) (N := some 60) (v := undef) (a' := ?_) (bs 20 524287) rfl rfl (ak HT_.out) (fun _ _ _ h => h) (Or.inr ⟨by rfl, rfl⟩) ?_ ?_; rotate_left
           ·simp only [Act.put, sA, sB, sC, i64_w, i32_w]
            rfl
           refine pure_ (i := 19) (N := some 61) (v := ?_) (a' := ?_) (bs 20 1048575) rfl rfl (ak HT_.out) (fun _ _ _ h => h) (Or.inl ⟨by rfl, ?_⟩) ?_ ?_; rotate_left
           ·intro w'
            go_simp
            with_reducible rfl
           rotate_left
           ·simp only [Act.put, sA, sB, sC, i64_w, i32_w]
            rfl
           refine done_ (done_of HT_.out (by kernel_rfl)) ?_
           try go_wp2
           go_roundg k2
           case measure => have := HJ3.out; have := HK2.out; omega
           case rel => exact ⟨(wrap64 (x3_2 + t314)), (wrap64 (x4_2 + t318)), (wrap64 (x21_2 + 1)), ap3, ap3, ap3, H', ⟨by have := HJ3.out; have := HK2.out; omega⟩, ⟨beu HB.out⟩⟩
         ·rw [if_neg c12] at H
          exact absurd H (by simp)
        ·rw [if_neg c11] at H
         exact absurd H (by simp)
       ·rw [if_neg c10] at H
        have c10b0 : decide (x21_2 < (l0.length : Int)) = false := decide_eq_false c10; clear c10; replace H := obm H; obtain ⟨t307, A560, H⟩ := H; replace H : (if x3_2 = t307 then ((lines_Weight.f k2 l0).bind fun t308 => (some (x4_2 == t308))) else (some false)) = some r := H; have A56 := am A560; clear A560
        by_cases c57 : x3_2 = t307
        ·rw [if_pos c57] at H
         have c57b0 : (x3_2 == t307) = true := beq_iff_eq.mpr c57; have c57b1 : (x3_2 != t307) = false := bne_eq_false_iff_eq.mpr c57; clear c57; replace H := obm H; obtain ⟨t308, A580, H⟩ := H; replace H : (some (x4_2 == t308)) = some r := H; have A58 := am A580; clear A580; obtain rfl := Option.some.inj H; simp only [Option.some.injEq, Prod.mk.injEq] at H; obtain ⟨rfl⟩ := H
         go_wp2_with (first | ((with_reducible refine gate_callee (f := 16) rfl ?_); refine goesL_ (some 65) rfl rfl Tryd.func16 (by kernel_rfl) rfl #[.slice A0 l0.length c0] rfl ap1 ?_; (with_reducible refine (lines_Pieces.calls k2 _ _ l0 t307 _ ?side1 ?side2 ?side3 A56.out).mono ?_); (case side1 => exact cu (Kd.C_below HR0.out HB.out)); (case side2 => exact HC0.out); (case side3 => first | (with_reducible exact HT.out) | exact Tabs.below HT.out (beu HB.out)); rintro e w59 ⟨rfl, hb⟩; refine ⟨_, rfl, ?_⟩; have _ := am (below_step (beu HB.out) hb); clear HB; rename_i HB; (try clear hb)) | (go_at_call 18; (with_reducible refine (lines_Weight.calls k2 _ _ l0 t308 _ ?side1 ?side2 ?side3 A58.out).mono ?_); (case side1 => exact cu (Kd.C_below HR0.out HB.out)); (case side2 => exact HC0.out); (case side3 => first | (with_reducible exact HT.out) | exact Tabs.below HT.out (beu HB.out)); rintro e w60 ⟨rfl, hb⟩; have _ := am (below_step (beu HB.out) hb); clear HB; rename_i HB; (try clear hb)))
         go_ret
         exact ⟨ap4, beu HB.out⟩
        ·rw [if_neg c57] at H
         have c57b0 : (x3_2 == t307) = false := beq_eq_false_iff_ne.mpr c57; have c57b1 : (x3_2 != t307) = true := bne_iff_ne.mpr c57; obtain rfl := Option.some.inj H; exact absurd HRT.out (by decide)
 ·replace c3 := Bool.eq_false_iff.mpr c3
  subst c3
  have H1 : (some false) = some r := by rw [if_neg (show ¬ (false = true) by decide)] at H; exact H
  clear H; have H := H1; clear H1; obtain rfl := Option.some.inj H; exact absurd HRT.out (by decide)
end Go.Proofs.YtalcopjlofbfaaaDoor.PAll
