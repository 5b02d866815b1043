
import Derived.Test.YtapfpdjcbeiibaaDoorQBatchRunsPAllx0
import Derived.Test.YtapfpdjcbeiibaaDoorQBatchRunsPAllx1
import Derived.Test.YtapfpdjcbeiibaaDoorQBatchRunsPAllx2
namespace Go.Proofs.YtapfpdjcbeiibaaDoor.PAll
open Go.RowKit Go.Proofs.YtapfpdjcbeiibaaDoorW.PrintWords Go.Proofs.YtapfpdjcbeiibaaDoorW.PrintLast Go.Proofs.YtapfpdjcbeiibaaDoorW.PrintMore
attribute [local go_sem] max2_int max_two
set_option linter.unusedVariables false
set_option linter.unusedSimpArgs false
attribute [local go_sem high] eqA28
def packhorseref01_Signs.l0 : Nat → ByteArray → List ByteArray → Int → Option (List ByteArray)
 | 0, _, _, _ => none
 | k + 1, x0, x3, x4 => if x4 < (x0.size : Int) then ((packhorseref01_sign.f k x0 x4).bind fun bt194 => (if bt194.1 = 0 then (some ([] : List ByteArray)) else (if (x3.length : Int) = 0 then (if bt194.2 = true then (if (x3.length : Int) = 16 then (some ([] : List ByteArray)) else (if 0 ≤ x4 then (if x4 ≤ (wrap64 (x4 + bt194.1)) then (if (wrap64 (x4 + bt194.1)) ≤ (x0.size : Int) then (if x3.length < 8796093022208 then (packhorseref01_Signs.l0 k x0 (x3 ++ [x0.extract (x4 : Int).toNat ((wrap64 (x4 + bt194.1)) : Int).toNat]) (wrap64 (x4 + bt194.1))) else (none)) else (none)) else (none)) else (none))) else (some ([] : List ByteArray))) else (if (x3.length : Int) = 16 then (some ([] : List ByteArray)) else (if 0 ≤ x4 then (if x4 ≤ (wrap64 (x4 + bt194.1)) then (if (wrap64 (x4 + bt194.1)) ≤ (x0.size : Int) then (if x3.length < 8796093022208 then (packhorseref01_Signs.l0 k x0 (x3 ++ [x0.extract (x4 : Int).toNat ((wrap64 (x4 + bt194.1)) : Int).toNat]) (wrap64 (x4 + bt194.1))) else (none)) else (none)) else (none)) else (none)))))) else (some x3)
def packhorseref01_Signs.f (k : Nat) (a0 : ByteArray) : Option (List ByteArray) := packhorseref01_Signs.l0 k a0 (([] : List ByteArray)) 0
theorem packhorseref01_Signs.mono_l : ∀ k, (∀ y0 y1 y2, LeO (packhorseref01_Signs.l0 k y0 y1 y2) (packhorseref01_Signs.l0 (k + 1) y0 y1 y2))
 | 0 => fun _ _ _ r h => by simp [packhorseref01_Signs.l0] at h
 | k + 1 => by
  have ih0 := packhorseref01_Signs.mono_l k
  ·intro y0 y1 y2
   unfold packhorseref01_Signs.l0
   repeat' first
   | (with_reducible exact ih0 _ _ _)
   | (with_reducible exact packhorseref01_sign.mono _ _ _)
   | (with_reducible exact LeO.refl _)
   | (with_reducible exact LeO.none _)
   | (with_reducible refine LeO.ite ?_ ?_)
   | (with_reducible refine LeO.bind ?_ (fun _ => ?_))
   | exact ih0 _ _ _
   | exact packhorseref01_sign.mono _ _ _
   | exact LeO.none _
   | refine LeO.ite ?_ ?_
   | refine LeO.bind ?_ (fun _ => ?_)
theorem packhorseref01_Signs.mono : ∀ a0 k, LeO (packhorseref01_Signs.f k a0) (packhorseref01_Signs.f (k + 1) a0) := by
 intro a0 k; have ih0 := packhorseref01_Signs.mono_l k
 unfold packhorseref01_Signs.f
 repeat' first
   | (with_reducible exact ih0 _ _ _)
   | (with_reducible exact packhorseref01_sign.mono _ _ _)
   | (with_reducible exact LeO.refl _)
   | (with_reducible exact LeO.none _)
   | (with_reducible refine LeO.ite ?_ ?_)
   | (with_reducible refine LeO.bind ?_ (fun _ => ?_))
   | exact ih0 _ _ _
   | exact packhorseref01_sign.mono _ _ _
   | exact LeO.none _
   | refine LeO.ite ?_ ?_
   | refine LeO.bind ?_ (fun _ => ?_)
set_option maxHeartbeats 8000000 in
set_option maxRecDepth 100000 in
theorem packhorseref01_Signs.calls (k : Nat) (a0 : ByteArray) (r : List ByteArray) (w : World) (h : packhorseref01_Signs.f k a0 = some r) :
  Calls Tryd.prog 58 #[.string a0] w fun e w' => ∃ v0_ : Value, e = .returned (v0_) ∧ Kd.R Kd.string 9 w' w.heap.size (fun _ => True) v0_ r ∧ Below w.heap.size w w' := by
 have HB := am (Below.refl w.heap.size w); have H : (packhorseref01_Signs.l0 k a0 (([] : List ByteArray)) 0) = some r := h; clear h; obtain ⟨y191, hy191⟩ : ∃ y_ : List ByteArray, y_ = (([] : List ByteArray)) := ⟨_, rfl⟩
 replace H : (packhorseref01_Signs.l0 k a0 y191 0) = some r := by first | (rw [hy191]; with_reducible exact H) | (have H2_ := (Option.bind_some _ _).symm.trans H; rw [hy191]; with_reducible exact H2_) | (have H2_ := (Option.bind_some _ _).symm.trans H; with_reducible exact H2_) | with_reducible exact H | (rw [hy191]; exact H) | exact H
 have Ny191 := am hy191; clear hy191; have H' := am H; clear H
 go_enter Tryd.func58, Tryd.ntmps58
 go_wp2_with (first | ((with_reducible refine gate_dst (N := 7) rfl ?_); (try (refine gate_guard (by rfl) ?_; dsimp only)); refine Kd.R_lit Kd.string _ 9 ?hg (N := 7) ?hd (xs := ([] : List ByteArray)) (inner := []) (ok := fun _ => True) (okp := fun _ => True) ?hr ?hp (fun _ hk => hk) trivial (Below.refl _ _) (Nat.le_refl _) (by simp) ?_; (case hd => rfl); (case hg => rfl); (case hr => first | (go_simp; done) | (go_simp; rfl)); (case hp => exact (Reps.none _ _)); intro v192 w2 ho3 hb hg_ hnew_; clear hg_ hnew_; (first | rw [← Ny191.out] at ho3 | (simp only [Int.reduceToNat] at ho3; rw [← Ny191.out] at ho3)); have _ := am (Kd.R_lower ho3 (below_size (beu HB.out))); have _ := am (below_step (beu HB.out) hb); clear HB; rename_i HO193 HB; clear hb ho3))
 go_loopg [3, 4] k (fun kq v3 v4 w' => ∃ (x3_1 : List ByteArray) (x4_1 : Int), v4 = .int .i64 x4_1 ∧ Aside0 (packhorseref01_Signs.l0 kq a0 x3_1 x4_1 = some r) ∧ Aside0 (kq ≤ k) ∧ Aside0 (Kd.R Kd.string 9 w' w.heap.size (fun _ => True) v3 x3_1) ∧ Aside0 (Below w.heap.size w w'))
 case atStart => exact ⟨(y191), (0), ap3, H', ⟨Nat.le_refl _⟩, ⟨ru HO193.out⟩, ⟨beu HB.out⟩⟩
 case round =>
  clear H'; (try clear p2); obtain ⟨x3_1, x4_1, rfl, HA, HK1, HO_3, HB⟩ := hrel
  cases gk with
  | zero => exact absurd HA.out (by simp [packhorseref01_Signs.l0])
  | succ k1 =>
   have H := HA.out; clear HA; simp only [packhorseref01_Signs.l0] at H
   by_cases c4 : x4_1 < (a0.size : Int)
   ·rw [if_pos c4] at H
    have c4b0 : decide (x4_1 < (a0.size : Int)) = true := decide_eq_true c4; clear c4; replace H := obm H; obtain ⟨⟨t194, t195⟩, A50, H⟩ := H; replace H : (if t194 = 0 then (some ([] : List ByteArray)) else (if (x3_1.length : Int) = 0 then (if t195 = true then (if (x3_1.length : Int) = 16 then (some ([] : List ByteArray)) else (if 0 ≤ x4_1 then (if x4_1 ≤ (wrap64 (x4_1 + t194)) then (if (wrap64 (x4_1 + t194)) ≤ (a0.size : Int) then (if x3_1.length < 8796093022208 then (packhorseref01_Signs.l0 k1 a0 (x3_1 ++ [a0.extract (x4_1 : Int).toNat ((wrap64 (x4_1 + t194)) : Int).toNat]) (wrap64 (x4_1 + t194))) else (none)) else (none)) else (none)) else (none))) else (some ([] : List ByteArray))) else (if (x3_1.length : Int) = 16 then (some ([] : List ByteArray)) else (if 0 ≤ x4_1 then (if x4_1 ≤ (wrap64 (x4_1 + t194)) then (if (wrap64 (x4_1 + t194)) ≤ (a0.size : Int) then (if x3_1.length < 8796093022208 then (packhorseref01_Signs.l0 k1 a0 (x3_1 ++ [a0.extract (x4_1 : Int).toNat ((wrap64 (x4_1 + t194)) : Int).toNat]) (wrap64 (x4_1 + t194))) else (none)) else (none)) else (none)) else (none))))) = some r := H; have A5 := am A50; clear A50
    by_cases c6 : t194 = 0
    ·rw [if_pos c6] at H
     have c6b0 : (t194 == 0) = true := beq_iff_eq.mpr c6; have c6b1 : (t194 != 0) = false := bne_eq_false_iff_eq.mpr c6; clear c6; obtain rfl := Option.some.inj H; simp only [Option.some.injEq, Prod.mk.injEq] at H; obtain ⟨rfl⟩ := H
     go_wp2_with (first | ((with_reducible refine gate_callee (f := 65) rfl ?_); refine goesL_ (some 15) rfl rfl Tryd.func65 (by kernel_rfl) rfl #[.string a0, .int .i64 x4_1] rfl ap1 ?_; (with_reducible refine (packhorseref01_sign.calls k1 a0 x4_1 t194 t195 _ A5.out).mono ?_); rintro e w' ⟨rfl, ⟨nd, rfl⟩⟩; refine ⟨_, rfl, ?_⟩))
     go_ret
     exact ⟨_, ap4, by first | exact Kd.R_nil _ _ _ _ _ | exact Kd.N_nil _ _ _ _ _ | exact Kd.V_nil _ _ _ _ _ | exact Kd.Q_nil _ _ _ _ _ | exact Kd.S_nil _ _ _ _ _, beu HB.out⟩
    ·rw [if_neg c6] at H
     have c6b0 : (t194 == 0) = false := beq_eq_false_iff_ne.mpr c6; have c6b1 : (t194 != 0) = true := bne_iff_ne.mpr c6
     by_cases c7 : (x3_1.length : Int) = 0
     ·rw [if_pos c7] at H
      have c7b0 : ((x3_1.length : Int) == 0) = true := beq_iff_eq.mpr c7; have c7b1 : ((x3_1.length : Int) != 0) = false := bne_eq_false_iff_eq.mpr c7; clear c7
      by_cases c8 : t195 = true
      ·subst c8
       have H1 : (if (x3_1.length : Int) = 16 then (some ([] : List ByteArray)) else (if 0 ≤ x4_1 then (if x4_1 ≤ (wrap64 (x4_1 + t194)) then (if (wrap64 (x4_1 + t194)) ≤ (a0.size : Int) then (if x3_1.length < 8796093022208 then (packhorseref01_Signs.l0 k1 a0 (x3_1 ++ [a0.extract (x4_1 : Int).toNat ((wrap64 (x4_1 + t194)) : Int).toNat]) (wrap64 (x4_1 + t194))) else (none)) else (none)) else (none)) else (none))) = some r := by rw [if_pos rfl] at H; exact H
       clear H; have H := H1; clear H1
       by_cases c9 : (x3_1.length : Int) = 16
       ·rw [if_pos c9] at H
        have c9b0 : ((x3_1.length : Int) == 16) = true := beq_iff_eq.mpr c9; have c9b1 : ((x3_1.length : Int) != 16) = false := bne_eq_false_iff_eq.mpr c9; clear c9; obtain rfl := Option.some.inj H; simp only [Option.some.injEq, Prod.mk.injEq] at H; obtain ⟨rfl⟩ := H
        go_wp2_with (first | ((with_reducible refine gate_callee (f := 65) rfl ?_); refine goesL_ (some 15) rfl rfl Tryd.func65 (by kernel_rfl) rfl #[.string a0, .int .i64 x4_1] rfl ap1 ?_; (with_reducible refine (packhorseref01_sign.calls k1 a0 x4_1 t194 true _ A5.out).mono ?_); rintro e w' ⟨rfl, ⟨nd, rfl⟩⟩; refine ⟨_, rfl, ?_⟩; obtain ⟨Ao10, co10, eo10⟩ := Kd.R_slice HO_3.out; subst eo10))
        go_ret
        exact ⟨_, ap4, by first | exact Kd.R_nil _ _ _ _ _ | exact Kd.N_nil _ _ _ _ _ | exact Kd.V_nil _ _ _ _ _ | exact Kd.Q_nil _ _ _ _ _ | exact Kd.S_nil _ _ _ _ _, beu HB.out⟩
       ·rw [if_neg c9] at H
        have c9b0 : ((x3_1.length : Int) == 16) = false := beq_eq_false_iff_ne.mpr c9; have c9b1 : ((x3_1.length : Int) != 16) = true := bne_iff_ne.mpr c9
        by_cases c11 : 0 ≤ x4_1
        ·rw [if_pos c11] at H
         have c11b0 := eq_true c11; have c11b1 : decide (0 ≤ x4_1) = true := decide_eq_true c11; clear c11
         by_cases c12 : x4_1 ≤ (wrap64 (x4_1 + t194))
         ·rw [if_pos c12] at H
          have c12b0 := eq_true c12; have c12b1 : decide (x4_1 ≤ (wrap64 (x4_1 + t194))) = true := decide_eq_true c12
          by_cases c13 : (wrap64 (x4_1 + t194)) ≤ (a0.size : Int)
          ·rw [if_pos c13] at H
           have c13b0 := eq_true c13; have c13b1 : decide ((wrap64 (x4_1 + t194)) ≤ (a0.size : Int)) = true := decide_eq_true c13
           by_cases c14 : x3_1.length < 8796093022208
           ·rw [if_pos c14] at H
            have LMc14 := am c14; clear c14; obtain ⟨y196, hy196⟩ : ∃ y_ : List ByteArray, y_ = (x3_1 ++ [a0.extract (x4_1 : Int).toNat ((wrap64 (x4_1 + t194)) : Int).toNat]) := ⟨_, rfl⟩
            replace H : (packhorseref01_Signs.l0 k1 a0 y196 (wrap64 (x4_1 + t194))) = some r := by first | (rw [hy196]; with_reducible exact H) | (have H2_ := (Option.bind_some _ _).symm.trans H; rw [hy196]; with_reducible exact H2_) | (have H2_ := (Option.bind_some _ _).symm.trans H; with_reducible exact H2_) | with_reducible exact H | (rw [hy196]; exact H) | exact H
            have Ny196 := am hy196; clear hy196; have H' := am H; clear H
            go_wp2_with (first | ((with_reducible refine gate_callee (f := 65) rfl ?_); refine goesL_ (some 15) rfl rfl Tryd.func65 (by kernel_rfl) rfl #[.string a0, .int .i64 x4_1] rfl ap1 ?_; (with_reducible refine (packhorseref01_sign.calls k1 a0 x4_1 t194 true _ A5.out).mono ?_); rintro e w' ⟨rfl, ⟨nd, rfl⟩⟩; refine ⟨_, rfl, ?_⟩; obtain ⟨Ao15, co15, eo15⟩ := Kd.R_slice HO_3.out; subst eo15) | ((with_reducible refine gate_builtin (b := .append) (xs := #[.tmp 34, .tmp 41]) rfl ?_); (try (refine gate_guard (by rfl) ?_; dsimp only)); at_builtin; refine Kd.R_append Kd.string (w0 := w) w.heap.size rfl (.tmp 34) (.tmp 41) 29 9 (.string ⟨#[]⟩) 16 rfl Tryd.underlying29 info9 rfl (by decide) (by omega) (.slice Ao15 x3_1.length co15) x3_1 (a0.extract (x4_1 : Int).toNat ((wrap64 (x4_1 + t194)) : Int).toNat) [.string (a0.extract (x4_1 : Int).toNat ((wrap64 (x4_1 + t194)) : Int).toNat)] (fun _ => True) (fun _ => False) rfl rfl ?aP (fun _ hk => hk.elim) ?aF ?aO ?aB ?aS ?aL ?_; (case aP => exact rfl); (case aB => exact (beu HB.out)); (case aF => exact (fun _ _ => trivial)); (case aO => exact (ru HO_3.out)); (case aS => exact (below_size (beu HB.out))); (case aL => have := LMc14.out; omega); intro v197 w16 ho hb hg hat; rw [← Ny196.out] at ho; have _ := am (hb); have _ := am (ho); clear HB HO_3; rename_i HB HO198; clear ho hb hg hat))
            go_roundg k1
            case measure => have := HK1.out; omega
            case rel => exact ⟨(y196), (wrap64 (x4_1 + t194)), ap3, H', ⟨by have := HK1.out; omega⟩, ⟨ru HO198.out⟩, ⟨beu HB.out⟩⟩
           ·rw [if_neg c14] at H
            exact absurd H (by simp)
          ·rw [if_neg c13] at H
           exact absurd H (by simp)
         ·rw [if_neg c12] at H
          exact absurd H (by simp)
        ·rw [if_neg c11] at H
         exact absurd H (by simp)
      ·replace c8 := Bool.eq_false_iff.mpr c8
       subst c8
       have H1 : (some ([] : List ByteArray)) = some r := by rw [if_neg (show ¬ (false = true) by decide)] at H; exact H
       clear H; have H := H1; clear H1; obtain rfl := Option.some.inj H; simp only [Option.some.injEq, Prod.mk.injEq] at H; obtain ⟨rfl⟩ := H
       go_wp2_with (first | ((with_reducible refine gate_callee (f := 65) rfl ?_); refine goesL_ (some 15) rfl rfl Tryd.func65 (by kernel_rfl) rfl #[.string a0, .int .i64 x4_1] rfl ap1 ?_; (with_reducible refine (packhorseref01_sign.calls k1 a0 x4_1 t194 false _ A5.out).mono ?_); rintro e w' ⟨rfl, ⟨nd, rfl⟩⟩; refine ⟨_, rfl, ?_⟩; obtain ⟨Ao17, co17, eo17⟩ := Kd.R_slice HO_3.out; subst eo17))
       go_ret
       exact ⟨_, ap4, by first | exact Kd.R_nil _ _ _ _ _ | exact Kd.N_nil _ _ _ _ _ | exact Kd.V_nil _ _ _ _ _ | exact Kd.Q_nil _ _ _ _ _ | exact Kd.S_nil _ _ _ _ _, beu HB.out⟩
     ·rw [if_neg c7] at H
      have c7b0 : ((x3_1.length : Int) == 0) = false := beq_eq_false_iff_ne.mpr c7; have c7b1 : ((x3_1.length : Int) != 0) = true := bne_iff_ne.mpr c7
      have c7b2 : ¬ (x3_1 = []) := fun h_ => c7 (by rw [h_]; rfl)
      by_cases c18 : (x3_1.length : Int) = 16
      ·rw [if_pos c18] at H
       have c18b0 : ((x3_1.length : Int) == 16) = true := beq_iff_eq.mpr c18; have c18b1 : ((x3_1.length : Int) != 16) = false := bne_eq_false_iff_eq.mpr c18; clear c18; obtain rfl := Option.some.inj H; simp only [Option.some.injEq, Prod.mk.injEq] at H; obtain ⟨rfl⟩ := H
       go_wp2_with (first | ((with_reducible refine gate_callee (f := 65) rfl ?_); refine goesL_ (some 15) rfl rfl Tryd.func65 (by kernel_rfl) rfl #[.string a0, .int .i64 x4_1] rfl ap1 ?_; (with_reducible refine (packhorseref01_sign.calls k1 a0 x4_1 t194 t195 _ A5.out).mono ?_); rintro e w' ⟨rfl, ⟨nd, rfl⟩⟩; refine ⟨_, rfl, ?_⟩; obtain ⟨Ao19, co19, eo19⟩ := Kd.R_slice HO_3.out; subst eo19))
       go_ret
       exact ⟨_, ap4, by first | exact Kd.R_nil _ _ _ _ _ | exact Kd.N_nil _ _ _ _ _ | exact Kd.V_nil _ _ _ _ _ | exact Kd.Q_nil _ _ _ _ _ | exact Kd.S_nil _ _ _ _ _, beu HB.out⟩
      ·rw [if_neg c18] at H
       have c18b0 : ((x3_1.length : Int) == 16) = false := beq_eq_false_iff_ne.mpr c18; have c18b1 : ((x3_1.length : Int) != 16) = true := bne_iff_ne.mpr c18
       by_cases c20 : 0 ≤ x4_1
       ·rw [if_pos c20] at H
        have c20b0 := eq_true c20; have c20b1 : decide (0 ≤ x4_1) = true := decide_eq_true c20; clear c20
        by_cases c21 : x4_1 ≤ (wrap64 (x4_1 + t194))
        ·rw [if_pos c21] at H
         have c21b0 := eq_true c21; have c21b1 : decide (x4_1 ≤ (wrap64 (x4_1 + t194))) = true := decide_eq_true c21
         by_cases c22 : (wrap64 (x4_1 + t194)) ≤ (a0.size : Int)
         ·rw [if_pos c22] at H
          have c22b0 := eq_true c22; have c22b1 : decide ((wrap64 (x4_1 + t194)) ≤ (a0.size : Int)) = true := decide_eq_true c22
          by_cases c23 : x3_1.length < 8796093022208
          ·rw [if_pos c23] at H
           have LMc23 := am c23; clear c23; obtain ⟨y199, hy199⟩ : ∃ y_ : List ByteArray, y_ = (x3_1 ++ [a0.extract (x4_1 : Int).toNat ((wrap64 (x4_1 + t194)) : Int).toNat]) := ⟨_, rfl⟩
           replace H : (packhorseref01_Signs.l0 k1 a0 y199 (wrap64 (x4_1 + t194))) = some r := by first | (rw [hy199]; with_reducible exact H) | (have H2_ := (Option.bind_some _ _).symm.trans H; rw [hy199]; with_reducible exact H2_) | (have H2_ := (Option.bind_some _ _).symm.trans H; with_reducible exact H2_) | with_reducible exact H | (rw [hy199]; exact H) | exact H
           have Ny199 := am hy199; clear hy199; have H' := am H; clear H
           go_wp2_with (first | ((with_reducible refine gate_callee (f := 65) rfl ?_); refine goesL_ (some 15) rfl rfl Tryd.func65 (by kernel_rfl) rfl #[.string a0, .int .i64 x4_1] rfl ap1 ?_; (with_reducible refine (packhorseref01_sign.calls k1 a0 x4_1 t194 t195 _ A5.out).mono ?_); rintro e w' ⟨rfl, ⟨nd, rfl⟩⟩; refine ⟨_, rfl, ?_⟩; obtain ⟨Ao24, co24, eo24⟩ := Kd.R_slice HO_3.out; subst eo24) | ((with_reducible refine gate_builtin (b := .append) (xs := #[.tmp 34, .tmp 41]) rfl ?_); (try (refine gate_guard (by rfl) ?_; dsimp only)); at_builtin; refine Kd.R_append Kd.string (w0 := w) w.heap.size rfl (.tmp 34) (.tmp 41) 29 9 (.string ⟨#[]⟩) 16 rfl Tryd.underlying29 info9 rfl (by decide) (by omega) (.slice Ao24 x3_1.length co24) x3_1 (a0.extract (x4_1 : Int).toNat ((wrap64 (x4_1 + t194)) : Int).toNat) [.string (a0.extract (x4_1 : Int).toNat ((wrap64 (x4_1 + t194)) : Int).toNat)] (fun _ => True) (fun _ => False) rfl rfl ?aP (fun _ hk => hk.elim) ?aF ?aO ?aB ?aS ?aL ?_; (case aP => exact rfl); (case aB => exact (beu HB.out)); (case aF => exact (fun _ _ => trivial)); (case aO => exact (ru HO_3.out)); (case aS => exact (below_size (beu HB.out))); (case aL => have := LMc23.out; omega); intro v200 w25 ho hb hg hat; rw [← Ny199.out] at ho; have _ := am (hb); have _ := am (ho); clear HB HO_3; rename_i HB HO201; clear ho hb hg hat))
           go_roundg k1
           case measure => have := HK1.out; omega
           case rel => exact ⟨(y199), (wrap64 (x4_1 + t194)), ap3, H', ⟨by have := HK1.out; omega⟩, ⟨ru HO201.out⟩, ⟨beu HB.out⟩⟩
          ·rw [if_neg c23] at H
           exact absurd H (by simp)
         ·rw [if_neg c22] at H
          exact absurd H (by simp)
        ·rw [if_neg c21] at H
         exact absurd H (by simp)
       ·rw [if_neg c20] at H
        exact absurd H (by simp)
   ·rw [if_neg c4] at H
    have c4b0 : decide (x4_1 < (a0.size : Int)) = false := decide_eq_false c4; clear c4; obtain rfl := Option.some.inj H; simp only [Option.some.injEq, Prod.mk.injEq] at H; obtain ⟨rfl⟩ := H
    go_wp2
    go_ret
    exact ⟨_, ap4, ru HO_3.out, beu HB.out⟩
def packhorseref01_Right.f (k : Nat) (a0 : ByteArray) : Option (Bool) := (packhorseref01_Signs.f k a0).bind fun t202 => (some (decide ((t202.length : Int) > 0)))
theorem packhorseref01_Right.mono : ∀ a0 k, LeO (packhorseref01_Right.f k a0) (packhorseref01_Right.f (k + 1) a0) := by
 intro a0 k
 unfold packhorseref01_Right.f
 repeat' first
   | (with_reducible exact packhorseref01_Signs.mono _ _)
   | (with_reducible exact LeO.refl _)
   | (with_reducible exact LeO.none _)
   | (with_reducible refine LeO.ite ?_ ?_)
   | (with_reducible refine LeO.bind ?_ (fun _ => ?_))
   | exact packhorseref01_Signs.mono _ _
   | exact LeO.none _
   | refine LeO.ite ?_ ?_
   | refine LeO.bind ?_ (fun _ => ?_)
set_option maxHeartbeats 8000000 in
set_option maxRecDepth 100000 in
theorem packhorseref01_Right.calls (k : Nat) (a0 : ByteArray) (r : Bool) (w : World) (h : packhorseref01_Right.f k a0 = some r) :
  Calls Tryd.prog 40 #[.string a0] w fun e w' => e = .returned (.bool r) ∧ Below w.heap.size w w' := by
 have HB := am (Below.refl w.heap.size w); have H : ((packhorseref01_Signs.f k a0).bind fun t202 => (some (decide ((t202.length : Int) > 0)))) = some r := h; clear h; replace H := obm H; obtain ⟨t202, A20, H⟩ := H; replace H : (some (decide ((t202.length : Int) > 0))) = some r := H; have A2 := am A20; clear A20; obtain rfl := Option.some.inj H; simp only [Option.some.injEq, Prod.mk.injEq] at H; obtain ⟨rfl⟩ := H
 go_enter Tryd.func40, Tryd.ntmps40
 go_wp2_with (first | ((with_reducible refine gate_callee (f := 58) rfl ?_); refine goesL_ (some 4) rfl rfl Tryd.func58 (by kernel_rfl) rfl #[.string a0] rfl ap1 ?_; (with_reducible refine (packhorseref01_Signs.calls k a0 t202 _ A2.out).mono ?_); rintro e w3 ⟨v203, rfl, ho0, hb⟩; refine ⟨_, rfl, ?_⟩; have _ := am (Kd.R_lower ho0 (below_size (beu HB.out))); have _ := am (below_step (beu HB.out) hb); clear HB; rename_i HO204 HB; (try clear hb); (try clear ho0); obtain ⟨Ao4, co4, eo4⟩ := Kd.R_slice HO204.out; subst eo4))
 go_ret
 exact ⟨ap4, beu HB.out⟩
def packhorseref10_Group.f (k : Nat) (a0_0 : ByteArray) (a0_1 : ByteArray) (a0_2 : ByteArray) : Option (Bool) := (packhorseref01_Right.f k a0_0).bind fun t206 => (if t206 = true then ((packhorseref01_Right.f k a0_1).bind fun t207 => (if t207 = true then ((packhorseref01_Right.f k a0_2).bind fun t208 => (some t208)) else (some false))) else (some false))
theorem packhorseref10_Group.mono : ∀ a0 a1 a2 k, LeO (packhorseref10_Group.f k a0 a1 a2) (packhorseref10_Group.f (k + 1) a0 a1 a2) := by
 intro a0 a1 a2 k
 unfold packhorseref10_Group.f
 repeat' first
   | (with_reducible exact packhorseref01_Right.mono _ _)
   | (with_reducible exact LeO.refl _)
   | (with_reducible exact LeO.none _)
   | (with_reducible refine LeO.ite ?_ ?_)
   | (with_reducible refine LeO.bind ?_ (fun _ => ?_))
   | exact packhorseref01_Right.mono _ _
   | exact LeO.none _
   | refine LeO.ite ?_ ?_
   | refine LeO.bind ?_ (fun _ => ?_)
set_option maxHeartbeats 8000000 in
set_option maxRecDepth 100000 in
theorem packhorseref10_Group.calls (k : Nat) (a0_0 : ByteArray) (a0_1 : ByteArray) (a0_2 : ByteArray) (r : Bool) (w : World) (h : packhorseref10_Group.f k a0_0 a0_1 a0_2 = some r) :
  Calls Tryd.prog 39 #[.agg #[.string a0_0, .string a0_1, .string a0_2]] w fun e w' => e = .returned (.bool r) ∧ Below w.heap.size w w' := by
 have hu28 := Tryd.underlying28; have HB := am (Below.refl w.heap.size w); have H : ((packhorseref01_Right.f k a0_0).bind fun t206 => (if t206 = true then ((packhorseref01_Right.f k a0_1).bind fun t207 => (if t207 = true then ((packhorseref01_Right.f k a0_2).bind fun t208 => (some t208)) else (some false))) else (some false))) = some r := h; clear h; replace H := obm H; obtain ⟨t206, A20, H⟩ := H; replace H : (if t206 = true then ((packhorseref01_Right.f k a0_1).bind fun t207 => (if t207 = true then ((packhorseref01_Right.f k a0_2).bind fun t208 => (some t208)) else (some false))) else (some false)) = some r := H; have A2 := am A20; clear A20
 by_cases c3 : t206 = true
 ·subst c3
  have H1 : ((packhorseref01_Right.f k a0_1).bind fun t207 => (if t207 = true then ((packhorseref01_Right.f k a0_2).bind fun t208 => (some t208)) else (some false))) = some r := by rw [if_pos rfl] at H; exact H
  clear H; have H := H1; clear H1; replace H := obm H; obtain ⟨t207, A40, H⟩ := H; replace H : (if t207 = true then ((packhorseref01_Right.f k a0_2).bind fun t208 => (some t208)) else (some false)) = some r := H; have A4 := am A40; clear A40
  by_cases c5 : t207 = true
  ·subst c5
   have H1 : ((packhorseref01_Right.f k a0_2).bind fun t208 => (some t208)) = some r := by rw [if_pos rfl] at H; exact H
   clear H; have H := H1; clear H1; replace H := obm H; obtain ⟨t208, A60, H⟩ := H; replace H : (some t208) = some r := H; have A6 := am A60; clear A60; obtain rfl := Option.some.inj H; simp only [Option.some.injEq, Prod.mk.injEq] at H; obtain ⟨rfl⟩ := H
   go_enter Tryd.func39, Tryd.ntmps39
   go_wp2_with (first | ((with_reducible refine gate_dst (N := 1) rfl ?_); refine box_event ?hg (N := 1) ?hd (cs := #[.string a0_0, .string a0_1, .string a0_2]) (t := 28) ?hr ?_; (case hd => rfl); (case hg => rfl); (case hr => first | (go_simp; done) | (go_simp; rfl)); intro gb205 hg w7 hbox hb; have _ := am (below_step (beu HB.out) hb); have _ := am (hbox); have _ := am ((by rw [hg]; exact (below_size (beu HB.out)) : w.heap.size ≤ gb205)); have _ := am ((by rw [hg]; exact (below_size (beu HB.out)) : w.heap.size ≤ gb205)); clear HB; rename_i HB BK205 GW205 GE205; clear hb hbox hg; obtain ⟨hcz8_0, hcz8_1, _⟩ := cells3 BK205.out; obtain ⟨hfz8_0, hfz8_1, _⟩ := frozens3 BK205.out) | ((with_reducible refine gate_callee (f := 40) rfl ?_); refine goesL_ (some 5) rfl rfl Tryd.func40 (by kernel_rfl) rfl #[.string a0_0] rfl ap1 ?_; (with_reducible refine (packhorseref01_Right.calls k a0_0 true _ A2.out).mono ?_); rintro e w9 ⟨rfl, hb⟩; refine ⟨_, rfl, ?_⟩; have _ := am (blk_below (bu BK205.out) hb); have _ := am (below_step (beu HB.out) hb); clear BK205 HB; rename_i BK205 HB; (try clear hb); obtain ⟨hcz10_0, hcz10_1, _⟩ := cells3 BK205.out; obtain ⟨hfz10_0, hfz10_1, _⟩ := frozens3 BK205.out) | (go_at_call 40; (with_reducible refine (packhorseref01_Right.calls k a0_1 true _ A4.out).mono ?_); rintro e w11 ⟨rfl, hb⟩; have _ := am (blk_below (bu BK205.out) hb); have _ := am (below_step (beu HB.out) hb); clear BK205 HB; rename_i BK205 HB; (try clear hb); obtain ⟨hcz12_0, hcz12_1, hcz12_2⟩ := cells3 BK205.out; obtain ⟨hfz12_0, hfz12_1, hfz12_2⟩ := frozens3 BK205.out) | (go_at_call 40; (with_reducible refine (packhorseref01_Right.calls k a0_2 t208 _ A6.out).mono ?_); rintro e w13 ⟨rfl, hb⟩; have _ := am (blk_below (bu BK205.out) hb); have _ := am (below_step (beu HB.out) hb); clear BK205 HB; rename_i BK205 HB; (try clear hb)))
   go_ret
   exact ⟨ap4, beu HB.out⟩
  ·replace c5 := Bool.eq_false_iff.mpr c5
   subst c5
   have H1 : (some false) = some r := by rw [if_neg (show ¬ (false = true) by decide)] at H; exact H
   clear H; have H := H1; clear H1; obtain rfl := Option.some.inj H; simp only [Option.some.injEq, Prod.mk.injEq] at H; obtain ⟨rfl⟩ := H
   go_enter Tryd.func39, Tryd.ntmps39
   go_wp2_with (first | ((with_reducible refine gate_dst (N := 1) rfl ?_); refine box_event ?hg (N := 1) ?hd (cs := #[.string a0_0, .string a0_1, .string a0_2]) (t := 28) ?hr ?_; (case hd => rfl); (case hg => rfl); (case hr => first | (go_simp; done) | (go_simp; rfl)); intro gb205 hg w14 hbox hb; have _ := am (below_step (beu HB.out) hb); have _ := am (hbox); have _ := am ((by rw [hg]; exact (below_size (beu HB.out)) : w.heap.size ≤ gb205)); have _ := am ((by rw [hg]; exact (below_size (beu HB.out)) : w.heap.size ≤ gb205)); clear HB; rename_i HB BK205 GW205 GE205; clear hb hbox hg; obtain ⟨_, _, _⟩ := cells3 BK205.out; obtain ⟨_, _, _⟩ := frozens3 BK205.out) | ((with_reducible refine gate_callee (f := 40) rfl ?_); refine goesL_ (some 5) rfl rfl Tryd.func40 (by kernel_rfl) rfl #[.string a0_0] rfl ap1 ?_; (with_reducible refine (packhorseref01_Right.calls k a0_0 true _ A2.out).mono ?_); rintro e w16 ⟨rfl, hb⟩; refine ⟨_, rfl, ?_⟩; have _ := am (blk_below (bu BK205.out) hb); have _ := am (below_step (beu HB.out) hb); clear BK205 HB; rename_i BK205 HB; (try clear hb); obtain ⟨_, _, _⟩ := cells3 BK205.out; obtain ⟨_, _, _⟩ := frozens3 BK205.out) | (go_at_call 40; (with_reducible refine (packhorseref01_Right.calls k a0_1 false _ A4.out).mono ?_); rintro e w18 ⟨rfl, hb⟩; have _ := am (blk_below (bu BK205.out) hb); have _ := am (below_step (beu HB.out) hb); clear BK205 HB; rename_i BK205 HB; (try clear hb)))
   go_ret
   exact ⟨ap4, beu HB.out⟩
 ·replace c3 := Bool.eq_false_iff.mpr c3
  subst c3
  have H1 : (some false) = some r := by rw [if_neg (show ¬ (false = true) by decide)] at H; exact H
  clear H; have H := H1; clear H1; obtain rfl := Option.some.inj H; simp only [Option.some.injEq, Prod.mk.injEq] at H; obtain ⟨rfl⟩ := H
  go_enter Tryd.func39, Tryd.ntmps39
  go_wp2_with (first | ((with_reducible refine gate_dst (N := 1) rfl ?_); refine box_event ?hg (N := 1) ?hd (cs := #[.string a0_0, .string a0_1, .string a0_2]) (t := 28) ?hr ?_; (case hd => rfl); (case hg => rfl); (case hr => first | (go_simp; done) | (go_simp; rfl)); intro gb205 hg w19 hbox hb; have _ := am (below_step (beu HB.out) hb); have _ := am (hbox); have _ := am ((by rw [hg]; exact (below_size (beu HB.out)) : w.heap.size ≤ gb205)); have _ := am ((by rw [hg]; exact (below_size (beu HB.out)) : w.heap.size ≤ gb205)); clear HB; rename_i HB BK205 GW205 GE205; clear hb hbox hg; obtain ⟨_, _, _⟩ := cells3 BK205.out; obtain ⟨_, _, _⟩ := frozens3 BK205.out) | ((with_reducible refine gate_callee (f := 40) rfl ?_); refine goesL_ (some 5) rfl rfl Tryd.func40 (by kernel_rfl) rfl #[.string a0_0] rfl ap1 ?_; (with_reducible refine (packhorseref01_Right.calls k a0_0 false _ A2.out).mono ?_); rintro e w21 ⟨rfl, hb⟩; refine ⟨_, rfl, ?_⟩; have _ := am (blk_below (bu BK205.out) hb); have _ := am (below_step (beu HB.out) hb); clear BK205 HB; rename_i BK205 HB; (try clear hb)))
  go_ret
  exact ⟨ap4, beu HB.out⟩
mutual
def packhorseref11_Right.j0 : Nat → Bool → Int → Int → Int → Int → Int → ByteArray → ByteArray → ByteArray → List ByteArray → Option (Bool)
 | 0, _, _, _, _, _, _, _, _, _, _ => none
 | k + 1, x31, X0, X1, X2, X3, X4, X5, X6, X7, X8 => if x31 = true then (some false) else (if X3 = 1 then (if X4 < 1 then (packhorseref11_Right.j1 k true X0 X1 X2 X3 X4 X5 X6 X7 X8) else (if X4 > 3 then (packhorseref11_Right.j1 k true X0 X1 X2 X3 X4 X5 X6 X7 X8) else ((packhorseref10_Group.f k X5 X6 X7).bind fun t212 => (packhorseref11_Right.j1 k (!t212) X0 X1 X2 X3 X4 X5 X6 X7 X8)))) else (if X3 = 2 then (if X4 < 1 then (packhorseref11_Right.j1 k true X0 X1 X2 X3 X4 X5 X6 X7 X8) else (if X4 > 3 then (packhorseref11_Right.j1 k true X0 X1 X2 X3 X4 X5 X6 X7 X8) else ((packhorseref10_Group.f k X5 X6 X7).bind fun t213 => (packhorseref11_Right.j1 k (!t213) X0 X1 X2 X3 X4 X5 X6 X7 X8)))) else (packhorseref11_Right.j1 k true X0 X1 X2 X3 X4 X5 X6 X7 X8)))
def packhorseref11_Right.j1 : Nat → Bool → Int → Int → Int → Int → Int → ByteArray → ByteArray → ByteArray → List ByteArray → Option (Bool)
 | 0, _, _, _, _, _, _, _, _, _, _ => none
 | k + 1, x55, X0, X1, X2, X3, X4, X5, X6, X7, X8 => if x55 = true then (some false) else (packhorseref11_Right.l0 k X8 (X8.length : Int) 0 X0 X1 X2 X3 X4 X5 X6 X7 X8)
def packhorseref11_Right.l0 : Nat → List ByteArray → Int → Int → Int → Int → Int → Int → Int → ByteArray → ByteArray → ByteArray → List ByteArray → Option (Bool)
 | 0, _, _, _, _, _, _, _, _, _, _, _, _ => none
 | k + 1, x57, x58, x59, X0, X1, X2, X3, X4, X5, X6, X7, X8 => if x59 < x58 then (if 0 ≤ x59 then (if x59 < (x57.length : Int) then ((packhorseref01_Right.f k (rdOf ByteArray.empty x57 x59)).bind fun t215 => (if t215 = true then (packhorseref11_Right.l1 k x59 (rdOf ByteArray.empty x57 x59) 0 x57 x58 x59 X0 X1 X2 X3 X4 X5 X6 X7 X8) else (some false))) else (none)) else (none)) else (some true)
def packhorseref11_Right.l1 : Nat → Int → ByteArray → Int → List ByteArray → Int → Int → Int → Int → Int → Int → Int → ByteArray → ByteArray → ByteArray → List ByteArray → Option (Bool)
 | 0, _, _, _, _, _, _, _, _, _, _, _, _, _, _, _ => none
 | k + 1, x3, x4, x5, x57, x58, x59, X0, X1, X2, X3, X4, X5, X6, X7, X8 => if x5 < x3 then (if 0 ≤ x5 then (if x5 < (X8.length : Int) then (if (rdOf ByteArray.empty X8 x5).toList = x4.toList then (some false) else (packhorseref11_Right.l1 k x3 x4 (wrap64 (x5 + 1)) x57 x58 x59 X0 X1 X2 X3 X4 X5 X6 X7 X8)) else (none)) else (none)) else (packhorseref11_Right.l0 k x57 x58 (wrap64 (x59 + 1)) X0 X1 X2 X3 X4 X5 X6 X7 X8)
end
def packhorseref11_Right.f (k : Nat) (a0_0 : Int) (a0_1 : Int) (a0_2 : Int) (a0_3 : Int) (a0_4 : Int) (a0_5 : ByteArray) (a0_6 : ByteArray) (a0_7 : ByteArray) (l0_8 : List ByteArray) : Option (Bool) := if a0_0 < 1 then (packhorseref11_Right.j0 k true a0_0 a0_1 a0_2 a0_3 a0_4 a0_5 a0_6 a0_7 l0_8) else (if a0_0 > 1000000000000 then (packhorseref11_Right.j0 k true a0_0 a0_1 a0_2 a0_3 a0_4 a0_5 a0_6 a0_7 l0_8) else ((packhorseref02_Right.f a0_1).bind fun t210 => (if t210 = true then ((packhorseref03_Right.f a0_2).bind fun t211 => (if t211 = true then (packhorseref11_Right.j0 k (decide ((l0_8.length : Int) > 64)) a0_0 a0_1 a0_2 a0_3 a0_4 a0_5 a0_6 a0_7 l0_8) else (packhorseref11_Right.j0 k true a0_0 a0_1 a0_2 a0_3 a0_4 a0_5 a0_6 a0_7 l0_8))) else (packhorseref11_Right.j0 k true a0_0 a0_1 a0_2 a0_3 a0_4 a0_5 a0_6 a0_7 l0_8))))
theorem packhorseref11_Right.mono_l : ∀ k, (∀ y0 y1 y2 y3 y4 y5 y6 y7 y8 y9, LeO (packhorseref11_Right.j0 k y0 y1 y2 y3 y4 y5 y6 y7 y8 y9) (packhorseref11_Right.j0 (k + 1) y0 y1 y2 y3 y4 y5 y6 y7 y8 y9)) ∧ (∀ y0 y1 y2 y3 y4 y5 y6 y7 y8 y9, LeO (packhorseref11_Right.j1 k y0 y1 y2 y3 y4 y5 y6 y7 y8 y9) (packhorseref11_Right.j1 (k + 1) y0 y1 y2 y3 y4 y5 y6 y7 y8 y9)) ∧ (∀ y0 y1 y2 y3 y4 y5 y6 y7 y8 y9 y10 y11, LeO (packhorseref11_Right.l0 k y0 y1 y2 y3 y4 y5 y6 y7 y8 y9 y10 y11) (packhorseref11_Right.l0 (k + 1) y0 y1 y2 y3 y4 y5 y6 y7 y8 y9 y10 y11)) ∧ (∀ y0 y1 y2 y3 y4 y5 y6 y7 y8 y9 y10 y11 y12 y13 y14, LeO (packhorseref11_Right.l1 k y0 y1 y2 y3 y4 y5 y6 y7 y8 y9 y10 y11 y12 y13 y14) (packhorseref11_Right.l1 (k + 1) y0 y1 y2 y3 y4 y5 y6 y7 y8 y9 y10 y11 y12 y13 y14))
 | 0 => ⟨fun _ _ _ _ _ _ _ _ _ _ r h => by simp [packhorseref11_Right.j0] at h, fun _ _ _ _ _ _ _ _ _ _ r h => by simp [packhorseref11_Right.j1] at h, fun _ _ _ _ _ _ _ _ _ _ _ _ r h => by simp [packhorseref11_Right.l0] at h, fun _ _ _ _ _ _ _ _ _ _ _ _ _ _ _ r h => by simp [packhorseref11_Right.l1] at h⟩
 | k + 1 => by
  obtain ⟨ih0, ih1, ih2, ih3⟩ := packhorseref11_Right.mono_l k; refine ⟨?_, ?_, ?_, ?_⟩
  ·intro y0 y1 y2 y3 y4 y5 y6 y7 y8 y9
   unfold packhorseref11_Right.j0
   repeat' first
   | (with_reducible exact ih0 _ _ _ _ _ _ _ _ _ _)
   | (with_reducible exact ih1 _ _ _ _ _ _ _ _ _ _)
   | (with_reducible exact ih2 _ _ _ _ _ _ _ _ _ _ _ _)
   | (with_reducible exact ih3 _ _ _ _ _ _ _ _ _ _ _ _ _ _ _)
   | (with_reducible exact packhorseref01_Right.mono _ _)
   | (with_reducible exact packhorseref10_Group.mono _ _ _ _)
   | (with_reducible exact LeO.refl _)
   | (with_reducible exact LeO.none _)
   | (with_reducible refine LeO.ite ?_ ?_)
   | (with_reducible refine LeO.bind ?_ (fun _ => ?_))
   | exact ih0 _ _ _ _ _ _ _ _ _ _
   | exact ih1 _ _ _ _ _ _ _ _ _ _
   | exact ih2 _ _ _ _ _ _ _ _ _ _ _ _
   | exact ih3 _ _ _ _ _ _ _ _ _ _ _ _ _ _ _
   | exact packhorseref01_Right.mono _ _
   | exact packhorseref10_Group.mono _ _ _ _
   | exact LeO.none _
   | refine LeO.ite ?_ ?_
   | refine LeO.bind ?_ (fun _ => ?_)
  ·intro y0 y1 y2 y3 y4 y5 y6 y7 y8 y9
   unfold packhorseref11_Right.j1
   repeat' first
   | (with_reducible exact ih0 _ _ _ _ _ _ _ _ _ _)
   | (with_reducible exact ih1 _ _ _ _ _ _ _ _ _ _)
   | (with_reducible exact ih2 _ _ _ _ _ _ _ _ _ _ _ _)
   | (with_reducible exact ih3 _ _ _ _ _ _ _ _ _ _ _ _ _ _ _)
   | (with_reducible exact packhorseref01_Right.mono _ _)
   | (with_reducible exact packhorseref10_Group.mono _ _ _ _)
   | (with_reducible exact LeO.refl _)
   | (with_reducible exact LeO.none _)
   | (with_reducible refine LeO.ite ?_ ?_)
   | (with_reducible refine LeO.bind ?_ (fun _ => ?_))
   | exact ih0 _ _ _ _ _ _ _ _ _ _
   | exact ih1 _ _ _ _ _ _ _ _ _ _
   | exact ih2 _ _ _ _ _ _ _ _ _ _ _ _
   | exact ih3 _ _ _ _ _ _ _ _ _ _ _ _ _ _ _
   | exact packhorseref01_Right.mono _ _
   | exact packhorseref10_Group.mono _ _ _ _
   | exact LeO.none _
   | refine LeO.ite ?_ ?_
   | refine LeO.bind ?_ (fun _ => ?_)
  ·intro y0 y1 y2 y3 y4 y5 y6 y7 y8 y9 y10 y11
   unfold packhorseref11_Right.l0
   repeat' first
   | (with_reducible exact ih0 _ _ _ _ _ _ _ _ _ _)
   | (with_reducible exact ih1 _ _ _ _ _ _ _ _ _ _)
   | (with_reducible exact ih2 _ _ _ _ _ _ _ _ _ _ _ _)
   | (with_reducible exact ih3 _ _ _ _ _ _ _ _ _ _ _ _ _ _ _)
   | (with_reducible exact packhorseref01_Right.mono _ _)
   | (with_reducible exact packhorseref10_Group.mono _ _ _ _)
   | (with_reducible exact LeO.refl _)
   | (with_reducible exact LeO.none _)
   | (with_reducible refine LeO.ite ?_ ?_)
   | (with_reducible refine LeO.bind ?_ (fun _ => ?_))
   | exact ih0 _ _ _ _ _ _ _ _ _ _
   | exact ih1 _ _ _ _ _ _ _ _ _ _
   | exact ih2 _ _ _ _ _ _ _ _ _ _ _ _
   | exact ih3 _ _ _ _ _ _ _ _ _ _ _ _ _ _ _
   | exact packhorseref01_Right.mono _ _
   | exact packhorseref10_Group.mono _ _ _ _
   | exact LeO.none _
   | refine LeO.ite ?_ ?_
   | refine LeO.bind ?_ (fun _ => ?_)
  ·intro y0 y1 y2 y3 y4 y5 y6 y7 y8 y9 y10 y11 y12 y13 y14
   unfold packhorseref11_Right.l1
   repeat' first
   | (with_reducible exact ih0 _ _ _ _ _ _ _ _ _ _)
   | (with_reducible exact ih1 _ _ _ _ _ _ _ _ _ _)
   | (with_reducible exact ih2 _ _ _ _ _ _ _ _ _ _ _ _)
   | (with_reducible exact ih3 _ _ _ _ _ _ _ _ _ _ _ _ _ _ _)
   | (with_reducible exact packhorseref01_Right.mono _ _)
   | (with_reducible exact packhorseref10_Group.mono _ _ _ _)
   | (with_reducible exact LeO.refl _)
   | (with_reducible exact LeO.none _)
   | (with_reducible refine LeO.ite ?_ ?_)
   | (with_reducible refine LeO.bind ?_ (fun _ => ?_))
   | exact ih0 _ _ _ _ _ _ _ _ _ _
   | exact ih1 _ _ _ _ _ _ _ _ _ _
   | exact ih2 _ _ _ _ _ _ _ _ _ _ _ _
   | exact ih3 _ _ _ _ _ _ _ _ _ _ _ _ _ _ _
   | exact packhorseref01_Right.mono _ _
   | exact packhorseref10_Group.mono _ _ _ _
   | exact LeO.none _
   | refine LeO.ite ?_ ?_
   | refine LeO.bind ?_ (fun _ => ?_)
set_option maxHeartbeats 8000000 in
set_option maxRecDepth 100000 in
theorem packhorseref11_Right.calls (k : Nat) (a0_0 : Int) (a0_1 : Int) (a0_2 : Int) (a0_3 : Int) (a0_4 : Int) (a0_5 : ByteArray) (a0_6 : ByteArray) (a0_7 : ByteArray) (A0_8 : Option Addr) (c0_8 : Nat) (l0_8 : List ByteArray) (r : Bool) (w : World) (hr0_8 : Kd.C Kd.string w A0_8 l0_8.length l0_8) (hc0_8 : l0_8.length ≤ c0_8) (h : packhorseref11_Right.f k a0_0 a0_1 a0_2 a0_3 a0_4 a0_5 a0_6 a0_7 l0_8 = some r) :
  Calls Tryd.prog 16 #[.agg #[.int .i64 a0_0, .int .i64 a0_1, .int .i64 a0_2, .int .i64 a0_3, .int .i64 a0_4, .string a0_5, .string a0_6, .string a0_7, .slice A0_8 l0_8.length c0_8]] w fun e w' => e = .returned (.bool r) ∧ Below w.heap.size w w' := by
 have hu31 := Tryd.underlying31; have hu28 := Tryd.underlying28; have HR0_8 := am hr0_8; have HC0_8 := am hc0_8; clear hr0_8 hc0_8; have HB := am (Below.refl w.heap.size w); have H : (if a0_0 < 1 then (packhorseref11_Right.j0 k true a0_0 a0_1 a0_2 a0_3 a0_4 a0_5 a0_6 a0_7 l0_8) else (if a0_0 > 1000000000000 then (packhorseref11_Right.j0 k true a0_0 a0_1 a0_2 a0_3 a0_4 a0_5 a0_6 a0_7 l0_8) else ((packhorseref02_Right.f a0_1).bind fun t210 => (if t210 = true then ((packhorseref03_Right.f a0_2).bind fun t211 => (if t211 = true then (packhorseref11_Right.j0 k (decide ((l0_8.length : Int) > 64)) a0_0 a0_1 a0_2 a0_3 a0_4 a0_5 a0_6 a0_7 l0_8) else (packhorseref11_Right.j0 k true a0_0 a0_1 a0_2 a0_3 a0_4 a0_5 a0_6 a0_7 l0_8))) else (packhorseref11_Right.j0 k true a0_0 a0_1 a0_2 a0_3 a0_4 a0_5 a0_6 a0_7 l0_8))))) = some r := h; clear h; have HC2 := am H; clear H
 go_enter Tryd.func16, Tryd.ntmps16
 go_upto_region 1 with (first | ((with_reducible refine gate_dst (N := 1) rfl ?_); (try (refine gate_guard (by rfl) ?_; dsimp only)); refine box_event ?hg (N := 1) ?hd (cs := #[.int .i64 a0_0, .int .i64 a0_1, .int .i64 a0_2, .int .i64 a0_3, .int .i64 a0_4, .string a0_5, .string a0_6, .string a0_7, .slice A0_8 l0_8.length c0_8]) (t := 31) ?hr ?_; (case hd => rfl); (case hg => rfl); (case hr => first | (go_simp; done) | (go_simp; rfl)); intro gb209 hg w3 hbox hb; have _ := am (below_step (beu HB.out) hb); have _ := am (hbox); have _ := am ((by rw [hg]; exact (below_size (beu HB.out)) : w.heap.size ≤ gb209)); have _ := am ((by rw [hg]; exact (below_size (beu HB.out)) : w.heap.size ≤ gb209)); clear HB; rename_i HB BK209 GW209 GE209; clear hb hbox hg))
 (try simp only [Act.put, sA, sB, sC])
 go_cut [31] (fun v31 wc => ∃ (kq : Nat) (x31_1 : Bool), v31 = .bool x31_1 ∧ Aside0 (packhorseref11_Right.j0 kq x31_1 a0_0 a0_1 a0_2 a0_3 a0_4 a0_5 a0_6 a0_7 l0_8 = some r) ∧ Aside0 (kq ≤ k) ∧ Aside0 (wc.heap[gb209]? = some (.cells #[.int .i64 a0_0, .int .i64 a0_1, .int .i64 a0_2, .int .i64 a0_3, .int .i64 a0_4, .string a0_5, .string a0_6, .string a0_7, (.slice A0_8 l0_8.length c0_8)] 31 (0, 0))) ∧ Aside0 (Below w.heap.size w wc))
 case first =>
  have H := HC2.out; clear HC2
  by_cases c4 : a0_0 < 1
  ·rw [if_pos c4] at H
   have c4b0 : decide (a0_0 < 1) = true := decide_eq_true c4; clear c4
   (first | rw [c4b0] | (simp only [i64_w, i32_w]; rw [c4b0]) | skip)
   have H' := am H; clear H; obtain ⟨hcz5_0, hcz5_1, hcz5_2, hcz5_3, hcz5_4, hcz5_5, hcz5_6, hcz5_7, hcz5_8⟩ := cells9 BK209.out; obtain ⟨hfz5_0, hfz5_1, hfz5_2, hfz5_3, hfz5_4, hfz5_5, hfz5_6, hfz5_7, hfz5_8⟩ := frozens9 BK209.out
   go_wp2
   go_meet
   case rel => exact ⟨_, (true), ap3, H', ⟨by first | omega | exact Nat.le_refl _⟩, ⟨by refine bu ?_; exact BK209.out⟩, ⟨beu HB.out⟩⟩
  ·rw [if_neg c4] at H
   have c4b0 : decide (a0_0 < 1) = false := decide_eq_false c4; clear c4
   (first | rw [c4b0] | (simp only [i64_w, i32_w]; rw [c4b0]) | skip)
   by_cases c6 : a0_0 > 1000000000000
   ·rw [if_pos c6] at H
    have c6b0 : decide (1000000000000 < a0_0) = true := decide_eq_true c6; clear c6; have H' := am H; clear H; obtain ⟨hcz7_0, hcz7_1, hcz7_2, hcz7_3, hcz7_4, hcz7_5, hcz7_6, hcz7_7, hcz7_8⟩ := cells9 BK209.out; obtain ⟨hfz7_0, hfz7_1, hfz7_2, hfz7_3, hfz7_4, hfz7_5, hfz7_6, hfz7_7, hfz7_8⟩ := frozens9 BK209.out
    go_wp2
    go_meet
    case rel => exact ⟨_, (true), ap3, H', ⟨by first | omega | exact Nat.le_refl _⟩, ⟨by refine bu ?_; exact BK209.out⟩, ⟨beu HB.out⟩⟩
   ·rw [if_neg c6] at H
    have c6b0 : decide (1000000000000 < a0_0) = false := decide_eq_false c6; clear c6; replace H := obm H; obtain ⟨t210, A80, H⟩ := H; replace H : (if t210 = true then ((packhorseref03_Right.f a0_2).bind fun t211 => (if t211 = true then (packhorseref11_Right.j0 k (decide ((l0_8.length : Int) > 64)) a0_0 a0_1 a0_2 a0_3 a0_4 a0_5 a0_6 a0_7 l0_8) else (packhorseref11_Right.j0 k true a0_0 a0_1 a0_2 a0_3 a0_4 a0_5 a0_6 a0_7 l0_8))) else (packhorseref11_Right.j0 k true a0_0 a0_1 a0_2 a0_3 a0_4 a0_5 a0_6 a0_7 l0_8)) = some r := H; have A8 := am A80; clear A80
    by_cases c9 : t210 = true
    ·subst c9
     have H1 : ((packhorseref03_Right.f a0_2).bind fun t211 => (if t211 = true then (packhorseref11_Right.j0 k (decide ((l0_8.length : Int) > 64)) a0_0 a0_1 a0_2 a0_3 a0_4 a0_5 a0_6 a0_7 l0_8) else (packhorseref11_Right.j0 k true a0_0 a0_1 a0_2 a0_3 a0_4 a0_5 a0_6 a0_7 l0_8))) = some r := by rw [if_pos rfl] at H; exact H
     clear H; have H := H1; clear H1; replace H := obm H; obtain ⟨t211, A100, H⟩ := H; replace H : (if t211 = true then (packhorseref11_Right.j0 k (decide ((l0_8.length : Int) > 64)) a0_0 a0_1 a0_2 a0_3 a0_4 a0_5 a0_6 a0_7 l0_8) else (packhorseref11_Right.j0 k true a0_0 a0_1 a0_2 a0_3 a0_4 a0_5 a0_6 a0_7 l0_8)) = some r := H; have A10 := am A100; clear A100
     by_cases c11 : t211 = true
     ·subst c11
      have H1 : (packhorseref11_Right.j0 k (decide ((l0_8.length : Int) > 64)) a0_0 a0_1 a0_2 a0_3 a0_4 a0_5 a0_6 a0_7 l0_8) = some r := by rw [if_pos rfl] at H; exact H
      clear H; have H := H1; clear H1; have H' := am H; clear H; obtain ⟨hcz12_0, hcz12_1, hcz12_2, hcz12_3, hcz12_4, hcz12_5, hcz12_6, hcz12_7, hcz12_8⟩ := cells9 BK209.out; obtain ⟨hfz12_0, hfz12_1, hfz12_2, hfz12_3, hfz12_4, hfz12_5, hfz12_6, hfz12_7, hfz12_8⟩ := frozens9 BK209.out
      go_wp2_with (first | (go_at_call 20; (with_reducible refine (packhorseref02_Right.calls a0_1 true _ A8.out).mono ?_); rintro e w' ⟨rfl, ⟨nd, rfl⟩⟩) | (go_at_call 38; (with_reducible refine (packhorseref03_Right.calls a0_2 true _ A10.out).mono ?_); rintro e w' ⟨rfl, ⟨nd, rfl⟩⟩))
      go_meet
      case rel => exact ⟨_, (decide ((l0_8.length : Int) > 64)), ap3, H', ⟨by first | omega | exact Nat.le_refl _⟩, ⟨by refine bu ?_; exact BK209.out⟩, ⟨beu HB.out⟩⟩
     ·replace c11 := Bool.eq_false_iff.mpr c11
      subst c11
      have H1 : (packhorseref11_Right.j0 k true a0_0 a0_1 a0_2 a0_3 a0_4 a0_5 a0_6 a0_7 l0_8) = some r := by rw [if_neg (show ¬ (false = true) by decide)] at H; exact H
      clear H; have H := H1; clear H1; have H' := am H; clear H; obtain ⟨hcz13_0, hcz13_1, hcz13_2, hcz13_3, hcz13_4, hcz13_5, hcz13_6, hcz13_7, hcz13_8⟩ := cells9 BK209.out; obtain ⟨hfz13_0, hfz13_1, hfz13_2, hfz13_3, hfz13_4, hfz13_5, hfz13_6, hfz13_7, hfz13_8⟩ := frozens9 BK209.out
      go_wp2_with (first | (go_at_call 20; (with_reducible refine (packhorseref02_Right.calls a0_1 true _ A8.out).mono ?_); rintro e w' ⟨rfl, ⟨nd, rfl⟩⟩) | (go_at_call 38; (with_reducible refine (packhorseref03_Right.calls a0_2 false _ A10.out).mono ?_); rintro e w' ⟨rfl, ⟨nd, rfl⟩⟩))
      go_meet
      case rel => exact ⟨_, (true), ap3, H', ⟨by first | omega | exact Nat.le_refl _⟩, ⟨by refine bu ?_; exact BK209.out⟩, ⟨beu HB.out⟩⟩
    ·replace c9 := Bool.eq_false_iff.mpr c9
     subst c9
     have H1 : (packhorseref11_Right.j0 k true a0_0 a0_1 a0_2 a0_3 a0_4 a0_5 a0_6 a0_7 l0_8) = some r := by rw [if_neg (show ¬ (false = true) by decide)] at H; exact H
     clear H; have H := H1; clear H1; have H' := am H; clear H; obtain ⟨hcz14_0, hcz14_1, hcz14_2, hcz14_3, hcz14_4, hcz14_5, hcz14_6, hcz14_7, hcz14_8⟩ := cells9 BK209.out; obtain ⟨hfz14_0, hfz14_1, hfz14_2, hfz14_3, hfz14_4, hfz14_5, hfz14_6, hfz14_7, hfz14_8⟩ := frozens9 BK209.out
     go_wp2_with (first | (go_at_call 20; (with_reducible refine (packhorseref02_Right.calls a0_1 false _ A8.out).mono ?_); rintro e w' ⟨rfl, ⟨nd, rfl⟩⟩))
     go_meet
     case rel => exact ⟨_, (true), ap3, H', ⟨by first | omega | exact Nat.le_refl _⟩, ⟨by refine bu ?_; exact BK209.out⟩, ⟨beu HB.out⟩⟩
 case rest =>
  clear HC2; (try clear c1); (try clear p2); (try clear c4); (try clear c4b0); (try clear c6); (try clear c6b0); (try clear c9); (try clear c11); (try clear hcz12_0); (try clear hcz12_1); (try clear hcz12_2); (try clear hcz12_3); (try clear hcz12_4); (try clear hcz12_5); (try clear hcz12_6); (try clear hcz12_7); (try clear hcz12_8); (try clear hcz13_0); (try clear hcz13_1); (try clear hcz13_2); (try clear hcz13_3); (try clear hcz13_4); (try clear hcz13_5); (try clear hcz13_6); (try clear hcz13_7); (try clear hcz13_8); (try clear hcz14_0); (try clear hcz14_1); (try clear hcz14_2); (try clear hcz14_3); (try clear hcz14_4); (try clear hcz14_5); (try clear hcz14_6); (try clear hcz14_7); (try clear hcz14_8); (try clear hcz5_0); (try clear hcz5_1); (try clear hcz5_2); (try clear hcz5_3); (try clear hcz5_4); (try clear hcz5_5); (try clear hcz5_6); (try clear hcz5_7); (try clear hcz5_8); (try clear hcz7_0); (try clear hcz7_1); (try clear hcz7_2); (try clear hcz7_3); (try clear hcz7_4); (try clear hcz7_5); (try clear hcz7_6); (try clear hcz7_7); (try clear hcz7_8); (try clear hfz12_0); (try clear hfz12_1); (try clear hfz12_2); (try clear hfz12_3); (try clear hfz12_4); (try clear hfz12_5); (try clear hfz12_6); (try clear hfz12_7); (try clear hfz12_8); (try clear hfz13_0); (try clear hfz13_1); (try clear hfz13_2); (try clear hfz13_3); (try clear hfz13_4); (try clear hfz13_5); (try clear hfz13_6); (try clear hfz13_7); (try clear hfz13_8); (try clear hfz14_0); (try clear hfz14_1); (try clear hfz14_2); (try clear hfz14_3); (try clear hfz14_4); (try clear hfz14_5); (try clear hfz14_6); (try clear hfz14_7); (try clear hfz14_8); (try clear hfz5_0); (try clear hfz5_1); (try clear hfz5_2); (try clear hfz5_3); (try clear hfz5_4); (try clear hfz5_5); (try clear hfz5_6); (try clear hfz5_7); (try clear hfz5_8); (try clear hfz7_0); (try clear hfz7_1); (try clear hfz7_2); (try clear hfz7_3); (try clear hfz7_4); (try clear hfz7_5); (try clear hfz7_6); (try clear hfz7_7); (try clear hfz7_8); obtain ⟨kq, x31_1, rfl, HA, HJ1, BK209, HB⟩ := hcut
  cases kq with
  | zero => exact absurd HA.out (by simp [packhorseref11_Right.j0])
  | succ kj1 =>
   have H := HA.out; clear HA; simp only [packhorseref11_Right.j0] at H
   by_cases c15 : x31_1 = true
   ·subst c15
    have H1 : (some false) = some r := by rw [if_pos rfl] at H; exact H
    clear H; have H := H1; clear H1; obtain rfl := Option.some.inj H; simp only [Option.some.injEq, Prod.mk.injEq] at H; obtain ⟨rfl⟩ := H
    go_wp2
    go_ret
    exact ⟨ap4, beu HB.out⟩
   ·replace c15 := Bool.eq_false_iff.mpr c15
    subst c15
    have H1 : (if a0_3 = 1 then (if a0_4 < 1 then (packhorseref11_Right.j1 kj1 true a0_0 a0_1 a0_2 a0_3 a0_4 a0_5 a0_6 a0_7 l0_8) else (if a0_4 > 3 then (packhorseref11_Right.j1 kj1 true a0_0 a0_1 a0_2 a0_3 a0_4 a0_5 a0_6 a0_7 l0_8) else ((packhorseref10_Group.f kj1 a0_5 a0_6 a0_7).bind fun t212 => (packhorseref11_Right.j1 kj1 (!t212) a0_0 a0_1 a0_2 a0_3 a0_4 a0_5 a0_6 a0_7 l0_8)))) else (if a0_3 = 2 then (if a0_4 < 1 then (packhorseref11_Right.j1 kj1 true a0_0 a0_1 a0_2 a0_3 a0_4 a0_5 a0_6 a0_7 l0_8) else (if a0_4 > 3 then (packhorseref11_Right.j1 kj1 true a0_0 a0_1 a0_2 a0_3 a0_4 a0_5 a0_6 a0_7 l0_8) else ((packhorseref10_Group.f kj1 a0_5 a0_6 a0_7).bind fun t213 => (packhorseref11_Right.j1 kj1 (!t213) a0_0 a0_1 a0_2 a0_3 a0_4 a0_5 a0_6 a0_7 l0_8)))) else (packhorseref11_Right.j1 kj1 true a0_0 a0_1 a0_2 a0_3 a0_4 a0_5 a0_6 a0_7 l0_8))) = some r := by rw [if_neg (show ¬ (false = true) by decide)] at H; exact H
    clear H; have H := H1; clear H1; have HC16 := am H; clear H
    go_upto_region 3 with (fail)
    go_cut [55] (fun v55 wc => ∃ (kq : Nat) (x55_15 : Bool), v55 = .bool x55_15 ∧ Aside0 (packhorseref11_Right.j1 kq x55_15 a0_0 a0_1 a0_2 a0_3 a0_4 a0_5 a0_6 a0_7 l0_8 = some r) ∧ Aside0 (kq ≤ kj1) ∧ Aside0 (wc.heap[gb209]? = some (.cells #[.int .i64 a0_0, .int .i64 a0_1, .int .i64 a0_2, .int .i64 a0_3, .int .i64 a0_4, .string a0_5, .string a0_6, .string a0_7, (.slice A0_8 l0_8.length c0_8)] 31 (0, 0))) ∧ Aside0 (Below w.heap.size w wc))
    case first =>
     have H := HC16.out; clear HC16
     by_cases c17 : a0_3 = 1
     ·rw [if_pos c17] at H
      have c17b0 : (a0_3 == 1) = true := beq_iff_eq.mpr c17; have c17b1 : (a0_3 != 1) = false := bne_eq_false_iff_eq.mpr c17; clear c17
      (first | rw [c17b0] | (simp only [i64_w, i32_w]; rw [c17b0]) | skip)
      by_cases c18 : a0_4 < 1
      ·rw [if_pos c18] at H
       have c18b0 : decide (a0_4 < 1) = true := decide_eq_true c18; clear c18; have H' := am H; clear H; obtain ⟨hcz19_0, hcz19_1, hcz19_2, hcz19_3, hcz19_4, hcz19_5, hcz19_6, hcz19_7, hcz19_8⟩ := cells9 BK209.out; obtain ⟨hfz19_0, hfz19_1, hfz19_2, hfz19_3, hfz19_4, hfz19_5, hfz19_6, hfz19_7, hfz19_8⟩ := frozens9 BK209.out
       go_wp2
       go_meet
       case rel => exact ⟨_, (true), ap3, H', ⟨by have := HJ1.out; first | omega | exact Nat.le_refl _⟩, ⟨by refine bu ?_; exact BK209.out⟩, ⟨beu HB.out⟩⟩
      ·rw [if_neg c18] at H
       have c18b0 : decide (a0_4 < 1) = false := decide_eq_false c18; clear c18
       by_cases c20 : a0_4 > 3
       ·rw [if_pos c20] at H
        have c20b0 : decide (3 < a0_4) = true := decide_eq_true c20; clear c20; have H' := am H; clear H; obtain ⟨hcz21_0, hcz21_1, hcz21_2, hcz21_3, hcz21_4, hcz21_5, hcz21_6, hcz21_7, hcz21_8⟩ := cells9 BK209.out; obtain ⟨hfz21_0, hfz21_1, hfz21_2, hfz21_3, hfz21_4, hfz21_5, hfz21_6, hfz21_7, hfz21_8⟩ := frozens9 BK209.out
        go_wp2
        go_meet
        case rel => exact ⟨_, (true), ap3, H', ⟨by have := HJ1.out; first | omega | exact Nat.le_refl _⟩, ⟨by refine bu ?_; exact BK209.out⟩, ⟨beu HB.out⟩⟩
       ·rw [if_neg c20] at H
        have c20b0 : decide (3 < a0_4) = false := decide_eq_false c20; clear c20; replace H := obm H; obtain ⟨t212, A220, H⟩ := H; replace H : (packhorseref11_Right.j1 kj1 (!t212) a0_0 a0_1 a0_2 a0_3 a0_4 a0_5 a0_6 a0_7 l0_8) = some r := H; have A22 := am A220; clear A220; have H' := am H; clear H; obtain ⟨hcz23_0, hcz23_1, hcz23_2, hcz23_3, hcz23_4, hcz23_5, hcz23_6, hcz23_7, hcz23_8⟩ := cells9 BK209.out; obtain ⟨hfz23_0, hfz23_1, hfz23_2, hfz23_3, hfz23_4, hfz23_5, hfz23_6, hfz23_7, hfz23_8⟩ := frozens9 BK209.out
        go_wp2_with (first | (go_at_call 39; (with_reducible refine (packhorseref10_Group.calls kj1 a0_5 a0_6 a0_7 t212 _ A22.out).mono ?_); rintro e w24 ⟨rfl, hb⟩; have _ := am (blk_below (bu BK209.out) hb); have _ := am (below_step (beu HB.out) hb); clear BK209 HB; rename_i BK209 HB; (try clear hb)))
        go_meet
        case rel => exact ⟨_, (!t212), ap3, H', ⟨by have := HJ1.out; first | omega | exact Nat.le_refl _⟩, ⟨by refine bu ?_; exact BK209.out⟩, ⟨beu HB.out⟩⟩
     ·rw [if_neg c17] at H
      have c17b0 : (a0_3 == 1) = false := beq_eq_false_iff_ne.mpr c17; have c17b1 : (a0_3 != 1) = true := bne_iff_ne.mpr c17
      (first | rw [c17b0] | (simp only [i64_w, i32_w]; rw [c17b0]) | skip)
      by_cases c25 : a0_3 = 2
      ·rw [if_pos c25] at H
       have c25b0 : (a0_3 == 2) = true := beq_iff_eq.mpr c25; have c25b1 : (a0_3 != 2) = false := bne_eq_false_iff_eq.mpr c25; clear c25
       by_cases c26 : a0_4 < 1
       ·rw [if_pos c26] at H
        have c26b0 : decide (a0_4 < 1) = true := decide_eq_true c26; clear c26; have H' := am H; clear H; obtain ⟨hcz27_0, hcz27_1, hcz27_2, hcz27_3, hcz27_4, hcz27_5, hcz27_6, hcz27_7, hcz27_8⟩ := cells9 BK209.out; obtain ⟨hfz27_0, hfz27_1, hfz27_2, hfz27_3, hfz27_4, hfz27_5, hfz27_6, hfz27_7, hfz27_8⟩ := frozens9 BK209.out
        go_wp2
        go_meet
        case rel => exact ⟨_, (true), ap3, H', ⟨by have := HJ1.out; first | omega | exact Nat.le_refl _⟩, ⟨by refine bu ?_; exact BK209.out⟩, ⟨beu HB.out⟩⟩
       ·rw [if_neg c26] at H
        have c26b0 : decide (a0_4 < 1) = false := decide_eq_false c26; clear c26
        by_cases c28 : a0_4 > 3
        ·rw [if_pos c28] at H
         have c28b0 : decide (3 < a0_4) = true := decide_eq_true c28; clear c28; have H' := am H; clear H; obtain ⟨hcz29_0, hcz29_1, hcz29_2, hcz29_3, hcz29_4, hcz29_5, hcz29_6, hcz29_7, hcz29_8⟩ := cells9 BK209.out; obtain ⟨hfz29_0, hfz29_1, hfz29_2, hfz29_3, hfz29_4, hfz29_5, hfz29_6, hfz29_7, hfz29_8⟩ := frozens9 BK209.out
         go_wp2
         go_meet
         case rel => exact ⟨_, (true), ap3, H', ⟨by have := HJ1.out; first | omega | exact Nat.le_refl _⟩, ⟨by refine bu ?_; exact BK209.out⟩, ⟨beu HB.out⟩⟩
        ·rw [if_neg c28] at H
         have c28b0 : decide (3 < a0_4) = false := decide_eq_false c28; clear c28; replace H := obm H; obtain ⟨t213, A300, H⟩ := H; replace H : (packhorseref11_Right.j1 kj1 (!t213) a0_0 a0_1 a0_2 a0_3 a0_4 a0_5 a0_6 a0_7 l0_8) = some r := H; have A30 := am A300; clear A300; have H' := am H; clear H; obtain ⟨hcz31_0, hcz31_1, hcz31_2, hcz31_3, hcz31_4, hcz31_5, hcz31_6, hcz31_7, hcz31_8⟩ := cells9 BK209.out; obtain ⟨hfz31_0, hfz31_1, hfz31_2, hfz31_3, hfz31_4, hfz31_5, hfz31_6, hfz31_7, hfz31_8⟩ := frozens9 BK209.out
         go_wp2_with (first | (go_at_call 39; (with_reducible refine (packhorseref10_Group.calls kj1 a0_5 a0_6 a0_7 t213 _ A30.out).mono ?_); rintro e w32 ⟨rfl, hb⟩; have _ := am (blk_below (bu BK209.out) hb); have _ := am (below_step (beu HB.out) hb); clear BK209 HB; rename_i BK209 HB; (try clear hb)))
         go_meet
         case rel => exact ⟨_, (!t213), ap3, H', ⟨by have := HJ1.out; first | omega | exact Nat.le_refl _⟩, ⟨by refine bu ?_; exact BK209.out⟩, ⟨beu HB.out⟩⟩
      ·rw [if_neg c25] at H
       have c25b0 : (a0_3 == 2) = false := beq_eq_false_iff_ne.mpr c25; have c25b1 : (a0_3 != 2) = true := bne_iff_ne.mpr c25; have H' := am H; clear H; obtain ⟨hcz33_0, hcz33_1, hcz33_2, hcz33_3, hcz33_4, hcz33_5, hcz33_6, hcz33_7, hcz33_8⟩ := cells9 BK209.out; obtain ⟨hfz33_0, hfz33_1, hfz33_2, hfz33_3, hfz33_4, hfz33_5, hfz33_6, hfz33_7, hfz33_8⟩ := frozens9 BK209.out
       go_wp2
       go_meet
       case rel => exact ⟨_, (true), ap3, H', ⟨by have := HJ1.out; first | omega | exact Nat.le_refl _⟩, ⟨by refine bu ?_; exact BK209.out⟩, ⟨beu HB.out⟩⟩
    case rest =>
     clear HC16; (try clear c1); (try clear c2); (try clear p2); (try clear c4); (try clear c4b0); (try clear c6); (try clear c6b0); (try clear c9); (try clear c11); (try clear c15); (try clear c16); (try clear c17); (try clear c17b0); (try clear c17b1); (try clear c18); (try clear c18b0); (try clear c20); (try clear c20b0); (try clear c25); (try clear c25b0); (try clear c25b1); (try clear c26); (try clear c26b0); (try clear c28); (try clear c28b0); (try clear hcz12_0); (try clear hcz12_1); (try clear hcz12_2); (try clear hcz12_3); (try clear hcz12_4); (try clear hcz12_5); (try clear hcz12_6); (try clear hcz12_7); (try clear hcz12_8); (try clear hcz13_0); (try clear hcz13_1); (try clear hcz13_2); (try clear hcz13_3); (try clear hcz13_4); (try clear hcz13_5); (try clear hcz13_6); (try clear hcz13_7); (try clear hcz13_8); (try clear hcz14_0); (try clear hcz14_1); (try clear hcz14_2); (try clear hcz14_3); (try clear hcz14_4); (try clear hcz14_5); (try clear hcz14_6); (try clear hcz14_7); (try clear hcz14_8); (try clear hcz19_0); (try clear hcz19_1); (try clear hcz19_2); (try clear hcz19_3); (try clear hcz19_4); (try clear hcz19_5); (try clear hcz19_6); (try clear hcz19_7); (try clear hcz19_8); (try clear hcz21_0); (try clear hcz21_1); (try clear hcz21_2); (try clear hcz21_3); (try clear hcz21_4); (try clear hcz21_5); (try clear hcz21_6); (try clear hcz21_7); (try clear hcz21_8); (try clear hcz23_0); (try clear hcz23_1); (try clear hcz23_2); (try clear hcz23_3); (try clear hcz23_4); (try clear hcz23_5); (try clear hcz23_6); (try clear hcz23_7); (try clear hcz23_8); (try clear hcz27_0); (try clear hcz27_1); (try clear hcz27_2); (try clear hcz27_3); (try clear hcz27_4); (try clear hcz27_5); (try clear hcz27_6); (try clear hcz27_7); (try clear hcz27_8); (try clear hcz29_0); (try clear hcz29_1); (try clear hcz29_2); (try clear hcz29_3); (try clear hcz29_4); (try clear hcz29_5); (try clear hcz29_6); (try clear hcz29_7); (try clear hcz29_8); (try clear hcz31_0); (try clear hcz31_1); (try clear hcz31_2); (try clear hcz31_3); (try clear hcz31_4); (try clear hcz31_5); (try clear hcz31_6); (try clear hcz31_7); (try clear hcz31_8); (try clear hcz33_0); (try clear hcz33_1); (try clear hcz33_2); (try clear hcz33_3); (try clear hcz33_4); (try clear hcz33_5); (try clear hcz33_6); (try clear hcz33_7); (try clear hcz33_8); (try clear hcz5_0); (try clear hcz5_1); (try clear hcz5_2); (try clear hcz5_3); (try clear hcz5_4); (try clear hcz5_5); (try clear hcz5_6); (try clear hcz5_7); (try clear hcz5_8); (try clear hcz7_0); (try clear hcz7_1); (try clear hcz7_2); (try clear hcz7_3); (try clear hcz7_4); (try clear hcz7_5); (try clear hcz7_6); (try clear hcz7_7); (try clear hcz7_8); (try clear hfz12_0); (try clear hfz12_1); (try clear hfz12_2); (try clear hfz12_3); (try clear hfz12_4); (try clear hfz12_5); (try clear hfz12_6); (try clear hfz12_7); (try clear hfz12_8); (try clear hfz13_0); (try clear hfz13_1); (try clear hfz13_2); (try clear hfz13_3); (try clear hfz13_4); (try clear hfz13_5); (try clear hfz13_6); (try clear hfz13_7); (try clear hfz13_8); (try clear hfz14_0); (try clear hfz14_1); (try clear hfz14_2); (try clear hfz14_3); (try clear hfz14_4); (try clear hfz14_5); (try clear hfz14_6); (try clear hfz14_7); (try clear hfz14_8); (try clear hfz19_0); (try clear hfz19_1); (try clear hfz19_2); (try clear hfz19_3); (try clear hfz19_4); (try clear hfz19_5); (try clear hfz19_6); (try clear hfz19_7); (try clear hfz19_8); (try clear hfz21_0); (try clear hfz21_1); (try clear hfz21_2); (try clear hfz21_3); (try clear hfz21_4); (try clear hfz21_5); (try clear hfz21_6); (try clear hfz21_7); (try clear hfz21_8); (try clear hfz23_0); (try clear hfz23_1); (try clear hfz23_2); (try clear hfz23_3); (try clear hfz23_4); (try clear hfz23_5); (try clear hfz23_6); (try clear hfz23_7); (try clear hfz23_8); (try clear hfz27_0); (try clear hfz27_1); (try clear hfz27_2); (try clear hfz27_3); (try clear hfz27_4); (try clear hfz27_5); (try clear hfz27_6); (try clear hfz27_7)
     (try clear hfz27_8); (try clear hfz29_0); (try clear hfz29_1); (try clear hfz29_2); (try clear hfz29_3); (try clear hfz29_4); (try clear hfz29_5); (try clear hfz29_6); (try clear hfz29_7); (try clear hfz29_8); (try clear hfz31_0); (try clear hfz31_1); (try clear hfz31_2); (try clear hfz31_3); (try clear hfz31_4); (try clear hfz31_5); (try clear hfz31_6); (try clear hfz31_7); (try clear hfz31_8); (try clear hfz33_0); (try clear hfz33_1); (try clear hfz33_2); (try clear hfz33_3); (try clear hfz33_4); (try clear hfz33_5); (try clear hfz33_6); (try clear hfz33_7); (try clear hfz33_8); (try clear hfz5_0); (try clear hfz5_1); (try clear hfz5_2); (try clear hfz5_3); (try clear hfz5_4); (try clear hfz5_5); (try clear hfz5_6); (try clear hfz5_7); (try clear hfz5_8); (try clear hfz7_0); (try clear hfz7_1); (try clear hfz7_2); (try clear hfz7_3); (try clear hfz7_4); (try clear hfz7_5); (try clear hfz7_6); (try clear hfz7_7); (try clear hfz7_8); (try clear p2); obtain ⟨kq, x55_15, rfl, HA, HJ15, BK209, HB⟩ := hcut
     cases kq with
     | zero => exact absurd HA.out (by simp [packhorseref11_Right.j1])
     | succ kj15 =>
      have H := HA.out; clear HA; simp only [packhorseref11_Right.j1] at H
      by_cases c34 : x55_15 = true
      ·subst c34
       have H1 : (some false) = some r := by rw [if_pos rfl] at H; exact H
       clear H; have H := H1; clear H1; obtain rfl := Option.some.inj H; simp only [Option.some.injEq, Prod.mk.injEq] at H; obtain ⟨rfl⟩ := H
       go_wp2
       go_ret
       exact ⟨ap4, beu HB.out⟩
      ·replace c34 := Bool.eq_false_iff.mpr c34
       subst c34
       have H1 : (packhorseref11_Right.l0 kj15 l0_8 (l0_8.length : Int) 0 a0_0 a0_1 a0_2 a0_3 a0_4 a0_5 a0_6 a0_7 l0_8) = some r := by rw [if_neg (show ¬ (false = true) by decide)] at H; exact H
       clear H; have H := H1; clear H1; have H' := am H; clear H; obtain ⟨hcz35_0, hcz35_1, hcz35_2, hcz35_3, hcz35_4, hcz35_5, hcz35_6, hcz35_7, hcz35_8⟩ := cells9 BK209.out; obtain ⟨hfz35_0, hfz35_1, hfz35_2, hfz35_3, hfz35_4, hfz35_5, hfz35_6, hfz35_7, hfz35_8⟩ := frozens9 BK209.out
       go_wp2
       go_loopg [59] kj15 (fun kq v59 w' => ∃ (x59_3 : Int), v59 = .int .i64 x59_3 ∧ Aside0 (packhorseref11_Right.l0 kq l0_8 (l0_8.length : Int) x59_3 a0_0 a0_1 a0_2 a0_3 a0_4 a0_5 a0_6 a0_7 l0_8 = some r) ∧ Aside0 (kq ≤ kj15) ∧ Aside0 (w'.heap[gb209]? = some (.cells #[.int .i64 a0_0, .int .i64 a0_1, .int .i64 a0_2, .int .i64 a0_3, .int .i64 a0_4, .string a0_5, .string a0_6, .string a0_7, (.slice A0_8 l0_8.length c0_8)] 31 (0, 0))) ∧ Aside0 (Below w.heap.size w w'))
       case atStart => exact ⟨(0), ap3, H', ⟨Nat.le_refl _⟩, ⟨by refine bu ?_; exact BK209.out⟩, ⟨beu HB.out⟩⟩
       case round =>
        clear H'; (try clear c1); (try clear c2); (try clear p2); (try clear c3); (try clear c4); (try clear c4b0); (try clear c6); (try clear c6b0); (try clear c9); (try clear c11); (try clear c15); (try clear c16); (try clear c17); (try clear c17b0); (try clear c17b1); (try clear c18); (try clear c18b0); (try clear c20); (try clear c20b0); (try clear c25); (try clear c25b0); (try clear c25b1); (try clear c26); (try clear c26b0); (try clear c28); (try clear c28b0); (try clear c34); (try clear hcz12_0); (try clear hcz12_1); (try clear hcz12_2); (try clear hcz12_3); (try clear hcz12_4); (try clear hcz12_5); (try clear hcz12_6); (try clear hcz12_7); (try clear hcz12_8); (try clear hcz13_0); (try clear hcz13_1); (try clear hcz13_2); (try clear hcz13_3); (try clear hcz13_4); (try clear hcz13_5); (try clear hcz13_6); (try clear hcz13_7); (try clear hcz13_8); (try clear hcz14_0); (try clear hcz14_1); (try clear hcz14_2); (try clear hcz14_3); (try clear hcz14_4); (try clear hcz14_5); (try clear hcz14_6); (try clear hcz14_7); (try clear hcz14_8); (try clear hcz19_0); (try clear hcz19_1); (try clear hcz19_2); (try clear hcz19_3); (try clear hcz19_4); (try clear hcz19_5); (try clear hcz19_6); (try clear hcz19_7); (try clear hcz19_8); (try clear hcz21_0); (try clear hcz21_1); (try clear hcz21_2); (try clear hcz21_3); (try clear hcz21_4); (try clear hcz21_5); (try clear hcz21_6); (try clear hcz21_7); (try clear hcz21_8); (try clear hcz23_0); (try clear hcz23_1); (try clear hcz23_2); (try clear hcz23_3); (try clear hcz23_4); (try clear hcz23_5); (try clear hcz23_6); (try clear hcz23_7); (try clear hcz23_8); (try clear hcz27_0); (try clear hcz27_1); (try clear hcz27_2); (try clear hcz27_3); (try clear hcz27_4); (try clear hcz27_5); (try clear hcz27_6); (try clear hcz27_7); (try clear hcz27_8); (try clear hcz29_0); (try clear hcz29_1); (try clear hcz29_2); (try clear hcz29_3); (try clear hcz29_4); (try clear hcz29_5); (try clear hcz29_6); (try clear hcz29_7); (try clear hcz29_8); (try clear hcz31_0); (try clear hcz31_1); (try clear hcz31_2); (try clear hcz31_3); (try clear hcz31_4); (try clear hcz31_5); (try clear hcz31_6); (try clear hcz31_7); (try clear hcz31_8); (try clear hcz33_0); (try clear hcz33_1); (try clear hcz33_2); (try clear hcz33_3); (try clear hcz33_4); (try clear hcz33_5); (try clear hcz33_6); (try clear hcz33_7); (try clear hcz33_8); (try clear hcz35_0); (try clear hcz35_1); (try clear hcz35_2); (try clear hcz35_3); (try clear hcz35_4); (try clear hcz35_5); (try clear hcz35_6); (try clear hcz35_7); (try clear hcz35_8); (try clear hcz5_0); (try clear hcz5_1); (try clear hcz5_2); (try clear hcz5_3); (try clear hcz5_4); (try clear hcz5_5); (try clear hcz5_6); (try clear hcz5_7); (try clear hcz5_8); (try clear hcz7_0); (try clear hcz7_1); (try clear hcz7_2); (try clear hcz7_3); (try clear hcz7_4); (try clear hcz7_5); (try clear hcz7_6); (try clear hcz7_7); (try clear hcz7_8); (try clear hfz12_0); (try clear hfz12_1); (try clear hfz12_2); (try clear hfz12_3); (try clear hfz12_4); (try clear hfz12_5); (try clear hfz12_6); (try clear hfz12_7); (try clear hfz12_8); (try clear hfz13_0); (try clear hfz13_1); (try clear hfz13_2); (try clear hfz13_3); (try clear hfz13_4); (try clear hfz13_5); (try clear hfz13_6); (try clear hfz13_7); (try clear hfz13_8); (try clear hfz14_0); (try clear hfz14_1); (try clear hfz14_2); (try clear hfz14_3); (try clear hfz14_4); (try clear hfz14_5); (try clear hfz14_6); (try clear hfz14_7); (try clear hfz14_8); (try clear hfz19_0); (try clear hfz19_1); (try clear hfz19_2); (try clear hfz19_3); (try clear hfz19_4); (try clear hfz19_5); (try clear hfz19_6); (try clear hfz19_7); (try clear hfz19_8); (try clear hfz21_0); (try clear hfz21_1); (try clear hfz21_2); (try clear hfz21_3); (try clear hfz21_4); (try clear hfz21_5); (try clear hfz21_6); (try clear hfz21_7); (try clear hfz21_8); (try clear hfz23_0); (try clear hfz23_1); (try clear hfz23_2); (try clear hfz23_3); (try clear hfz23_4); (try clear hfz23_5); (try clear hfz23_6)
        (try clear hfz23_7); (try clear hfz23_8); (try clear hfz27_0); (try clear hfz27_1); (try clear hfz27_2); (try clear hfz27_3); (try clear hfz27_4); (try clear hfz27_5); (try clear hfz27_6); (try clear hfz27_7); (try clear hfz27_8); (try clear hfz29_0); (try clear hfz29_1); (try clear hfz29_2); (try clear hfz29_3); (try clear hfz29_4); (try clear hfz29_5); (try clear hfz29_6); (try clear hfz29_7); (try clear hfz29_8); (try clear hfz31_0); (try clear hfz31_1); (try clear hfz31_2); (try clear hfz31_3); (try clear hfz31_4); (try clear hfz31_5); (try clear hfz31_6); (try clear hfz31_7); (try clear hfz31_8); (try clear hfz33_0); (try clear hfz33_1); (try clear hfz33_2); (try clear hfz33_3); (try clear hfz33_4); (try clear hfz33_5); (try clear hfz33_6); (try clear hfz33_7); (try clear hfz33_8); (try clear hfz35_0); (try clear hfz35_1); (try clear hfz35_2); (try clear hfz35_3); (try clear hfz35_4); (try clear hfz35_5); (try clear hfz35_6); (try clear hfz35_7); (try clear hfz35_8); (try clear hfz5_0); (try clear hfz5_1); (try clear hfz5_2); (try clear hfz5_3); (try clear hfz5_4); (try clear hfz5_5); (try clear hfz5_6); (try clear hfz5_7); (try clear hfz5_8); (try clear hfz7_0); (try clear hfz7_1); (try clear hfz7_2); (try clear hfz7_3); (try clear hfz7_4); (try clear hfz7_5); (try clear hfz7_6); (try clear hfz7_7); (try clear hfz7_8); (try clear p2); obtain ⟨x59_3, rfl, HA, HK3, BK209, HB⟩ := hrel
        cases gk with
        | zero => exact absurd HA.out (by simp [packhorseref11_Right.l0])
        | succ k3 =>
         have H := HA.out; clear HA; simp only [packhorseref11_Right.l0] at H
         by_cases c36 : x59_3 < (l0_8.length : Int)
         ·rw [if_pos c36] at H
          have c36b0 : decide (x59_3 < (l0_8.length : Int)) = true := decide_eq_true c36; clear c36
          by_cases c37 : 0 ≤ x59_3
          ·rw [if_pos c37] at H
           have c37b0 : decide (0 ≤ x59_3) = true := decide_eq_true c37; clear c37
           by_cases c38 : x59_3 < (l0_8.length : Int)
           ·rw [if_pos c38] at H
            have c38b0 : decide (x59_3 < (l0_8.length : Int)) = true := decide_eq_true c38; clear c38; replace H := obm H; obtain ⟨t215, A390, H⟩ := H; replace H : (if t215 = true then (packhorseref11_Right.l1 k3 x59_3 (rdOf ByteArray.empty l0_8 x59_3) 0 l0_8 (l0_8.length : Int) x59_3 a0_0 a0_1 a0_2 a0_3 a0_4 a0_5 a0_6 a0_7 l0_8) else (some false)) = some r := H; have A39 := am A390; clear A390
            by_cases c40 : t215 = true
            ·subst c40
             have H1 : (packhorseref11_Right.l1 k3 x59_3 (rdOf ByteArray.empty l0_8 x59_3) 0 l0_8 (l0_8.length : Int) x59_3 a0_0 a0_1 a0_2 a0_3 a0_4 a0_5 a0_6 a0_7 l0_8) = some r := by rw [if_pos rfl] at H; exact H
             clear H; have H := H1; clear H1; have H' := am H; clear H; have p214 : 0 ≤ (x59_3 : Int) := of_decide_eq_true ap2; have q214 : x59_3 < (l0_8.length : Int) := of_decide_eq_true ap2; obtain ⟨ad214, e214, hx214_0⟩ := Kd.at_string HR0_8.out x59_3 p214 q214
             cases e214
             replace hx214_0 := (HB.out.cell (World.block_lt_of_cell? w _ hx214_0)).trans hx214_0; replace p214 := eq_true p214; replace q214 := eq_true q214
             go_wp2_with (first | ((with_reducible refine gate_callee (f := 40) rfl ?_); refine goesL_ (some 65) rfl rfl Tryd.func40 (by kernel_rfl) rfl #[.string (rdOf ByteArray.empty l0_8 x59_3)] rfl ap1 ?_; (with_reducible refine (packhorseref01_Right.calls k3 (rdOf ByteArray.empty l0_8 x59_3) true _ A39.out).mono ?_); rintro e w41 ⟨rfl, hb⟩; refine ⟨_, rfl, ?_⟩; have _ := am (blk_below (bu BK209.out) hb); have _ := am (below_step (beu HB.out) hb); clear BK209 HB; rename_i BK209 HB; (try clear hb)))
             go_loopg [5] k3 (fun kq v5 w' => ∃ (x5_4 : Int), v5 = .int .i64 x5_4 ∧ Aside0 (packhorseref11_Right.l1 kq x59_3 (rdOf ByteArray.empty l0_8 x59_3) x5_4 l0_8 (l0_8.length : Int) x59_3 a0_0 a0_1 a0_2 a0_3 a0_4 a0_5 a0_6 a0_7 l0_8 = some r) ∧ Aside0 (kq ≤ k3) ∧ Aside0 (w'.heap[gb209]? = some (.cells #[.int .i64 a0_0, .int .i64 a0_1, .int .i64 a0_2, .int .i64 a0_3, .int .i64 a0_4, .string a0_5, .string a0_6, .string a0_7, (.slice (some ad214) l0_8.length c0_8)] 31 (0, 0))) ∧ Aside0 (Below w.heap.size w w'))
             case atStart => exact ⟨(0), ap3, H', ⟨Nat.le_refl _⟩, ⟨by refine bu ?_; exact BK209.out⟩, ⟨beu HB.out⟩⟩
             case round =>
              clear H'; (try clear c1); (try clear c2); (try clear p2); (try clear q2); (try clear hx2); (try clear c3); (try clear c4); (try clear c4b0); (try clear c6); (try clear c6b0); (try clear c9); (try clear c11); (try clear c15); (try clear c16); (try clear c17); (try clear c17b0); (try clear c17b1); (try clear c18); (try clear c18b0); (try clear c20); (try clear c20b0); (try clear p21); (try clear q21); (try clear hx21); (try clear c25); (try clear c25b0); (try clear c25b1); (try clear c26); (try clear c26b0); (try clear c28); (try clear c28b0); (try clear c34); (try clear c36); (try clear c36b0); (try clear c37); (try clear c37b0); (try clear c38); (try clear c38b0); (try clear c40); (try clear hcz12_0); (try clear hcz12_1); (try clear hcz12_2); (try clear hcz12_3); (try clear hcz12_4); (try clear hcz12_5); (try clear hcz12_6); (try clear hcz12_7); (try clear hcz12_8); (try clear hcz13_0); (try clear hcz13_1); (try clear hcz13_2); (try clear hcz13_3); (try clear hcz13_4); (try clear hcz13_5); (try clear hcz13_6); (try clear hcz13_7); (try clear hcz13_8); (try clear hcz14_0); (try clear hcz14_1); (try clear hcz14_2); (try clear hcz14_3); (try clear hcz14_4); (try clear hcz14_5); (try clear hcz14_6); (try clear hcz14_7); (try clear hcz14_8); (try clear hcz19_0); (try clear hcz19_1); (try clear hcz19_2); (try clear hcz19_3); (try clear hcz19_4); (try clear hcz19_5); (try clear hcz19_6); (try clear hcz19_7); (try clear hcz19_8); (try clear hcz21_0); (try clear hcz21_1); (try clear hcz21_2); (try clear hcz21_3); (try clear hcz21_4); (try clear hcz21_5); (try clear hcz21_6); (try clear hcz21_7); (try clear hcz21_8); (try clear hcz23_0); (try clear hcz23_1); (try clear hcz23_2); (try clear hcz23_3); (try clear hcz23_4); (try clear hcz23_5); (try clear hcz23_6); (try clear hcz23_7); (try clear hcz23_8); (try clear hcz27_0); (try clear hcz27_1); (try clear hcz27_2); (try clear hcz27_3); (try clear hcz27_4); (try clear hcz27_5); (try clear hcz27_6); (try clear hcz27_7); (try clear hcz27_8); (try clear hcz29_0); (try clear hcz29_1); (try clear hcz29_2); (try clear hcz29_3); (try clear hcz29_4); (try clear hcz29_5); (try clear hcz29_6); (try clear hcz29_7); (try clear hcz29_8); (try clear hcz31_0); (try clear hcz31_1); (try clear hcz31_2); (try clear hcz31_3); (try clear hcz31_4); (try clear hcz31_5); (try clear hcz31_6); (try clear hcz31_7); (try clear hcz31_8); (try clear hcz33_0); (try clear hcz33_1); (try clear hcz33_2); (try clear hcz33_3); (try clear hcz33_4); (try clear hcz33_5); (try clear hcz33_6); (try clear hcz33_7); (try clear hcz33_8); (try clear hcz35_0); (try clear hcz35_1); (try clear hcz35_2); (try clear hcz35_3); (try clear hcz35_4); (try clear hcz35_5); (try clear hcz35_6); (try clear hcz35_7); (try clear hcz35_8); (try clear hcz5_0); (try clear hcz5_1); (try clear hcz5_2); (try clear hcz5_3); (try clear hcz5_4); (try clear hcz5_5); (try clear hcz5_6); (try clear hcz5_7); (try clear hcz5_8); (try clear hcz7_0); (try clear hcz7_1); (try clear hcz7_2); (try clear hcz7_3); (try clear hcz7_4); (try clear hcz7_5); (try clear hcz7_6); (try clear hcz7_7); (try clear hcz7_8); (try clear hfz12_0); (try clear hfz12_1); (try clear hfz12_2); (try clear hfz12_3); (try clear hfz12_4); (try clear hfz12_5); (try clear hfz12_6); (try clear hfz12_7); (try clear hfz12_8); (try clear hfz13_0); (try clear hfz13_1); (try clear hfz13_2); (try clear hfz13_3); (try clear hfz13_4); (try clear hfz13_5); (try clear hfz13_6); (try clear hfz13_7); (try clear hfz13_8); (try clear hfz14_0); (try clear hfz14_1); (try clear hfz14_2); (try clear hfz14_3); (try clear hfz14_4); (try clear hfz14_5); (try clear hfz14_6); (try clear hfz14_7); (try clear hfz14_8); (try clear hfz19_0); (try clear hfz19_1); (try clear hfz19_2); (try clear hfz19_3); (try clear hfz19_4); (try clear hfz19_5); (try clear hfz19_6); (try clear hfz19_7); (try clear hfz19_8); (try clear hfz21_0); (try clear hfz21_1); (try clear hfz21_2); (try clear hfz21_3); (try clear hfz21_4)
              (try clear hfz21_5); (try clear hfz21_6); (try clear hfz21_7); (try clear hfz21_8); (try clear hfz23_0); (try clear hfz23_1); (try clear hfz23_2); (try clear hfz23_3); (try clear hfz23_4); (try clear hfz23_5); (try clear hfz23_6); (try clear hfz23_7); (try clear hfz23_8); (try clear hfz27_0); (try clear hfz27_1); (try clear hfz27_2); (try clear hfz27_3); (try clear hfz27_4); (try clear hfz27_5); (try clear hfz27_6); (try clear hfz27_7); (try clear hfz27_8); (try clear hfz29_0); (try clear hfz29_1); (try clear hfz29_2); (try clear hfz29_3); (try clear hfz29_4); (try clear hfz29_5); (try clear hfz29_6); (try clear hfz29_7); (try clear hfz29_8); (try clear hfz31_0); (try clear hfz31_1); (try clear hfz31_2); (try clear hfz31_3); (try clear hfz31_4); (try clear hfz31_5); (try clear hfz31_6); (try clear hfz31_7); (try clear hfz31_8); (try clear hfz33_0); (try clear hfz33_1); (try clear hfz33_2); (try clear hfz33_3); (try clear hfz33_4); (try clear hfz33_5); (try clear hfz33_6); (try clear hfz33_7); (try clear hfz33_8); (try clear hfz35_0); (try clear hfz35_1); (try clear hfz35_2); (try clear hfz35_3); (try clear hfz35_4); (try clear hfz35_5); (try clear hfz35_6); (try clear hfz35_7); (try clear hfz35_8); (try clear hfz5_0); (try clear hfz5_1); (try clear hfz5_2); (try clear hfz5_3); (try clear hfz5_4); (try clear hfz5_5); (try clear hfz5_6); (try clear hfz5_7); (try clear hfz5_8); (try clear hfz7_0); (try clear hfz7_1); (try clear hfz7_2); (try clear hfz7_3); (try clear hfz7_4); (try clear hfz7_5); (try clear hfz7_6); (try clear hfz7_7); (try clear hfz7_8); (try clear hx214_0); (try clear p2); (try clear p214); (try clear q214); obtain ⟨x5_4, rfl, HA, HK4, BK209, HB⟩ := hrel
              cases gk with
              | zero => exact absurd HA.out (by simp [packhorseref11_Right.l1])
              | succ k4 =>
               have H := HA.out; clear HA; simp only [packhorseref11_Right.l1] at H
               by_cases c42 : x5_4 < x59_3
               ·rw [if_pos c42] at H
                have c42b0 : decide (x5_4 < x59_3) = true := decide_eq_true c42; clear c42
                by_cases c43 : 0 ≤ x5_4
                ·rw [if_pos c43] at H
                 have c43b0 : decide (0 ≤ x5_4) = true := decide_eq_true c43; clear c43
                 by_cases c44 : x5_4 < (l0_8.length : Int)
                 ·rw [if_pos c44] at H
                  have c44b0 : decide (x5_4 < (l0_8.length : Int)) = true := decide_eq_true c44; clear c44
                  by_cases c45 : (rdOf ByteArray.empty l0_8 x5_4).toList = (rdOf ByteArray.empty l0_8 x59_3).toList
                  ·rw [if_pos c45] at H
                   have c45b0 : ((rdOf ByteArray.empty l0_8 x5_4).toList == (rdOf ByteArray.empty l0_8 x59_3).toList) = true := beq_iff_eq.mpr c45; have c45b1 : ((rdOf ByteArray.empty l0_8 x5_4).toList != (rdOf ByteArray.empty l0_8 x59_3).toList) = false := bne_eq_false_iff_eq.mpr c45; clear c45; obtain rfl := Option.some.inj H; simp only [Option.some.injEq, Prod.mk.injEq] at H; obtain ⟨rfl⟩ := H; obtain ⟨_, _, _, _, _, _, _, _, _⟩ := cells9 BK209.out; obtain ⟨_, _, _, _, _, _, _, _, _⟩ := frozens9 BK209.out; have p216 : 0 ≤ (x5_4 : Int) := of_decide_eq_true ap2; have q216 : x5_4 < (l0_8.length : Int) := of_decide_eq_true ap2; obtain ⟨ad216, e216, hx216_0⟩ := Kd.at_string HR0_8.out x5_4 p216 q216; obtain rfl : ad214 = ad216 := (by injection e216); replace hx216_0 := (HB.out.cell (World.block_lt_of_cell? w _ hx216_0)).trans hx216_0; replace p216 := eq_true p216; replace q216 := eq_true q216
                   go_wp2
                   go_ret
                   exact ⟨ap4, beu HB.out⟩
                  ·rw [if_neg c45] at H
                   have c45b0 : ((rdOf ByteArray.empty l0_8 x5_4).toList == (rdOf ByteArray.empty l0_8 x59_3).toList) = false := beq_eq_false_iff_ne.mpr c45; have c45b1 : ((rdOf ByteArray.empty l0_8 x5_4).toList != (rdOf ByteArray.empty l0_8 x59_3).toList) = true := bne_iff_ne.mpr c45; have H' := am H; clear H; obtain ⟨_, _, _, _, _, _, _, _, _⟩ := cells9 BK209.out; obtain ⟨_, _, _, _, _, _, _, _, _⟩ := frozens9 BK209.out; have p216 : 0 ≤ (x5_4 : Int) := of_decide_eq_true ap2; have q216 : x5_4 < (l0_8.length : Int) := of_decide_eq_true ap2; obtain ⟨ad216, e216, hx216_0⟩ := Kd.at_string HR0_8.out x5_4 p216 q216; obtain rfl : ad214 = ad216 := (by injection e216); replace hx216_0 := (HB.out.cell (World.block_lt_of_cell? w _ hx216_0)).trans hx216_0; replace p216 := eq_true p216; replace q216 := eq_true q216
                   go_wp2
                   go_roundg k4
                   case measure => have := HJ1.out; have := HJ15.out; have := HK3.out; have := HK4.out; omega
                   case rel => exact ⟨(wrap64 (x5_4 + 1)), ap3, H', ⟨by have := HJ1.out; have := HJ15.out; have := HK3.out; have := HK4.out; omega⟩, ⟨by refine bu ?_; exact BK209.out⟩, ⟨beu HB.out⟩⟩
                 ·rw [if_neg c44] at H
                  exact absurd H (by simp)
                ·rw [if_neg c43] at H
                 exact absurd H (by simp)
               ·rw [if_neg c42] at H
                have c42b0 : decide (x5_4 < x59_3) = false := decide_eq_false c42; clear c42; have H' := am H; clear H
                go_wp2
                go_roundg k4
                case measure => have := HJ1.out; have := HJ15.out; have := HK3.out; have := HK4.out; omega
                case rel => exact ⟨(wrap64 (x59_3 + 1)), ap3, H', ⟨by have := HJ1.out; have := HJ15.out; have := HK3.out; have := HK4.out; omega⟩, ⟨by refine bu ?_; exact BK209.out⟩, ⟨beu HB.out⟩⟩
            ·replace c40 := Bool.eq_false_iff.mpr c40
             subst c40
             have H1 : (some false) = some r := by rw [if_neg (show ¬ (false = true) by decide)] at H; exact H
             clear H; have H := H1; clear H1; obtain rfl := Option.some.inj H; simp only [Option.some.injEq, Prod.mk.injEq] at H; obtain ⟨rfl⟩ := H; have p214 : 0 ≤ (x59_3 : Int) := of_decide_eq_true ap2; have q214 : x59_3 < (l0_8.length : Int) := of_decide_eq_true ap2; obtain ⟨ad214, e214, hx214_0⟩ := Kd.at_string HR0_8.out x59_3 p214 q214
             cases e214
             replace hx214_0 := (HB.out.cell (World.block_lt_of_cell? w _ hx214_0)).trans hx214_0; replace p214 := eq_true p214; replace q214 := eq_true q214
             go_wp2_with (first | ((with_reducible refine gate_callee (f := 40) rfl ?_); refine goesL_ (some 65) rfl rfl Tryd.func40 (by kernel_rfl) rfl #[.string (rdOf ByteArray.empty l0_8 x59_3)] rfl ap1 ?_; (with_reducible refine (packhorseref01_Right.calls k3 (rdOf ByteArray.empty l0_8 x59_3) false _ A39.out).mono ?_); rintro e w48 ⟨rfl, hb⟩; refine ⟨_, rfl, ?_⟩; have _ := am (blk_below (bu BK209.out) hb); have _ := am (below_step (beu HB.out) hb); clear BK209 HB; rename_i BK209 HB; (try clear hb)))
             go_ret
             exact ⟨ap4, beu HB.out⟩
           ·rw [if_neg c38] at H
            exact absurd H (by simp)
          ·rw [if_neg c37] at H
           exact absurd H (by simp)
         ·rw [if_neg c36] at H
          have c36b0 : decide (x59_3 < (l0_8.length : Int)) = false := decide_eq_false c36; clear c36; obtain rfl := Option.some.inj H; simp only [Option.some.injEq, Prod.mk.injEq] at H; obtain ⟨rfl⟩ := H
          go_wp2
          go_ret
          exact ⟨ap4, beu HB.out⟩
def packhorseref11_Caps.f (a0_0 : Int) (a0_1 : Int) : Option (Bool) := if a0_0 ≥ 1 then (if a0_0 ≤ 64 then (if a0_1 ≥ 1 then (some (decide (a0_1 ≤ 1000000000000))) else (some false)) else (some false)) else (some false)
set_option maxHeartbeats 8000000 in
set_option maxRecDepth 100000 in
theorem packhorseref11_Caps.calls (a0_0 : Int) (a0_1 : Int) (r : Bool) (w : World) (h : packhorseref11_Caps.f a0_0 a0_1 = some r) :
  Calls Tryd.prog 17 #[.agg #[.int .i64 a0_0, .int .i64 a0_1]] w fun e w' => e = .returned (.bool r) ∧ Below w.heap.size w w' := by
 have hu23 := Tryd.underlying23; have HB := am (Below.refl w.heap.size w); have H : (if a0_0 ≥ 1 then (if a0_0 ≤ 64 then (if a0_1 ≥ 1 then (some (decide (a0_1 ≤ 1000000000000))) else (some false)) else (some false)) else (some false)) = some r := h; clear h
 by_cases c2 : a0_0 ≥ 1
 ·rw [if_pos c2] at H
  have c2b0 : decide (1 ≤ a0_0) = true := decide_eq_true c2; clear c2
  by_cases c3 : a0_0 ≤ 64
  ·rw [if_pos c3] at H
   have c3b0 : decide (a0_0 ≤ 64) = true := decide_eq_true c3; clear c3
   by_cases c4 : a0_1 ≥ 1
   ·rw [if_pos c4] at H
    have c4b0 : decide (1 ≤ a0_1) = true := decide_eq_true c4; clear c4; obtain rfl := Option.some.inj H; simp only [Option.some.injEq, Prod.mk.injEq] at H; obtain ⟨rfl⟩ := H
    go_enter Tryd.func17, Tryd.ntmps17
    go_wp2_with (first | ((with_reducible refine gate_dst (N := 1) rfl ?_); refine box_event ?hg (N := 1) ?hd (cs := #[.int .i64 a0_0, .int .i64 a0_1]) (t := 23) ?hr ?_; (case hd => rfl); (case hg => rfl); (case hr => first | (go_simp; done) | (go_simp; rfl)); intro gb217 hg w5 hbox hb; have _ := am (below_step (beu HB.out) hb); have _ := am (hbox); have _ := am ((by rw [hg]; exact (below_size (beu HB.out)) : w.heap.size ≤ gb217)); have _ := am ((by rw [hg]; exact (below_size (beu HB.out)) : w.heap.size ≤ gb217)); clear HB; rename_i HB BK217 GW217 GE217; clear hb hbox hg; obtain ⟨_, _⟩ := cells2 BK217.out; obtain ⟨_, _⟩ := frozens2 BK217.out))
    go_ret
    exact ⟨ap4, beu HB.out⟩
   ·rw [if_neg c4] at H
    have c4b0 : decide (1 ≤ a0_1) = false := decide_eq_false c4; clear c4; obtain rfl := Option.some.inj H; simp only [Option.some.injEq, Prod.mk.injEq] at H; obtain ⟨rfl⟩ := H
    go_enter Tryd.func17, Tryd.ntmps17
    go_wp2_with (first | ((with_reducible refine gate_dst (N := 1) rfl ?_); refine box_event ?hg (N := 1) ?hd (cs := #[.int .i64 a0_0, .int .i64 a0_1]) (t := 23) ?hr ?_; (case hd => rfl); (case hg => rfl); (case hr => first | (go_simp; done) | (go_simp; rfl)); intro gb217 hg w7 hbox hb; have _ := am (below_step (beu HB.out) hb); have _ := am (hbox); have _ := am ((by rw [hg]; exact (below_size (beu HB.out)) : w.heap.size ≤ gb217)); have _ := am ((by rw [hg]; exact (below_size (beu HB.out)) : w.heap.size ≤ gb217)); clear HB; rename_i HB BK217 GW217 GE217; clear hb hbox hg; obtain ⟨hcz8_0, hcz8_1⟩ := cells2 BK217.out; obtain ⟨hfz8_0, hfz8_1⟩ := frozens2 BK217.out))
    go_ret
    exact ⟨ap4, beu HB.out⟩
  ·rw [if_neg c3] at H
   have c3b0 : decide (a0_0 ≤ 64) = false := decide_eq_false c3; clear c3; obtain rfl := Option.some.inj H; simp only [Option.some.injEq, Prod.mk.injEq] at H; obtain ⟨rfl⟩ := H
   go_enter Tryd.func17, Tryd.ntmps17
   go_wp2_with (first | ((with_reducible refine gate_dst (N := 1) rfl ?_); refine box_event ?hg (N := 1) ?hd (cs := #[.int .i64 a0_0, .int .i64 a0_1]) (t := 23) ?hr ?_; (case hd => rfl); (case hg => rfl); (case hr => first | (go_simp; done) | (go_simp; rfl)); intro gb217 hg w9 hbox hb; have _ := am (below_step (beu HB.out) hb); have _ := am (hbox); have _ := am ((by rw [hg]; exact (below_size (beu HB.out)) : w.heap.size ≤ gb217)); have _ := am ((by rw [hg]; exact (below_size (beu HB.out)) : w.heap.size ≤ gb217)); clear HB; rename_i HB BK217 GW217 GE217; clear hb hbox hg; obtain ⟨hcz10_0, hcz10_1⟩ := cells2 BK217.out; obtain ⟨hfz10_0, hfz10_1⟩ := frozens2 BK217.out))
   go_ret
   exact ⟨ap4, beu HB.out⟩
 ·rw [if_neg c2] at H
  have c2b0 : decide (1 ≤ a0_0) = false := decide_eq_false c2; clear c2; obtain rfl := Option.some.inj H; simp only [Option.some.injEq, Prod.mk.injEq] at H; obtain ⟨rfl⟩ := H
  go_enter Tryd.func17, Tryd.ntmps17
  go_wp2_with (first | ((with_reducible refine gate_dst (N := 1) rfl ?_); refine box_event ?hg (N := 1) ?hd (cs := #[.int .i64 a0_0, .int .i64 a0_1]) (t := 23) ?hr ?_; (case hd => rfl); (case hg => rfl); (case hr => first | (go_simp; done) | (go_simp; rfl)); intro gb217 hg w11 hbox hb; have _ := am (below_step (beu HB.out) hb); have _ := am (hbox); have _ := am ((by rw [hg]; exact (below_size (beu HB.out)) : w.heap.size ≤ gb217)); have _ := am ((by rw [hg]; exact (below_size (beu HB.out)) : w.heap.size ≤ gb217)); clear HB; rename_i HB BK217 GW217 GE217; clear hb hbox hg; obtain ⟨hcz12_0, hcz12_1⟩ := cells2 BK217.out; obtain ⟨hfz12_0, hfz12_1⟩ := frozens2 BK217.out))
  go_ret
  exact ⟨ap4, beu HB.out⟩
def packhorseref01_Same.l0 : Nat → List ByteArray → List ByteArray → Int → Int → Option (Bool)
 | 0, _, _, _, _ => none
 | k + 1, x0, x1, x12, x13 => if x13 < x12 then (if 0 ≤ x13 then (if x13 < (x0.length : Int) then (if x13 < (x1.length : Int) then (if (rdOf ByteArray.empty x0 x13).toList = (rdOf ByteArray.empty x1 x13).toList then (packhorseref01_Same.l0 k x0 x1 x12 (wrap64 (x13 + 1))) else (some false)) else (none)) else (none)) else (none)) else (some true)
def packhorseref01_Same.f (k : Nat) (l0 : List ByteArray) (l1 : List ByteArray) : Option (Bool) := if (l0.length : Int) = (l1.length : Int) then (packhorseref01_Same.l0 k l0 l1 (l0.length : Int) 0) else (some false)
set_option maxHeartbeats 8000000 in
set_option maxRecDepth 100000 in
theorem packhorseref01_Same.calls (k : Nat) (A0 : Option Addr) (c0 : Nat) (l0 : List ByteArray) (A1 : Option Addr) (c1 : Nat) (l1 : List ByteArray) (r : Bool) (w : World) (hr0 : Kd.C Kd.string w A0 l0.length l0) (hc0 : l0.length ≤ c0) (hr1 : Kd.C Kd.string w A1 l1.length l1) (hc1 : l1.length ≤ c1) (h : packhorseref01_Same.f k l0 l1 = some r) :
  Calls Tryd.prog 42 #[.slice A0 l0.length c0, .slice A1 l1.length c1] w fun e w' => e = .returned (.bool r) ∧ Drawn0 w w' := by
 have HR0 := am hr0; have HC0 := am hc0; clear hr0 hc0; have HR1 := am hr1; have HC1 := am hc1; clear hr1 hc1; have H : (if (l0.length : Int) = (l1.length : Int) then (packhorseref01_Same.l0 k l0 l1 (l0.length : Int) 0) else (some false)) = some r := h; clear h
 by_cases c3 : (l0.length : Int) = (l1.length : Int)
 ·rw [if_pos c3] at H
  have c3b0 : ((l0.length : Int) == (l1.length : Int)) = true := beq_iff_eq.mpr c3; have c3b1 : ((l0.length : Int) != (l1.length : Int)) = false := bne_eq_false_iff_eq.mpr c3
  have c3b2 : (l0.length == l1.length) = true := by first | simpa using c3 | (simp at c3 ⊢; omega)
  clear c3; have H' := am H; clear H
  go_enter Tryd.func42, Tryd.ntmps42
  go_wp2
  repeat (go_quiet (fail); try go_wp2)
  go_loopg [13] k (fun kq v13 w' => ∃ (x13_1 : Int), v13 = .int .i64 x13_1 ∧ Aside0 (packhorseref01_Same.l0 kq l0 l1 (l0.length : Int) x13_1 = some r) ∧ Aside0 (kq ≤ k) ∧ Drawn0 w w')
  case atStart => exact ⟨(0), ap3, H', ⟨Nat.le_refl _⟩, ap5⟩
  case round =>
   clear H'; (try clear c1); (try clear p2); (try clear c3); (try clear c3b0); (try clear c3b1); (try clear c3b2); obtain ⟨x13_1, rfl, HA, HK1, ⟨m1, rfl⟩⟩ := hrel
   cases gk with
   | zero => exact absurd HA.out (by simp [packhorseref01_Same.l0])
   | succ k1 =>
    have H := HA.out; clear HA; simp only [packhorseref01_Same.l0] at H
    by_cases c4 : x13_1 < (l0.length : Int)
    ·rw [if_pos c4] at H
     have c4b0 : decide (x13_1 < (l0.length : Int)) = true := decide_eq_true c4; clear c4
     by_cases c5 : 0 ≤ x13_1
     ·rw [if_pos c5] at H
      have c5b0 : decide (0 ≤ x13_1) = true := decide_eq_true c5; clear c5
      by_cases c6 : x13_1 < (l0.length : Int)
      ·rw [if_pos c6] at H
       have c6b0 : decide (x13_1 < (l0.length : Int)) = true := decide_eq_true c6; clear c6
       by_cases c7 : x13_1 < (l1.length : Int)
       ·rw [if_pos c7] at H
        have c7b0 : decide (x13_1 < (l1.length : Int)) = true := decide_eq_true c7; clear c7
        by_cases c8 : (rdOf ByteArray.empty l0 x13_1).toList = (rdOf ByteArray.empty l1 x13_1).toList
        ·rw [if_pos c8] at H
         have c8b0 : ((rdOf ByteArray.empty l0 x13_1).toList == (rdOf ByteArray.empty l1 x13_1).toList) = true := beq_iff_eq.mpr c8; have c8b1 : ((rdOf ByteArray.empty l0 x13_1).toList != (rdOf ByteArray.empty l1 x13_1).toList) = false := bne_eq_false_iff_eq.mpr c8; clear c8; have H' := am H; clear H; have p218 : 0 ≤ (x13_1 : Int) := of_decide_eq_true ap2; have q218 : x13_1 < (l0.length : Int) := of_decide_eq_true ap2; obtain ⟨ad218, e218, hx218_0⟩ := Kd.at_string HR0.out x13_1 p218 q218
         cases e218
         replace p218 := eq_true p218; replace q218 := eq_true q218; have p219 : 0 ≤ (x13_1 : Int) := of_decide_eq_true ap2; have q219 : x13_1 < (l1.length : Int) := of_decide_eq_true ap2; obtain ⟨ad219, e219, hx219_0⟩ := Kd.at_string HR1.out x13_1 p219 q219
         cases e219
         replace p219 := eq_true p219; replace q219 := eq_true q219
         go_wp2
         repeat (go_quiet (fail); try go_wp2)
         go_roundg k1
         case measure => have := HK1.out; omega
         case rel => exact ⟨(wrap64 (x13_1 + 1)), ap3, H', ⟨by have := HK1.out; omega⟩, ap5⟩
        ·rw [if_neg c8] at H
         have c8b0 : ((rdOf ByteArray.empty l0 x13_1).toList == (rdOf ByteArray.empty l1 x13_1).toList) = false := beq_eq_false_iff_ne.mpr c8; have c8b1 : ((rdOf ByteArray.empty l0 x13_1).toList != (rdOf ByteArray.empty l1 x13_1).toList) = true := bne_iff_ne.mpr c8; obtain rfl := Option.some.inj H; simp only [Option.some.injEq, Prod.mk.injEq] at H; obtain ⟨rfl⟩ := H; have p218 : 0 ≤ (x13_1 : Int) := of_decide_eq_true ap2; have q218 : x13_1 < (l0.length : Int) := of_decide_eq_true ap2; obtain ⟨ad218, e218, hx218_0⟩ := Kd.at_string HR0.out x13_1 p218 q218
         cases e218
         replace p218 := eq_true p218; replace q218 := eq_true q218; have p219 : 0 ≤ (x13_1 : Int) := of_decide_eq_true ap2; have q219 : x13_1 < (l1.length : Int) := of_decide_eq_true ap2; obtain ⟨ad219, e219, hx219_0⟩ := Kd.at_string HR1.out x13_1 p219 q219
         cases e219
         replace p219 := eq_true p219; replace q219 := eq_true q219
         go_wp2
         repeat (go_quiet (fail); try go_wp2)
         go_ret
         exact ⟨ap3, ap5⟩
       ·rw [if_neg c7] at H
        exact absurd H (by simp)
      ·rw [if_neg c6] at H
       exact absurd H (by simp)
     ·rw [if_neg c5] at H
      exact absurd H (by simp)
    ·rw [if_neg c4] at H
     have c4b0 : decide (x13_1 < (l0.length : Int)) = false := decide_eq_false c4; clear c4; obtain rfl := Option.some.inj H; simp only [Option.some.injEq, Prod.mk.injEq] at H; obtain ⟨rfl⟩ := H
     go_wp2
     repeat (go_quiet (fail); try go_wp2)
     go_ret
     exact ⟨ap3, ap5⟩
 ·rw [if_neg c3] at H
  have c3b0 : ((l0.length : Int) == (l1.length : Int)) = false := beq_eq_false_iff_ne.mpr c3; have c3b1 : ((l0.length : Int) != (l1.length : Int)) = true := bne_iff_ne.mpr c3
  have c3b2 : (l0.length == l1.length) = false := by first | simpa using c3 | (simp at c3 ⊢; omega)
  obtain rfl := Option.some.inj H; simp only [Option.some.injEq, Prod.mk.injEq] at H; obtain ⟨rfl⟩ := H
  go_enter Tryd.func42, Tryd.ntmps42
  go_wp2
  repeat (go_quiet (fail); try go_wp2)
  go_ret
  exact ⟨ap3, ap5⟩
def packhorseref11_Same.f (k : Nat) (a0_0 : Int) (a0_1 : Int) (a0_2 : Int) (a0_3 : Int) (a0_4 : Int) (a0_5 : ByteArray) (a0_6 : ByteArray) (a0_7 : ByteArray) (l0_8 : List ByteArray) (a1_0 : Int) (a1_1 : Int) (a1_2 : Int) (a1_3 : Int) (a1_4 : Int) (a1_5 : ByteArray) (a1_6 : ByteArray) (a1_7 : ByteArray) (l1_8 : List ByteArray) : Option (Bool) := if a0_0 = a1_0 then (if a0_1 = a1_1 then (if a0_2 = a1_2 then (if a0_3 = a1_3 then (if a0_4 = a1_4 then (if (a0_5.toList == a1_5.toList && (a0_6.toList == a1_6.toList && (a0_7.toList == a1_7.toList))) = true then ((packhorseref01_Same.f k l0_8 l1_8).bind fun t222 => (some t222)) else (some false)) else (some false)) else (some false)) else (some false)) else (some false)) else (some false)
set_option maxHeartbeats 8000000 in
set_option maxRecDepth 100000 in
theorem packhorseref11_Same.calls (k : Nat) (a0_0 : Int) (a0_1 : Int) (a0_2 : Int) (a0_3 : Int) (a0_4 : Int) (a0_5 : ByteArray) (a0_6 : ByteArray) (a0_7 : ByteArray) (A0_8 : Option Addr) (c0_8 : Nat) (l0_8 : List ByteArray) (a1_0 : Int) (a1_1 : Int) (a1_2 : Int) (a1_3 : Int) (a1_4 : Int) (a1_5 : ByteArray) (a1_6 : ByteArray) (a1_7 : ByteArray) (A1_8 : Option Addr) (c1_8 : Nat) (l1_8 : List ByteArray) (r : Bool) (w : World) (hr0_8 : Kd.C Kd.string w A0_8 l0_8.length l0_8) (hc0_8 : l0_8.length ≤ c0_8) (hr1_8 : Kd.C Kd.string w A1_8 l1_8.length l1_8) (hc1_8 : l1_8.length ≤ c1_8) (h : packhorseref11_Same.f k a0_0 a0_1 a0_2 a0_3 a0_4 a0_5 a0_6 a0_7 l0_8 a1_0 a1_1 a1_2 a1_3 a1_4 a1_5 a1_6 a1_7 l1_8 = some r) :
  Calls Tryd.prog 19 #[.agg #[.int .i64 a0_0, .int .i64 a0_1, .int .i64 a0_2, .int .i64 a0_3, .int .i64 a0_4, .string a0_5, .string a0_6, .string a0_7, .slice A0_8 l0_8.length c0_8], .agg #[.int .i64 a1_0, .int .i64 a1_1, .int .i64 a1_2, .int .i64 a1_3, .int .i64 a1_4, .string a1_5, .string a1_6, .string a1_7, .slice A1_8 l1_8.length c1_8]] w fun e w' => e = .returned (.bool r) ∧ Below w.heap.size w w' := by
 have hu31 := Tryd.underlying31; have hu28 := Tryd.underlying28; have HR0_8 := am hr0_8; have HC0_8 := am hc0_8; clear hr0_8 hc0_8; have HR1_8 := am hr1_8; have HC1_8 := am hc1_8; clear hr1_8 hc1_8; have HB := am (Below.refl w.heap.size w); have H : (if a0_0 = a1_0 then (if a0_1 = a1_1 then (if a0_2 = a1_2 then (if a0_3 = a1_3 then (if a0_4 = a1_4 then (if (a0_5.toList == a1_5.toList && (a0_6.toList == a1_6.toList && (a0_7.toList == a1_7.toList))) = true then ((packhorseref01_Same.f k l0_8 l1_8).bind fun t222 => (some t222)) else (some false)) else (some false)) else (some false)) else (some false)) else (some false)) else (some false)) = some r := h; clear h
 by_cases c3 : a0_0 = a1_0
 ·rw [if_pos c3] at H
  have c3b0 : (a0_0 == a1_0) = true := beq_iff_eq.mpr c3; have c3b1 : (a0_0 != a1_0) = false := bne_eq_false_iff_eq.mpr c3; clear c3
  by_cases c4 : a0_1 = a1_1
  ·rw [if_pos c4] at H
   have c4b0 : (a0_1 == a1_1) = true := beq_iff_eq.mpr c4; have c4b1 : (a0_1 != a1_1) = false := bne_eq_false_iff_eq.mpr c4; clear c4
   by_cases c5 : a0_2 = a1_2
   ·rw [if_pos c5] at H
    have c5b0 : (a0_2 == a1_2) = true := beq_iff_eq.mpr c5; have c5b1 : (a0_2 != a1_2) = false := bne_eq_false_iff_eq.mpr c5; clear c5
    by_cases c6 : a0_3 = a1_3
    ·rw [if_pos c6] at H
     have c6b0 : (a0_3 == a1_3) = true := beq_iff_eq.mpr c6; have c6b1 : (a0_3 != a1_3) = false := bne_eq_false_iff_eq.mpr c6; clear c6
     by_cases c7 : a0_4 = a1_4
     ·rw [if_pos c7] at H
      have c7b0 : (a0_4 == a1_4) = true := beq_iff_eq.mpr c7; have c7b1 : (a0_4 != a1_4) = false := bne_eq_false_iff_eq.mpr c7; clear c7
      by_cases c8 : (a0_5.toList == a1_5.toList && (a0_6.toList == a1_6.toList && (a0_7.toList == a1_7.toList))) = true
      ·rw [if_pos c8] at H
       have c8b0 : (a0_5.toList == a1_5.toList && (a0_6.toList == a1_6.toList && (a0_7.toList == a1_7.toList))) = true := c8
       (try (have c8b1 : decide (a0_5.toList = a1_5.toList && (a0_6.toList == a1_6.toList && (a0_7.toList == a1_7.toList))) = true := by simpa using c8))
       (try (have c8b2 : (a0_5.toList == a1_5.toList && (a0_6.toList == a1_6.toList && (a0_7.toList == a1_7.toList))) = true := by simpa using c8))
       clear c8; replace H := obm H; obtain ⟨t222, A90, H⟩ := H; replace H : (some t222) = some r := H; have A9 := am A90; clear A90; obtain rfl := Option.some.inj H; simp only [Option.some.injEq, Prod.mk.injEq] at H; obtain ⟨rfl⟩ := H
       go_enter Tryd.func19, Tryd.ntmps19
       go_wp2_with (first | ((with_reducible refine gate_dst (N := 2) rfl ?_); refine box_event ?hg (N := 2) ?hd (cs := #[.int .i64 a0_0, .int .i64 a0_1, .int .i64 a0_2, .int .i64 a0_3, .int .i64 a0_4, .string a0_5, .string a0_6, .string a0_7, .slice A0_8 l0_8.length c0_8]) (t := 31) ?hr ?_; (case hd => rfl); (case hg => rfl); (case hr => first | (go_simp; done) | (go_simp; rfl)); intro gb220 hg w10 hbox hb; have _ := am (below_step (beu HB.out) hb); have _ := am (hbox); have _ := am ((by rw [hg]; exact (below_size (beu HB.out)) : w.heap.size ≤ gb220)); have _ := am ((by rw [hg]; exact (below_size (beu HB.out)) : w.heap.size ≤ gb220)); clear HB; rename_i HB BK220 GW220 GE220; clear hb hbox hg) | ((with_reducible refine gate_dst (N := 3) rfl ?_); refine box_event ?hg (N := 3) ?hd (cs := #[.int .i64 a1_0, .int .i64 a1_1, .int .i64 a1_2, .int .i64 a1_3, .int .i64 a1_4, .string a1_5, .string a1_6, .string a1_7, .slice A1_8 l1_8.length c1_8]) (t := 31) ?hr ?_; (case hd => rfl); (case hg => rfl); (case hr => first | (go_simp; done) | (go_simp; rfl)); intro gb221 hg w11 hbox hb; have _ := am (blk_below (bu BK220.out) hb); have _ := am (below_step (beu HB.out) hb); have _ := am (hbox); have _ := am ((by rw [hg]; exact (below_size (beu HB.out)) : w.heap.size ≤ gb221)); have _ := am ((by rw [hg]; exact (below_size (beu HB.out)) : w.heap.size ≤ gb221)); have _ := am (nb1 hg BK220.out : gb220 ≠ gb221); have _ := am (nb2 hg BK220.out : gb221 ≠ gb220); clear BK220 HB; rename_i BK220 HB BK221 GW221 GE221 NB220_221 NB221_220; clear hb hbox hg; have := NB220_221.out; have := NB221_220.out; obtain ⟨hcz13_0, hcz13_1, hcz13_2, hcz13_3, hcz13_4, hcz13_5, hcz13_6, hcz13_7, hcz13_8⟩ := cells9 BK220.out; obtain ⟨hfz13_0, hfz13_1, hfz13_2, hfz13_3, hfz13_4, hfz13_5, hfz13_6, hfz13_7, hfz13_8⟩ := frozens9 BK220.out; obtain ⟨hcz14_0, hcz14_1, hcz14_2, hcz14_3, hcz14_4, hcz14_5, hcz14_6, hcz14_7, hcz14_8⟩ := cells9 BK221.out; obtain ⟨hfz14_0, hfz14_1, hfz14_2, hfz14_3, hfz14_4, hfz14_5, hfz14_6, hfz14_7, hfz14_8⟩ := frozens9 BK221.out) | (go_at_call 42; (with_reducible refine (packhorseref01_Same.calls k _ _ l0_8 _ _ l1_8 t222 _ ?side1 ?side2 ?side3 ?side4 A9.out).mono ?_); (case side1 => exact cu (Kd.C_below HR0_8.out HB.out)); (case side2 => exact HC0_8.out); (case side3 => exact cu (Kd.C_below HR1_8.out HB.out)); (case side4 => exact HC1_8.out); rintro e w' ⟨rfl, ⟨nd, rfl⟩⟩))
       go_ret
       exact ⟨ap4, beu HB.out⟩
      ·rw [if_neg c8] at H
       have c8b0 : (a0_5.toList == a1_5.toList && (a0_6.toList == a1_6.toList && (a0_7.toList == a1_7.toList))) = false := by simpa using c8
       (try (have c8b1 : decide (a0_5.toList = a1_5.toList && (a0_6.toList == a1_6.toList && (a0_7.toList == a1_7.toList))) = false := by simpa using c8))
       (try (have c8b2 : (a0_5.toList == a1_5.toList && (a0_6.toList == a1_6.toList && (a0_7.toList == a1_7.toList))) = false := by simpa using c8))
       (try (have c8b3 : ¬ (a0_5.toList = a1_5.toList && (a0_6.toList == a1_6.toList && (a0_7.toList == a1_7.toList))) := by simpa using c8))
       clear c8; obtain rfl := Option.some.inj H; simp only [Option.some.injEq, Prod.mk.injEq] at H; obtain ⟨rfl⟩ := H
       go_enter Tryd.func19, Tryd.ntmps19
       go_wp2_with (first | ((with_reducible refine gate_dst (N := 2) rfl ?_); refine box_event ?hg (N := 2) ?hd (cs := #[.int .i64 a0_0, .int .i64 a0_1, .int .i64 a0_2, .int .i64 a0_3, .int .i64 a0_4, .string a0_5, .string a0_6, .string a0_7, .slice A0_8 l0_8.length c0_8]) (t := 31) ?hr ?_; (case hd => rfl); (case hg => rfl); (case hr => first | (go_simp; done) | (go_simp; rfl)); intro gb220 hg w15 hbox hb; have _ := am (below_step (beu HB.out) hb); have _ := am (hbox); have _ := am ((by rw [hg]; exact (below_size (beu HB.out)) : w.heap.size ≤ gb220)); have _ := am ((by rw [hg]; exact (below_size (beu HB.out)) : w.heap.size ≤ gb220)); clear HB; rename_i HB BK220 GW220 GE220; clear hb hbox hg) | ((with_reducible refine gate_dst (N := 3) rfl ?_); refine box_event ?hg (N := 3) ?hd (cs := #[.int .i64 a1_0, .int .i64 a1_1, .int .i64 a1_2, .int .i64 a1_3, .int .i64 a1_4, .string a1_5, .string a1_6, .string a1_7, .slice A1_8 l1_8.length c1_8]) (t := 31) ?hr ?_; (case hd => rfl); (case hg => rfl); (case hr => first | (go_simp; done) | (go_simp; rfl)); intro gb221 hg w16 hbox hb; have _ := am (blk_below (bu BK220.out) hb); have _ := am (below_step (beu HB.out) hb); have _ := am (hbox); have _ := am ((by rw [hg]; exact (below_size (beu HB.out)) : w.heap.size ≤ gb221)); have _ := am ((by rw [hg]; exact (below_size (beu HB.out)) : w.heap.size ≤ gb221)); have _ := am (nb1 hg BK220.out : gb220 ≠ gb221); have _ := am (nb2 hg BK220.out : gb221 ≠ gb220); clear BK220 HB; rename_i BK220 HB BK221 GW221 GE221 NB220_221 NB221_220; clear hb hbox hg; have := NB220_221.out; have := NB221_220.out; obtain ⟨_, _, _, _, _, _, _, _, _⟩ := cells9 BK220.out; obtain ⟨_, _, _, _, _, _, _, _, _⟩ := frozens9 BK220.out; obtain ⟨hcz19_0, hcz19_1, hcz19_2, hcz19_3, hcz19_4, hcz19_5, hcz19_6, hcz19_7, hcz19_8⟩ := cells9 BK221.out; obtain ⟨hfz19_0, hfz19_1, hfz19_2, hfz19_3, hfz19_4, hfz19_5, hfz19_6, hfz19_7, hfz19_8⟩ := frozens9 BK221.out))
       go_ret
       exact ⟨ap4, beu HB.out⟩
     ·rw [if_neg c7] at H
      have c7b0 : (a0_4 == a1_4) = false := beq_eq_false_iff_ne.mpr c7; have c7b1 : (a0_4 != a1_4) = true := bne_iff_ne.mpr c7; obtain rfl := Option.some.inj H; simp only [Option.some.injEq, Prod.mk.injEq] at H; obtain ⟨rfl⟩ := H
      go_enter Tryd.func19, Tryd.ntmps19
      go_wp2_with (first | ((with_reducible refine gate_dst (N := 2) rfl ?_); refine box_event ?hg (N := 2) ?hd (cs := #[.int .i64 a0_0, .int .i64 a0_1, .int .i64 a0_2, .int .i64 a0_3, .int .i64 a0_4, .string a0_5, .string a0_6, .string a0_7, .slice A0_8 l0_8.length c0_8]) (t := 31) ?hr ?_; (case hd => rfl); (case hg => rfl); (case hr => first | (go_simp; done) | (go_simp; rfl)); intro gb220 hg w20 hbox hb; have _ := am (below_step (beu HB.out) hb); have _ := am (hbox); have _ := am ((by rw [hg]; exact (below_size (beu HB.out)) : w.heap.size ≤ gb220)); have _ := am ((by rw [hg]; exact (below_size (beu HB.out)) : w.heap.size ≤ gb220)); clear HB; rename_i HB BK220 GW220 GE220; clear hb hbox hg) | ((with_reducible refine gate_dst (N := 3) rfl ?_); refine box_event ?hg (N := 3) ?hd (cs := #[.int .i64 a1_0, .int .i64 a1_1, .int .i64 a1_2, .int .i64 a1_3, .int .i64 a1_4, .string a1_5, .string a1_6, .string a1_7, .slice A1_8 l1_8.length c1_8]) (t := 31) ?hr ?_; (case hd => rfl); (case hg => rfl); (case hr => first | (go_simp; done) | (go_simp; rfl)); intro gb221 hg w21 hbox hb; have _ := am (blk_below (bu BK220.out) hb); have _ := am (below_step (beu HB.out) hb); have _ := am (hbox); have _ := am ((by rw [hg]; exact (below_size (beu HB.out)) : w.heap.size ≤ gb221)); have _ := am ((by rw [hg]; exact (below_size (beu HB.out)) : w.heap.size ≤ gb221)); have _ := am (nb1 hg BK220.out : gb220 ≠ gb221); have _ := am (nb2 hg BK220.out : gb221 ≠ gb220); clear BK220 HB; rename_i BK220 HB BK221 GW221 GE221 NB220_221 NB221_220; clear hb hbox hg; have := NB220_221.out; have := NB221_220.out; obtain ⟨hcz23_0, hcz23_1, hcz23_2, hcz23_3, hcz23_4, hcz23_5, hcz23_6, hcz23_7, hcz23_8⟩ := cells9 BK220.out; obtain ⟨hfz23_0, hfz23_1, hfz23_2, hfz23_3, hfz23_4, hfz23_5, hfz23_6, hfz23_7, hfz23_8⟩ := frozens9 BK220.out; obtain ⟨_, _, _, _, _, _, _, _, _⟩ := cells9 BK221.out; obtain ⟨_, _, _, _, _, _, _, _, _⟩ := frozens9 BK221.out))
      go_ret
      exact ⟨ap4, beu HB.out⟩
    ·rw [if_neg c6] at H
     have c6b0 : (a0_3 == a1_3) = false := beq_eq_false_iff_ne.mpr c6; have c6b1 : (a0_3 != a1_3) = true := bne_iff_ne.mpr c6; obtain rfl := Option.some.inj H; simp only [Option.some.injEq, Prod.mk.injEq] at H; obtain ⟨rfl⟩ := H
     go_enter Tryd.func19, Tryd.ntmps19
     go_wp2_with (first | ((with_reducible refine gate_dst (N := 2) rfl ?_); refine box_event ?hg (N := 2) ?hd (cs := #[.int .i64 a0_0, .int .i64 a0_1, .int .i64 a0_2, .int .i64 a0_3, .int .i64 a0_4, .string a0_5, .string a0_6, .string a0_7, .slice A0_8 l0_8.length c0_8]) (t := 31) ?hr ?_; (case hd => rfl); (case hg => rfl); (case hr => first | (go_simp; done) | (go_simp; rfl)); intro gb220 hg w25 hbox hb; have _ := am (below_step (beu HB.out) hb); have _ := am (hbox); have _ := am ((by rw [hg]; exact (below_size (beu HB.out)) : w.heap.size ≤ gb220)); have _ := am ((by rw [hg]; exact (below_size (beu HB.out)) : w.heap.size ≤ gb220)); clear HB; rename_i HB BK220 GW220 GE220; clear hb hbox hg) | ((with_reducible refine gate_dst (N := 3) rfl ?_); refine box_event ?hg (N := 3) ?hd (cs := #[.int .i64 a1_0, .int .i64 a1_1, .int .i64 a1_2, .int .i64 a1_3, .int .i64 a1_4, .string a1_5, .string a1_6, .string a1_7, .slice A1_8 l1_8.length c1_8]) (t := 31) ?hr ?_; (case hd => rfl); (case hg => rfl); (case hr => first | (go_simp; done) | (go_simp; rfl)); intro gb221 hg w26 hbox hb; have _ := am (blk_below (bu BK220.out) hb); have _ := am (below_step (beu HB.out) hb); have _ := am (hbox); have _ := am ((by rw [hg]; exact (below_size (beu HB.out)) : w.heap.size ≤ gb221)); have _ := am ((by rw [hg]; exact (below_size (beu HB.out)) : w.heap.size ≤ gb221)); have _ := am (nb1 hg BK220.out : gb220 ≠ gb221); have _ := am (nb2 hg BK220.out : gb221 ≠ gb220); clear BK220 HB; rename_i BK220 HB BK221 GW221 GE221 NB220_221 NB221_220; clear hb hbox hg; have := NB220_221.out; have := NB221_220.out; obtain ⟨_, _, _, _, _, _, _, _, _⟩ := cells9 BK220.out; obtain ⟨_, _, _, _, _, _, _, _, _⟩ := frozens9 BK220.out; obtain ⟨hcz29_0, hcz29_1, hcz29_2, hcz29_3, hcz29_4, hcz29_5, hcz29_6, hcz29_7, hcz29_8⟩ := cells9 BK221.out; obtain ⟨hfz29_0, hfz29_1, hfz29_2, hfz29_3, hfz29_4, hfz29_5, hfz29_6, hfz29_7, hfz29_8⟩ := frozens9 BK221.out))
     go_ret
     exact ⟨ap4, beu HB.out⟩
   ·rw [if_neg c5] at H
    have c5b0 : (a0_2 == a1_2) = false := beq_eq_false_iff_ne.mpr c5; have c5b1 : (a0_2 != a1_2) = true := bne_iff_ne.mpr c5; obtain rfl := Option.some.inj H; simp only [Option.some.injEq, Prod.mk.injEq] at H; obtain ⟨rfl⟩ := H
    go_enter Tryd.func19, Tryd.ntmps19
    go_wp2_with (first | ((with_reducible refine gate_dst (N := 2) rfl ?_); refine box_event ?hg (N := 2) ?hd (cs := #[.int .i64 a0_0, .int .i64 a0_1, .int .i64 a0_2, .int .i64 a0_3, .int .i64 a0_4, .string a0_5, .string a0_6, .string a0_7, .slice A0_8 l0_8.length c0_8]) (t := 31) ?hr ?_; (case hd => rfl); (case hg => rfl); (case hr => first | (go_simp; done) | (go_simp; rfl)); intro gb220 hg w30 hbox hb; have _ := am (below_step (beu HB.out) hb); have _ := am (hbox); have _ := am ((by rw [hg]; exact (below_size (beu HB.out)) : w.heap.size ≤ gb220)); have _ := am ((by rw [hg]; exact (below_size (beu HB.out)) : w.heap.size ≤ gb220)); clear HB; rename_i HB BK220 GW220 GE220; clear hb hbox hg) | ((with_reducible refine gate_dst (N := 3) rfl ?_); refine box_event ?hg (N := 3) ?hd (cs := #[.int .i64 a1_0, .int .i64 a1_1, .int .i64 a1_2, .int .i64 a1_3, .int .i64 a1_4, .string a1_5, .string a1_6, .string a1_7, .slice A1_8 l1_8.length c1_8]) (t := 31) ?hr ?_; (case hd => rfl); (case hg => rfl); (case hr => first | (go_simp; done) | (go_simp; rfl)); intro gb221 hg w31 hbox hb; have _ := am (blk_below (bu BK220.out) hb); have _ := am (below_step (beu HB.out) hb); have _ := am (hbox); have _ := am ((by rw [hg]; exact (below_size (beu HB.out)) : w.heap.size ≤ gb221)); have _ := am ((by rw [hg]; exact (below_size (beu HB.out)) : w.heap.size ≤ gb221)); have _ := am (nb1 hg BK220.out : gb220 ≠ gb221); have _ := am (nb2 hg BK220.out : gb221 ≠ gb220); clear BK220 HB; rename_i BK220 HB BK221 GW221 GE221 NB220_221 NB221_220; clear hb hbox hg; have := NB220_221.out; have := NB221_220.out; obtain ⟨hcz33_0, hcz33_1, hcz33_2, hcz33_3, hcz33_4, hcz33_5, hcz33_6, hcz33_7, hcz33_8⟩ := cells9 BK220.out; obtain ⟨hfz33_0, hfz33_1, hfz33_2, hfz33_3, hfz33_4, hfz33_5, hfz33_6, hfz33_7, hfz33_8⟩ := frozens9 BK220.out; obtain ⟨_, _, _, _, _, _, _, _, _⟩ := cells9 BK221.out; obtain ⟨_, _, _, _, _, _, _, _, _⟩ := frozens9 BK221.out))
    go_ret
    exact ⟨ap4, beu HB.out⟩
  ·rw [if_neg c4] at H
   have c4b0 : (a0_1 == a1_1) = false := beq_eq_false_iff_ne.mpr c4; have c4b1 : (a0_1 != a1_1) = true := bne_iff_ne.mpr c4; obtain rfl := Option.some.inj H; simp only [Option.some.injEq, Prod.mk.injEq] at H; obtain ⟨rfl⟩ := H
   go_enter Tryd.func19, Tryd.ntmps19
   go_wp2_with (first | ((with_reducible refine gate_dst (N := 2) rfl ?_); refine box_event ?hg (N := 2) ?hd (cs := #[.int .i64 a0_0, .int .i64 a0_1, .int .i64 a0_2, .int .i64 a0_3, .int .i64 a0_4, .string a0_5, .string a0_6, .string a0_7, .slice A0_8 l0_8.length c0_8]) (t := 31) ?hr ?_; (case hd => rfl); (case hg => rfl); (case hr => first | (go_simp; done) | (go_simp; rfl)); intro gb220 hg w35 hbox hb; have _ := am (below_step (beu HB.out) hb); have _ := am (hbox); have _ := am ((by rw [hg]; exact (below_size (beu HB.out)) : w.heap.size ≤ gb220)); have _ := am ((by rw [hg]; exact (below_size (beu HB.out)) : w.heap.size ≤ gb220)); clear HB; rename_i HB BK220 GW220 GE220; clear hb hbox hg) | ((with_reducible refine gate_dst (N := 3) rfl ?_); refine box_event ?hg (N := 3) ?hd (cs := #[.int .i64 a1_0, .int .i64 a1_1, .int .i64 a1_2, .int .i64 a1_3, .int .i64 a1_4, .string a1_5, .string a1_6, .string a1_7, .slice A1_8 l1_8.length c1_8]) (t := 31) ?hr ?_; (case hd => rfl); (case hg => rfl); (case hr => first | (go_simp; done) | (go_simp; rfl)); intro gb221 hg w36 hbox hb; have _ := am (blk_below (bu BK220.out) hb); have _ := am (below_step (beu HB.out) hb); have _ := am (hbox); have _ := am ((by rw [hg]; exact (below_size (beu HB.out)) : w.heap.size ≤ gb221)); have _ := am ((by rw [hg]; exact (below_size (beu HB.out)) : w.heap.size ≤ gb221)); have _ := am (nb1 hg BK220.out : gb220 ≠ gb221); have _ := am (nb2 hg BK220.out : gb221 ≠ gb220); clear BK220 HB; rename_i BK220 HB BK221 GW221 GE221 NB220_221 NB221_220; clear hb hbox hg; have := NB220_221.out; have := NB221_220.out; obtain ⟨_, _, _, _, _, _, _, _, _⟩ := cells9 BK220.out; obtain ⟨_, _, _, _, _, _, _, _, _⟩ := frozens9 BK220.out; obtain ⟨_, _, _, _, _, _, _, _, _⟩ := cells9 BK221.out; obtain ⟨_, _, _, _, _, _, _, _, _⟩ := frozens9 BK221.out))
   go_ret
   exact ⟨ap4, beu HB.out⟩
 ·rw [if_neg c3] at H
  have c3b0 : (a0_0 == a1_0) = false := beq_eq_false_iff_ne.mpr c3; have c3b1 : (a0_0 != a1_0) = true := bne_iff_ne.mpr c3; obtain rfl := Option.some.inj H; simp only [Option.some.injEq, Prod.mk.injEq] at H; obtain ⟨rfl⟩ := H
  go_enter Tryd.func19, Tryd.ntmps19
  go_wp2_with (first | ((with_reducible refine gate_dst (N := 2) rfl ?_); refine box_event ?hg (N := 2) ?hd (cs := #[.int .i64 a0_0, .int .i64 a0_1, .int .i64 a0_2, .int .i64 a0_3, .int .i64 a0_4, .string a0_5, .string a0_6, .string a0_7, .slice A0_8 l0_8.length c0_8]) (t := 31) ?hr ?_; (case hd => rfl); (case hg => rfl); (case hr => first | (go_simp; done) | (go_simp; rfl)); intro gb220 hg w40 hbox hb; have _ := am (below_step (beu HB.out) hb); have _ := am (hbox); have _ := am ((by rw [hg]; exact (below_size (beu HB.out)) : w.heap.size ≤ gb220)); have _ := am ((by rw [hg]; exact (below_size (beu HB.out)) : w.heap.size ≤ gb220)); clear HB; rename_i HB BK220 GW220 GE220; clear hb hbox hg) | ((with_reducible refine gate_dst (N := 3) rfl ?_); refine box_event ?hg (N := 3) ?hd (cs := #[.int .i64 a1_0, .int .i64 a1_1, .int .i64 a1_2, .int .i64 a1_3, .int .i64 a1_4, .string a1_5, .string a1_6, .string a1_7, .slice A1_8 l1_8.length c1_8]) (t := 31) ?hr ?_; (case hd => rfl); (case hg => rfl); (case hr => first | (go_simp; done) | (go_simp; rfl)); intro gb221 hg w41 hbox hb; have _ := am (blk_below (bu BK220.out) hb); have _ := am (below_step (beu HB.out) hb); have _ := am (hbox); have _ := am ((by rw [hg]; exact (below_size (beu HB.out)) : w.heap.size ≤ gb221)); have _ := am ((by rw [hg]; exact (below_size (beu HB.out)) : w.heap.size ≤ gb221)); have _ := am (nb1 hg BK220.out : gb220 ≠ gb221); have _ := am (nb2 hg BK220.out : gb221 ≠ gb220); clear BK220 HB; rename_i BK220 HB BK221 GW221 GE221 NB220_221 NB221_220; clear hb hbox hg; have := NB220_221.out; have := NB221_220.out; obtain ⟨_, _, _, _, _, _, _, _, _⟩ := cells9 BK220.out; obtain ⟨_, _, _, _, _, _, _, _, _⟩ := frozens9 BK220.out; obtain ⟨_, _, _, _, _, _, _, _, _⟩ := cells9 BK221.out; obtain ⟨_, _, _, _, _, _, _, _, _⟩ := frozens9 BK221.out))
  go_ret
  exact ⟨ap4, beu HB.out⟩
def packhorseref11_Has.l0 : Nat → ByteArray → List ByteArray → Int → Int → Option (Bool)
 | 0, _, _, _, _ => none
 | k + 1, x1, x8, x9, x10 => if x10 < x9 then (if 0 ≤ x10 then (if x10 < (x8.length : Int) then (if (rdOf ByteArray.empty x8 x10).toList = x1.toList then (some true) else (packhorseref11_Has.l0 k x1 x8 x9 (wrap64 (x10 + 1)))) else (none)) else (none)) else (some false)
def packhorseref11_Has.f (k : Nat) (a0_0 : Int) (a0_1 : Int) (a0_2 : Int) (a0_3 : Int) (a0_4 : Int) (a0_5 : ByteArray) (a0_6 : ByteArray) (a0_7 : ByteArray) (l0_8 : List ByteArray) (a1 : ByteArray) : Option (Bool) := packhorseref11_Has.l0 k a1 l0_8 (l0_8.length : Int) 0
set_option maxHeartbeats 8000000 in
set_option maxRecDepth 100000 in
theorem packhorseref11_Has.calls (k : Nat) (a0_0 : Int) (a0_1 : Int) (a0_2 : Int) (a0_3 : Int) (a0_4 : Int) (a0_5 : ByteArray) (a0_6 : ByteArray) (a0_7 : ByteArray) (A0_8 : Option Addr) (c0_8 : Nat) (l0_8 : List ByteArray) (a1 : ByteArray) (r : Bool) (w : World) (hr0_8 : Kd.C Kd.string w A0_8 l0_8.length l0_8) (hc0_8 : l0_8.length ≤ c0_8) (h : packhorseref11_Has.f k a0_0 a0_1 a0_2 a0_3 a0_4 a0_5 a0_6 a0_7 l0_8 a1 = some r) :
  Calls Tryd.prog 43 #[.agg #[.int .i64 a0_0, .int .i64 a0_1, .int .i64 a0_2, .int .i64 a0_3, .int .i64 a0_4, .string a0_5, .string a0_6, .string a0_7, .slice A0_8 l0_8.length c0_8], .string a1] w fun e w' => e = .returned (.bool r) ∧ Below w.heap.size w w' := by
 have hu31 := Tryd.underlying31; have HR0_8 := am hr0_8; have HC0_8 := am hc0_8; clear hr0_8 hc0_8; have HB := am (Below.refl w.heap.size w); have H : (packhorseref11_Has.l0 k a1 l0_8 (l0_8.length : Int) 0) = some r := h; clear h; have H' := am H; clear H
 go_enter Tryd.func43, Tryd.ntmps43
 go_wp2_with (first | ((with_reducible refine gate_dst (N := 2) rfl ?_); refine box_event ?hg (N := 2) ?hd (cs := #[.int .i64 a0_0, .int .i64 a0_1, .int .i64 a0_2, .int .i64 a0_3, .int .i64 a0_4, .string a0_5, .string a0_6, .string a0_7, .slice A0_8 l0_8.length c0_8]) (t := 31) ?hr ?_; (case hd => rfl); (case hg => rfl); (case hr => first | (go_simp; done) | (go_simp; rfl)); intro gb223 hg w3 hbox hb; have _ := am (below_step (beu HB.out) hb); have _ := am (hbox); have _ := am ((by rw [hg]; exact (below_size (beu HB.out)) : w.heap.size ≤ gb223)); have _ := am ((by rw [hg]; exact (below_size (beu HB.out)) : w.heap.size ≤ gb223)); clear HB; rename_i HB BK223 GW223 GE223; clear hb hbox hg; obtain ⟨hcz4_0, hcz4_1, hcz4_2, hcz4_3, hcz4_4, hcz4_5, hcz4_6, hcz4_7, hcz4_8⟩ := cells9 BK223.out; obtain ⟨hfz4_0, hfz4_1, hfz4_2, hfz4_3, hfz4_4, hfz4_5, hfz4_6, hfz4_7, hfz4_8⟩ := frozens9 BK223.out))
 go_loopg [10] k (fun kq v10 w' => ∃ (x10_1 : Int), v10 = .int .i64 x10_1 ∧ Aside0 (packhorseref11_Has.l0 kq a1 l0_8 (l0_8.length : Int) x10_1 = some r) ∧ Aside0 (kq ≤ k) ∧ Aside0 (w'.heap[gb223]? = some (.cells #[.int .i64 a0_0, .int .i64 a0_1, .int .i64 a0_2, .int .i64 a0_3, .int .i64 a0_4, .string a0_5, .string a0_6, .string a0_7, (.slice A0_8 l0_8.length c0_8)] 31 (0, 0))) ∧ Aside0 (Below w.heap.size w w'))
 case atStart => exact ⟨(0), ap3, H', ⟨Nat.le_refl _⟩, ⟨by refine bu ?_; exact BK223.out⟩, ⟨beu HB.out⟩⟩
 case round =>
  clear H'; (try clear p2); (try clear c4); (try clear hcz4_0); (try clear hcz4_1); (try clear hcz4_2); (try clear hcz4_3); (try clear hcz4_4); (try clear hcz4_5); (try clear hcz4_6); (try clear hcz4_7); (try clear hcz4_8); (try clear hfz4_0); (try clear hfz4_1); (try clear hfz4_2); (try clear hfz4_3); (try clear hfz4_4); (try clear hfz4_5); (try clear hfz4_6); (try clear hfz4_7); (try clear hfz4_8); obtain ⟨x10_1, rfl, HA, HK1, BK223, HB⟩ := hrel
  cases gk with
  | zero => exact absurd HA.out (by simp [packhorseref11_Has.l0])
  | succ k1 =>
   have H := HA.out; clear HA; simp only [packhorseref11_Has.l0] at H
   by_cases c5 : x10_1 < (l0_8.length : Int)
   ·rw [if_pos c5] at H
    have c5b0 : decide (x10_1 < (l0_8.length : Int)) = true := decide_eq_true c5; clear c5
    by_cases c6 : 0 ≤ x10_1
    ·rw [if_pos c6] at H
     have c6b0 : decide (0 ≤ x10_1) = true := decide_eq_true c6; clear c6
     by_cases c7 : x10_1 < (l0_8.length : Int)
     ·rw [if_pos c7] at H
      have c7b0 : decide (x10_1 < (l0_8.length : Int)) = true := decide_eq_true c7; clear c7
      by_cases c8 : (rdOf ByteArray.empty l0_8 x10_1).toList = a1.toList
      ·rw [if_pos c8] at H
       have c8b0 : ((rdOf ByteArray.empty l0_8 x10_1).toList == a1.toList) = true := beq_iff_eq.mpr c8; have c8b1 : ((rdOf ByteArray.empty l0_8 x10_1).toList != a1.toList) = false := bne_eq_false_iff_eq.mpr c8; clear c8; obtain rfl := Option.some.inj H; simp only [Option.some.injEq, Prod.mk.injEq] at H; obtain ⟨rfl⟩ := H; have p224 : 0 ≤ (x10_1 : Int) := of_decide_eq_true ap2; have q224 : x10_1 < (l0_8.length : Int) := of_decide_eq_true ap2; obtain ⟨ad224, e224, hx224_0⟩ := Kd.at_string HR0_8.out x10_1 p224 q224
       cases e224
       replace hx224_0 := (HB.out.cell (World.block_lt_of_cell? w _ hx224_0)).trans hx224_0; replace p224 := eq_true p224; replace q224 := eq_true q224
       go_wp2
       go_ret
       exact ⟨ap4, beu HB.out⟩
      ·rw [if_neg c8] at H
       have c8b0 : ((rdOf ByteArray.empty l0_8 x10_1).toList == a1.toList) = false := beq_eq_false_iff_ne.mpr c8; have c8b1 : ((rdOf ByteArray.empty l0_8 x10_1).toList != a1.toList) = true := bne_iff_ne.mpr c8; have H' := am H; clear H; have p224 : 0 ≤ (x10_1 : Int) := of_decide_eq_true ap2; have q224 : x10_1 < (l0_8.length : Int) := of_decide_eq_true ap2; obtain ⟨ad224, e224, hx224_0⟩ := Kd.at_string HR0_8.out x10_1 p224 q224
       cases e224
       replace hx224_0 := (HB.out.cell (World.block_lt_of_cell? w _ hx224_0)).trans hx224_0; replace p224 := eq_true p224; replace q224 := eq_true q224
       go_wp2
       go_roundg k1
       case measure => have := HK1.out; omega
       case rel => exact ⟨(wrap64 (x10_1 + 1)), ap3, H', ⟨by have := HK1.out; omega⟩, ⟨by refine bu ?_; exact BK223.out⟩, ⟨beu HB.out⟩⟩
     ·rw [if_neg c7] at H
      exact absurd H (by simp)
    ·rw [if_neg c6] at H
     exact absurd H (by simp)
   ·rw [if_neg c5] at H
    have c5b0 : decide (x10_1 < (l0_8.length : Int)) = false := decide_eq_false c5; clear c5; obtain rfl := Option.some.inj H; simp only [Option.some.injEq, Prod.mk.injEq] at H; obtain ⟨rfl⟩ := H
    go_wp2
    go_ret
    exact ⟨ap4, beu HB.out⟩
end Go.Proofs.YtapfpdjcbeiibaaDoor.PAll
