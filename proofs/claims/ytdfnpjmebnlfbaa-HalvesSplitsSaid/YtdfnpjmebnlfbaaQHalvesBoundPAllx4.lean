
import Derived.Test.YtdfnpjmebnlfbaaQHalvesBoundAliveF
import Derived.Test.YtdfnpjmebnlfbaaQHalvesBoundPAllx0
import Derived.Test.YtdfnpjmebnlfbaaQHalvesBoundPAllx1
import Derived.Test.YtdfnpjmebnlfbaaQHalvesBoundPAllx2
namespace Go.Proofs.YtdfnpjmebnlfbaaW.PrintMore
end Go.Proofs.YtdfnpjmebnlfbaaW.PrintMore
namespace Go.Proofs.Ytdfnpjmebnlfbaa.PAll
open Go.RowKit Go.Proofs.YtdfnpjmebnlfbaaW.PrintWords Go.Proofs.YtdfnpjmebnlfbaaW.PrintLast Go.Proofs.YtdfnpjmebnlfbaaW.PrintMore
set_option linter.unusedVariables false
set_option linter.unusedSimpArgs false
def packhorselaw12_HalvesSplits.j0 : Nat → List ByteArray → List ByteArray → Bool → Option (Bool)
  | 0, _, _, _ => none
  | k + 1, x0, x3, x34 => if x34 = true then (some false) else (if (x3.length : Int) > 0 then (if 0 < (x0.length : Int) then (if 0 < (x3.length : Int) then (if (rdOf ByteArray.empty x3 0).size + 1 ≤ 9223372036854775807 then (some ((rdOf ByteArray.empty x0 0).toList == (rdOf ByteArray.empty x0 0).toList)) else (none)) else (none)) else (none)) else (some true))
def packhorselaw12_HalvesSplits.f (k : Nat) (l0 : List ByteArray) : Option (Bool) := (packhorselaw12_halvesAlive.f).bind fun t130 => (if t130 = true then (if (l0.length : Int) > 100 then (some true) else ((halves_Split.f l0).bind fun bt131 => (if (wrap64 ((bt131.1.length : Int) - (bt131.2.length : Int))) = ((l0.length : Int) % 2) then ((some (([] : List ByteArray) : List ByteArray)).bind fun y137 => (if y137.length + bt131.1.length < 8796093022208 then ((some (y137 ++ bt131.1 : List ByteArray)).bind fun y140 => (if y140.length + bt131.2.length < 8796093022208 then ((packhorseref01_Same.f k (y140 ++ bt131.2) l0).bind fun t146 => (packhorselaw12_HalvesSplits.j0 k l0 bt131.1 (!t146))) else (none))) else (none))) else (packhorselaw12_HalvesSplits.j0 k l0 bt131.1 true)))) else (some false))
set_option maxHeartbeats 8000000 in
set_option maxRecDepth 100000 in
theorem packhorselaw12_HalvesSplits.calls (k : Nat) (A0 : Option Addr) (c0 : Nat) (l0 : List ByteArray) (r : Bool) (w : World) (hr0 : Kd.C Kd.string w A0 l0.length l0) (hc0 : l0.length ≤ c0) (h : packhorselaw12_HalvesSplits.f k l0 = some r) (hr_ : r = true) :
    Calls Try.prog 4 #[.slice A0 l0.length c0] w fun e w' => e = .returned (.bool r) ∧ Below w.heap.size w w' := by
  have HR0 := Aside0.mk hr0
  have HC0 := Aside0.mk hc0
  clear hr0 hc0
  have HRT := Aside0.mk hr_
  clear hr_
  have HB := Aside0.mk (Below.refl w.heap.size w)
  have H : ((packhorselaw12_halvesAlive.f).bind fun t130 => (if t130 = true then (if (l0.length : Int) > 100 then (some true) else ((halves_Split.f l0).bind fun bt131 => (if (wrap64 ((bt131.1.length : Int) - (bt131.2.length : Int))) = ((l0.length : Int) % 2) then ((some (([] : List ByteArray) : List ByteArray)).bind fun y137 => (if y137.length + bt131.1.length < 8796093022208 then ((some (y137 ++ bt131.1 : List ByteArray)).bind fun y140 => (if y140.length + bt131.2.length < 8796093022208 then ((packhorseref01_Same.f k (y140 ++ bt131.2) l0).bind fun t146 => (packhorselaw12_HalvesSplits.j0 k l0 bt131.1 (!t146))) else (none))) else (none))) else (packhorselaw12_HalvesSplits.j0 k l0 bt131.1 true)))) else (some false))) = some r := h
  clear h
  replace H := Option.bind_eq_some_iff.mp H
  obtain ⟨t130, A20, H⟩ := H
  replace H : (if t130 = true then (if (l0.length : Int) > 100 then (some true) else ((halves_Split.f l0).bind fun bt131 => (if (wrap64 ((bt131.1.length : Int) - (bt131.2.length : Int))) = ((l0.length : Int) % 2) then ((some (([] : List ByteArray) : List ByteArray)).bind fun y137 => (if y137.length + bt131.1.length < 8796093022208 then ((some (y137 ++ bt131.1 : List ByteArray)).bind fun y140 => (if y140.length + bt131.2.length < 8796093022208 then ((packhorseref01_Same.f k (y140 ++ bt131.2) l0).bind fun t146 => (packhorselaw12_HalvesSplits.j0 k l0 bt131.1 (!t146))) else (none))) else (none))) else (packhorselaw12_HalvesSplits.j0 k l0 bt131.1 true)))) else (some false)) = some r := H
  have A2 := Aside0.mk A20
  clear A20
  by_cases c3 : t130 = true
  · subst c3
    have H1 : (if (l0.length : Int) > 100 then (some true) else ((halves_Split.f l0).bind fun bt131 => (if (wrap64 ((bt131.1.length : Int) - (bt131.2.length : Int))) = ((l0.length : Int) % 2) then ((some (([] : List ByteArray) : List ByteArray)).bind fun y137 => (if y137.length + bt131.1.length < 8796093022208 then ((some (y137 ++ bt131.1 : List ByteArray)).bind fun y140 => (if y140.length + bt131.2.length < 8796093022208 then ((packhorseref01_Same.f k (y140 ++ bt131.2) l0).bind fun t146 => (packhorselaw12_HalvesSplits.j0 k l0 bt131.1 (!t146))) else (none))) else (none))) else (packhorselaw12_HalvesSplits.j0 k l0 bt131.1 true)))) = some r := by rw [if_pos rfl] at H; exact H
    clear H
    have H := H1
    clear H1
    by_cases c4 : (l0.length : Int) > 100
    · rw [if_pos c4] at H
      have c4b0 : decide (100 < (l0.length : Int)) = true := decide_eq_true c4
      have c4b1 : decide (100 < l0.length) = true := decide_eq_true (by omega)
      clear c4
      obtain rfl := Option.some.inj H
      simp only [Option.some.injEq, Prod.mk.injEq] at H
      obtain ⟨rfl⟩ := H
      go_enter Try.func4, Try.ntmps4
      go_wp2_with (first | ((with_reducible refine gate_callee (f := 10) rfl ?_); refine goesL_ (some 6) rfl rfl Try.func10 (by kernel_rfl) rfl #[] rfl (by (try simp only [List.map_toArray, List.map_cons, List.map_nil]); first | done | rfl | (simp only [List.length_drop, List.length_take]; rfl)) ?_; (with_reducible refine (packhorselaw12_halvesAlive.calls  true _ A2.out rfl).mono ?_); rintro e w5 ⟨rfl, hb⟩; refine ⟨_, rfl, ?_⟩; have n0_ := Aside0.mk (below_step (by repeat (first | (with_reducible first | exact HB.out | apply below_alloc | apply pw_below_drewN | apply below_drew1) | exact HB.out)) hb); clear HB; have HB := n0_; clear n0_; (try clear hb); (try clear hb2); (try clear hk); (try clear hi)))
      go_ret
      exact ⟨by first | rfl | (simp [errW_none, errW_some] <;> rfl) | (simp [*, errW_none, errW_some] <;> rfl), by repeat (first | (with_reducible first | exact HB.out | apply below_alloc | apply pw_below_drewN | apply below_drew1) | exact HB.out)⟩
    · rw [if_neg c4] at H
      have c4b0 : decide (100 < (l0.length : Int)) = false := decide_eq_false c4
      have c4b1 : decide (100 < l0.length) = false := decide_eq_false (by omega)
      clear c4
      replace H := Option.bind_eq_some_iff.mp H
      obtain ⟨⟨t131, t132⟩, A60, H⟩ := H
      replace H : (if (wrap64 ((t131.length : Int) - (t132.length : Int))) = ((l0.length : Int) % 2) then ((some (([] : List ByteArray) : List ByteArray)).bind fun y137 => (if y137.length + t131.length < 8796093022208 then ((some (y137 ++ t131 : List ByteArray)).bind fun y140 => (if y140.length + t132.length < 8796093022208 then ((packhorseref01_Same.f k (y140 ++ t132) l0).bind fun t146 => (packhorselaw12_HalvesSplits.j0 k l0 t131 (!t146))) else (none))) else (none))) else (packhorselaw12_HalvesSplits.j0 k l0 t131 true)) = some r := H
      have A6 := Aside0.mk A60
      clear A60
      have HC7 := Aside0.mk H
      clear H
      go_enter Try.func4, Try.ntmps4
      go_upto_region 6 with (first | ((with_reducible refine gate_callee (f := 10) rfl ?_); refine goesL_ (some 6) rfl rfl Try.func10 (by kernel_rfl) rfl #[] rfl (by (try simp only [List.map_toArray, List.map_cons, List.map_nil]); first | done | rfl | (simp only [List.length_drop, List.length_take]; rfl)) ?_; (with_reducible refine (packhorselaw12_halvesAlive.calls  true _ A2.out rfl).mono ?_); rintro e w8 ⟨rfl, hb⟩; refine ⟨_, rfl, ?_⟩; have n0_ := Aside0.mk (below_step (by repeat (first | (with_reducible first | exact HB.out | apply below_alloc | apply pw_below_drewN | apply below_drew1) | exact HB.out)) hb); clear HB; have HB := n0_; clear n0_; (try clear hb); (try clear hb2); (try clear hk); (try clear hi)) | ((with_reducible refine gate_callee (f := 20) rfl ?_); refine goesL_ (some 13) rfl rfl Try.func20 (by kernel_rfl) rfl #[.slice A0 l0.length c0] rfl (by (try simp only [List.map_toArray, List.map_cons, List.map_nil]); first | done | rfl | (simp only [List.length_drop, List.length_take]; rfl)) ?_; (with_reducible refine (halves_Split.calls _ _ l0 t131 t132 _ ?side1 ?side2 A6.out).mono ?_); (case side1 => repeat (first | exact (Kd.C_below HR0.out HB.out) | (with_reducible refine Kd.C_alloc ?_ _) | (with_reducible refine Kd.C_drewN ?_ _) | (with_reducible refine Kd.C_drew ?_))); (case side2 => exact HC0.out); rintro e w9 ⟨v133, v135, rfl, ho0, ho1, hb⟩; refine ⟨_, rfl, ?_⟩; have n0_ := Aside0.mk (Kd.R_lower ho0 (below_size (by repeat (first | (with_reducible first | exact HB.out | apply below_alloc | apply pw_below_drewN | apply below_drew1) | exact HB.out)))); have n1_ := Aside0.mk (Kd.R_lower ho1 (below_size (by repeat (first | (with_reducible first | exact HB.out | apply below_alloc | apply pw_below_drewN | apply below_drew1) | exact HB.out)))); have n2_ := Aside0.mk (below_step (by repeat (first | (with_reducible first | exact HB.out | apply below_alloc | apply pw_below_drewN | apply below_drew1) | exact HB.out)) hb); clear HB; have HO134 := n0_; have HO136 := n1_; have HB := n2_; clear n0_ n1_ n2_; (try clear hb); (try clear hb2); (try clear hk); (try clear hi); (try clear ho0); (try clear ho1)))
      (try simp only [Act.put, List.setIfInBounds_toArray, List.set_cons_zero, List.set_cons_succ])
      go_cut [34] (fun v34 wc => ∃ (kq : Nat) (x34_6 : Bool), v34 = .bool x34_6 ∧ Aside0 (packhorselaw12_HalvesSplits.j0 kq l0 t131 x34_6 = some r) ∧ Aside0 (kq ≤ k) ∧ Aside0 (Kd.R Kd.string 9 wc w.heap.size (fun _ => True) v133 t131) ∧ Aside0 (Below w.heap.size w wc))
      case first =>
        have H := HC7.out
        clear HC7
        by_cases c10 : (wrap64 ((t131.length : Int) - (t132.length : Int))) = ((l0.length : Int) % 2)
        · rw [if_pos c10] at H
          have c10b0 : ((wrap64 ((t131.length : Int) - (t132.length : Int))) == ((l0.length : Int) % 2)) = true := beq_iff_eq.mpr c10
          have c10b1 : ((wrap64 ((t131.length : Int) - (t132.length : Int))) != ((l0.length : Int) % 2)) = false := bne_eq_false_iff_eq.mpr c10
          clear c10
          (first | rw [c10b0] | (simp only [i64_w, i32_w]; rw [c10b0]) | skip)
          obtain ⟨y137, hy137⟩ : ∃ y_ : List ByteArray, y_ = (([] : List ByteArray)) := ⟨_, rfl⟩
          replace H : (if y137.length + t131.length < 8796093022208 then ((some (y137 ++ t131 : List ByteArray)).bind fun y140 => (if y140.length + t132.length < 8796093022208 then ((packhorseref01_Same.f k (y140 ++ t132) l0).bind fun t146 => (packhorselaw12_HalvesSplits.j0 k l0 t131 (!t146))) else (none))) else (none)) = some r := by first | (rw [hy137]; with_reducible exact H) | (have H2_ := (Option.bind_some _ _).symm.trans H; rw [hy137]; with_reducible exact H2_) | (have H2_ := (Option.bind_some _ _).symm.trans H; with_reducible exact H2_) | with_reducible exact H | (rw [hy137]; exact H) | exact H
          have Ny137 := Aside0.mk hy137
          clear hy137
          by_cases c11 : y137.length + t131.length < 8796093022208
          · rw [if_pos c11] at H
            have LMc11 := Aside0.mk c11
            clear c11
            obtain ⟨y140, hy140⟩ : ∃ y_ : List ByteArray, y_ = (y137 ++ t131) := ⟨_, rfl⟩
            replace H : (if y140.length + t132.length < 8796093022208 then ((packhorseref01_Same.f k (y140 ++ t132) l0).bind fun t146 => (packhorselaw12_HalvesSplits.j0 k l0 t131 (!t146))) else (none)) = some r := by first | (rw [hy140]; with_reducible exact H) | (have H2_ := (Option.bind_some _ _).symm.trans H; rw [hy140]; with_reducible exact H2_) | (have H2_ := (Option.bind_some _ _).symm.trans H; with_reducible exact H2_) | with_reducible exact H | (rw [hy140]; exact H) | exact H
            have Ny140 := Aside0.mk hy140
            clear hy140
            by_cases c12 : y140.length + t132.length < 8796093022208
            · rw [if_pos c12] at H
              have LMc12 := Aside0.mk c12
              clear c12
              obtain ⟨y143, hy143⟩ : ∃ y_ : List ByteArray, y_ = (y140 ++ t132) := ⟨_, rfl⟩
              replace H : ((packhorseref01_Same.f k y143 l0).bind fun t146 => (packhorselaw12_HalvesSplits.j0 k l0 t131 (!t146))) = some r := by first | (rw [hy143]; with_reducible exact H) | (have H2_ := (Option.bind_some _ _).symm.trans H; rw [hy143]; with_reducible exact H2_) | (have H2_ := (Option.bind_some _ _).symm.trans H; with_reducible exact H2_) | with_reducible exact H | (rw [hy143]; exact H) | exact H
              have Ny143 := Aside0.mk hy143
              clear hy143
              replace H := Option.bind_eq_some_iff.mp H
              obtain ⟨t146, A130, H⟩ := H
              replace H : (packhorselaw12_HalvesSplits.j0 k l0 t131 (!t146)) = some r := H
              have A13 := Aside0.mk A130
              clear A130
              have H' := Aside0.mk H
              clear H
              obtain ⟨Ao14, co14, eo14⟩ := Kd.R_slice HO134.out
              subst eo14
              obtain ⟨Ao15, co15, eo15⟩ := Kd.R_slice HO136.out
              subst eo15
              go_wp2_with (first | ((with_reducible refine gate_dst (N := 26) rfl ?_); (try (refine gate_guard (by rfl) ?_; dsimp only)); refine Kd.R_lit Kd.string _ 9 ?hg (N := 26) ?hd (xs := ([] : List ByteArray)) (inner := []) (ok := fun _ => True) (okp := fun _ => True) ?hr ?hp (fun _ hk => hk) trivial (Below.refl _ _) (Nat.le_refl _) (by simp) ?_; (case hd => rfl); (case hg => rfl); (case hr => first | (go_simp; done) | (go_simp; rfl)); (case hp => exact (Reps.none _ _)); intro v138 w16 ho17 hb hg_ hnew_; clear hg_ hnew_; (first | rw [← Ny137.out] at ho17 | (simp only [Int.reduceToNat] at ho17; rw [← Ny137.out] at ho17)); have n0_ := Aside0.mk (Kd.R_elder' (by (with_reducible repeat (first | apply Kd.R_alloc | apply Kd.R_drewN | apply Kd.R_drew)); exact HO134.out) (Kd.R_base ho17) hb); have n1_ := Aside0.mk (Kd.R_elder' (by (with_reducible repeat (first | apply Kd.R_alloc | apply Kd.R_drewN | apply Kd.R_drew)); exact HO136.out) (Kd.R_base ho17) hb); have n2_ := Aside0.mk (Kd.R_lower (Kd.R_new' (Kd.R_new' ho17 (Kd.R_lt (by (with_reducible repeat (first | apply Kd.R_alloc | apply Kd.R_drewN | apply Kd.R_drew)); exact HO134.out))) (Kd.R_lt (by (with_reducible repeat (first | apply Kd.R_alloc | apply Kd.R_drewN | apply Kd.R_drew)); exact HO136.out))) (below_size (by repeat (first | (with_reducible first | exact HB.out | apply below_alloc | apply pw_below_drewN | apply below_drew1) | exact HB.out)))); have n3_ := Aside0.mk (below_step (by repeat (first | (with_reducible first | exact HB.out | apply below_alloc | apply pw_below_drewN | apply below_drew1) | exact HB.out)) hb); clear HO134; clear HO136; clear HB; have HO134 := n0_; have HO136 := n1_; have HO139 := n2_; have HB := n3_; clear n0_ n1_ n2_ n3_; clear hb ho17) | ((with_reducible refine gate_builtin (b := .append) (xs := #[.tmp 26, .tmp 27]) rfl ?_); (try (refine gate_guard (by rfl) ?_; dsimp only)); at_builtin; refine Kd.R_append_rows Kd.string (w0 := w) w.heap.size rfl (.tmp 26) (.tmp 27) 22 9 (.string ⟨#[]⟩) 16 rfl Try.underlying22 info9 rfl (by decide) (by omega) v138 y137 t131 _ _ _ (fun k_ => some k_ ≠ (.slice Ao14 t131.length co14 : Value).ownBlock ∧ some k_ ≠ (.slice Ao15 t132.length co15 : Value).ownBlock) (fun _ => False) rfl rfl ?aO ?aR (fun _ _ h => h) (fun _ h => h.elim) ?aF ?aB ?aS ?aL ?_; (case aR => repeat (first | exact (Kd.R_reads' HO134.out).2.2 | (with_reducible refine Kd.C_alloc ?_ _) | (with_reducible refine Kd.C_drewN ?_ _) | (with_reducible refine Kd.C_drew ?_))); (case aB => exact (by repeat (first | (with_reducible first | exact HB.out | apply below_alloc | apply pw_below_drewN | apply below_drew1) | exact HB.out))); (case aF => exact (fun k_ hk => ⟨Kd.fresh' (Kd.R_lt (by (with_reducible repeat (first | apply Kd.R_alloc | apply Kd.R_drewN | apply Kd.R_drew)); exact HO134.out)) k_ hk, Kd.fresh' (Kd.R_lt (by (with_reducible repeat (first | apply Kd.R_alloc | apply Kd.R_drewN | apply Kd.R_drew)); exact HO136.out)) k_ hk⟩)); (case aO => exact (by (with_reducible repeat (first | apply Kd.R_alloc | apply Kd.R_drewN | apply Kd.R_drew)); exact Kd.R_mono HO139.out (fun _ hk => ⟨hk.1.2, hk.2⟩))); (case aS => exact (below_size (by repeat (first | (with_reducible first | exact HB.out | apply below_alloc | apply pw_below_drewN | apply below_drew1) | exact HB.out)))); (case aL => have := LMc11.out; omega); intro v141 w18 ho hb hg hat; rw [← Ny140.out] at ho; have n0_ := Aside0.mk (Kd.R_after (ok := (fun k_ => some k_ ≠ (.slice Ao15 t132.length co15 : Value).ownBlock)) (by (with_reducible repeat (first | apply Kd.R_alloc | apply Kd.R_drewN | apply Kd.R_drew)); exact HO134.out) hg hat); have n1_ := Aside0.mk (Kd.R_after (ok := (fun k_ => some k_ ≠ (.slice Ao14 t131.length co14 : Value).ownBlock)) (by (with_reducible repeat (first | apply Kd.R_alloc | apply Kd.R_drewN | apply Kd.R_drew)); exact HO136.out) hg hat); have n2_ := Aside0.mk (hb); have n3_ := Aside0.mk (ho); clear HO134; clear HO136; clear HB; clear HO139; have HO134 := n0_; have HO136 := n1_; have HB := n2_; have HO142 := n3_; clear n0_ n1_ n2_ n3_; clear ho hb hg hat) | ((with_reducible refine gate_builtin (b := .append) (xs := #[.tmp 28, .tmp 29]) rfl ?_); (try (refine gate_guard (by rfl) ?_; dsimp only)); at_builtin; refine Kd.R_append_rows Kd.string (w0 := w) w.heap.size rfl (.tmp 28) (.tmp 29) 22 9 (.string ⟨#[]⟩) 16 rfl Try.underlying22 info9 rfl (by decide) (by omega) v141 y140 t132 _ _ _ (fun k_ => some k_ ≠ (.slice Ao14 t131.length co14 : Value).ownBlock ∧ some k_ ≠ (.slice Ao15 t132.length co15 : Value).ownBlock) (fun _ => False) rfl rfl ?aO ?aR (fun _ _ h => h) (fun _ h => h.elim) ?aF ?aB ?aS ?aL ?_; (case aR => repeat (first | exact (Kd.R_reads' HO136.out).2.2 | (with_reducible refine Kd.C_alloc ?_ _) | (with_reducible refine Kd.C_drewN ?_ _) | (with_reducible refine Kd.C_drew ?_))); (case aB => exact (by repeat (first | (with_reducible first | exact HB.out | apply below_alloc | apply pw_below_drewN | apply below_drew1) | exact HB.out))); (case aF => exact (fun k_ hk => ⟨Kd.fresh' (Kd.R_lt (by (with_reducible repeat (first | apply Kd.R_alloc | apply Kd.R_drewN | apply Kd.R_drew)); exact HO134.out)) k_ hk, Kd.fresh' (Kd.R_lt (by (with_reducible repeat (first | apply Kd.R_alloc | apply Kd.R_drewN | apply Kd.R_drew)); exact HO136.out)) k_ hk⟩)); (case aO => exact (by (with_reducible repeat (first | apply Kd.R_alloc | apply Kd.R_drewN | apply Kd.R_drew)); exact HO142.out)); (case aS => exact (below_size (by repeat (first | (with_reducible first | exact HB.out | apply below_alloc | apply pw_below_drewN | apply below_drew1) | exact HB.out)))); (case aL => have := LMc12.out; omega); intro v144 w19 ho hb hg hat; rw [← Ny143.out] at ho; have n0_ := Aside0.mk (Kd.R_after (ok := (fun k_ => some k_ ≠ (.slice Ao15 t132.length co15 : Value).ownBlock)) (by (with_reducible repeat (first | apply Kd.R_alloc | apply Kd.R_drewN | apply Kd.R_drew)); exact HO134.out) hg hat); have n1_ := Aside0.mk (Kd.R_after (ok := (fun k_ => some k_ ≠ (.slice Ao14 t131.length co14 : Value).ownBlock)) (by (with_reducible repeat (first | apply Kd.R_alloc | apply Kd.R_drewN | apply Kd.R_drew)); exact HO136.out) hg hat); have n2_ := Aside0.mk (hb); have n3_ := Aside0.mk (ho); clear HO134; clear HO136; clear HB; clear HO142; have HO134 := n0_; have HO136 := n1_; have HB := n2_; have HO145 := n3_; clear n0_ n1_ n2_ n3_; clear ho hb hg hat; obtain ⟨Ao20, co20, eo20⟩ := Kd.R_slice HO145.out; subst eo20) | (go_at_call 14; (with_reducible refine (packhorseref01_Same.calls k _ _ y143 _ _ l0 t146 _ ?side1 ?side2 ?side3 ?side4 A13.out).mono ?_); (case side1 => repeat (first | exact (Kd.R_reads' HO145.out).2.2 | (with_reducible refine Kd.C_alloc ?_ _) | (with_reducible refine Kd.C_drewN ?_ _) | (with_reducible refine Kd.C_drew ?_))); (case side2 => exact (Kd.R_reads' HO145.out).2.1); (case side3 => repeat (first | exact (Kd.C_below HR0.out HB.out) | (with_reducible refine Kd.C_alloc ?_ _) | (with_reducible refine Kd.C_drewN ?_ _) | (with_reducible refine Kd.C_drew ?_))); (case side4 => exact HC0.out); rintro e w' ⟨rfl, ⟨nd, rfl⟩⟩))
              go_meet
              case rel => exact ⟨_, (!t146), (by first | rfl | (simp; done) | (simp [*]; done)), H', ⟨by first | omega | exact Nat.le_refl _⟩, ⟨by (with_reducible repeat (first | apply Kd.R_alloc | apply Kd.R_drewN | apply Kd.R_drew)); exact Kd.R_mono HO134.out (fun _ hk => trivial)⟩, ⟨by repeat (first | (with_reducible first | exact HB.out | apply below_alloc | apply pw_below_drewN | apply below_drew1) | exact HB.out)⟩⟩
            · rw [if_neg c12] at H
              exact absurd H (by simp)
          · rw [if_neg c11] at H
            exact absurd H (by simp)
        · rw [if_neg c10] at H
          have c10b0 : ((wrap64 ((t131.length : Int) - (t132.length : Int))) == ((l0.length : Int) % 2)) = false := beq_eq_false_iff_ne.mpr c10
          have c10b1 : ((wrap64 ((t131.length : Int) - (t132.length : Int))) != ((l0.length : Int) % 2)) = true := bne_iff_ne.mpr c10
          (first | rw [c10b0] | (simp only [i64_w, i32_w]; rw [c10b0]) | skip)
          have H' := Aside0.mk H
          clear H
          obtain ⟨Ao21, co21, eo21⟩ := Kd.R_slice HO134.out
          subst eo21
          obtain ⟨Ao22, co22, eo22⟩ := Kd.R_slice HO136.out
          subst eo22
          go_wp2
          go_meet
          case rel => exact ⟨_, (true), (by first | rfl | (simp; done) | (simp [*]; done)), H', ⟨by first | omega | exact Nat.le_refl _⟩, ⟨by (with_reducible repeat (first | apply Kd.R_alloc | apply Kd.R_drewN | apply Kd.R_drew)); exact Kd.R_mono HO134.out (fun _ hk => trivial)⟩, ⟨by repeat (first | (with_reducible first | exact HB.out | apply below_alloc | apply pw_below_drewN | apply below_drew1) | exact HB.out)⟩⟩
      case rest =>
        clear HC7
        try clear c1
        try clear c2
        try clear p2
        try clear c3
        try clear c4
        try clear c4b0
        try clear c4b1
        try clear p6
        try clear c10
        try clear c10b0
        try clear c10b1
        try clear c11
        try clear c12
        try clear c20
        obtain ⟨kq, x34_6, rfl, HA, HJ6, HO_3, HB⟩ := hcut
        cases kq with
        | zero => exact absurd HA.out (by simp [packhorselaw12_HalvesSplits.j0])
        | succ kj6 =>
          have H := HA.out
          clear HA
          simp only [packhorselaw12_HalvesSplits.j0] at H
          by_cases c23 : x34_6 = true
          · subst c23
            have H1 : (some false) = some r := by rw [if_pos rfl] at H; exact H
            clear H
            have H := H1
            clear H1
            obtain rfl := Option.some.inj H
            exact absurd HRT.out (by decide)
          · replace c23 := Bool.eq_false_iff.mpr c23
            subst c23
            have H1 : (if (t131.length : Int) > 0 then (if 0 < (l0.length : Int) then (if 0 < (t131.length : Int) then (if (rdOf ByteArray.empty t131 0).size + 1 ≤ 9223372036854775807 then (some ((rdOf ByteArray.empty l0 0).toList == (rdOf ByteArray.empty l0 0).toList)) else (none)) else (none)) else (none)) else (some true)) = some r := by rw [if_neg (show ¬ (false = true) by decide)] at H; exact H
            clear H
            have H := H1
            clear H1
            by_cases c24 : (t131.length : Int) > 0
            · rw [if_pos c24] at H
              have c24b0 : decide (0 < (t131.length : Int)) = true := decide_eq_true c24
              have c24b1 : decide (0 < t131.length) = true := decide_eq_true (by omega)
              clear c24
              by_cases c25 : 0 < (l0.length : Int)
              · rw [if_pos c25] at H
                have c25b0 : decide (0 < (l0.length : Int)) = true := decide_eq_true c25
                have c25b1 : decide (0 < l0.length) = true := decide_eq_true (by omega)
                clear c25
                by_cases c26 : 0 < (t131.length : Int)
                · rw [if_pos c26] at H
                  have c26b0 : decide (0 < (t131.length : Int)) = true := decide_eq_true c26
                  have c26b1 : decide (0 < t131.length) = true := decide_eq_true (by omega)
                  clear c26
                  by_cases c27 : (rdOf ByteArray.empty t131 0).size + 1 ≤ 9223372036854775807
                  · rw [if_pos c27] at H
                    have c27b0 := eq_true c27
                    have c27b1 : decide ((rdOf ByteArray.empty t131 0).size + 1 ≤ 9223372036854775807) = true := decide_eq_true c27
                    try have c27b2 : (9223372036854775807 < (rdOf ByteArray.empty t131 0).size + 1) = False := eq_false (Nat.not_lt.2 c27)
                    obtain ⟨y149, hy149⟩ : ∃ y_ : List ByteArray, y_ = (t131.set (0 : Int).toNat ((rdOf ByteArray.empty t131 0) ++ (⟨#[120]⟩ : ByteArray))) := ⟨_, rfl⟩
                    replace H : (some ((rdOf ByteArray.empty l0 0).toList == (rdOf ByteArray.empty l0 0).toList)) = some r := by first | (rw [hy149]; with_reducible exact H) | (have H2_ := (Option.bind_some _ _).symm.trans H; rw [hy149]; with_reducible exact H2_) | (have H2_ := (Option.bind_some _ _).symm.trans H; with_reducible exact H2_) | with_reducible exact H | (rw [hy149]; exact H) | exact H
                    have Ny149 := Aside0.mk hy149
                    clear hy149
                    obtain rfl := Option.some.inj H
                    simp only [Option.some.injEq, Prod.mk.injEq] at H
                    obtain ⟨rfl⟩ := H
                    obtain ⟨Ao29, co29, eo29⟩ := Kd.R_slice HO_3.out
                    subst eo29
                    have p147 : 0 ≤ (0 : Int) := (by omega)
                    have q147 : 0 < (l0.length : Int) := of_decide_eq_true (by first | (with_reducible assumption) | assumption)
                    obtain ⟨ad147, e147, hx147_0⟩ := Kd.at_string HR0.out 0 p147 q147
                    cases e147
                    have qi147 : (0 < l0.length) = True := eq_true (by omega)
                    (try rw [show ((0 : Int)).toNat = 0 from rfl] at hx147_0)
                    (try rw [Addr.add_zero'] at hx147_0)
                    replace hx147_0 := (HB.out.cell (World.block_lt_of_cell? w _ hx147_0)).trans hx147_0
                    replace p147 := eq_true p147
                    replace q147 := eq_true q147
                    have p148 : 0 ≤ (0 : Int) := (by omega)
                    have q148 : 0 < (t131.length : Int) := of_decide_eq_true (by first | (with_reducible assumption) | assumption)
                    obtain ⟨ad148, e148, hx148_0⟩ := Kd.at_string (Kd.R_reads' HO_3.out).2.2 0 p148 q148
                    cases e148
                    have qi148 : (0 < t131.length) = True := eq_true (by omega)
                    (try rw [show ((0 : Int)).toNat = 0 from rfl] at hx148_0)
                    (try rw [Addr.add_zero'] at hx148_0)
                    replace p148 := eq_true p148
                    replace q148 := eq_true q148
                    have p28 : 0 ≤ (0 : Int) := (by omega)
                    have q28 : (0 : Int) < ((t131.length : Int) : Int) := of_decide_eq_true (by first | (with_reducible assumption) | assumption)
                    have qi28 : (0 < t131.length) = True := eq_true (by omega)
                    obtain ⟨go28, co28, eo28, gb28, gl28, cl28, HG28⟩ := Kd.R_form HO_3.out (by omega)
                    (first | cases eo28 | (injection eo28 with ea_ en_ ec_; (first | subst ea_ | (injection ea_ with ea_; subst ea_)); subst ec_; clear en_))
                    have GB28 := Aside0.mk gb28
                    have GG28 := Aside0.mk HG28
                    clear gb28 gl28 HG28
                    (first | simp only [add_plain] at hx148_0 | skip)
                    obtain ⟨hx28_0, hf28_0⟩ := Kd.R_celln (⟨#[]⟩ : ByteArray) HO_3.out (0 : Int) p28 q28
                    (try rw [show ((0 : Int)).toNat = 0 from rfl] at hx28_0)
                    (try simp only [Nat.reduceMul, Nat.zero_mul, Nat.zero_add, Nat.reduceAdd] at hx28_0)
                    (try rw [show ((0 : Int)).toNat = 0 from rfl] at hf28_0)
                    (try simp only [Nat.reduceMul, Nat.zero_mul, Nat.zero_add, Nat.reduceAdd] at hf28_0)
                    replace p28 := eq_true p28
                    replace q28 := eq_true q28
                    have HP30 := Kd.R_putg HO_3.out (0 : Int) ((rdOf ByteArray.empty t131 0) ++ (⟨#[120]⟩ : ByteArray))
                    go_wp2_with (first | ((with_reducible refine gate_store (t := 9) (p := 45) rfl ?_); refine store_event (t := 9) (p := 45) (v := ?vo_w31) (w1 := (wc.setCell ⟨go28, (0 : Int).toNat, none⟩ (.string ((rdOf ByteArray.empty t131 0) ++ (⟨#[120]⟩ : ByteArray))))) ?hg ?ho ?hn ?hr ?_; (case ho => rfl); (case hg => rfl); (case hn => rfl); (case hr => first | (go_simp; done) | (go_simp; rfl)); intro w31 hw; have hg : wc.grownBy w31 (some go28) := (by rw [hw]; exact HP30.2); have hp_ : Kd.R Kd.string 9 w31 w.heap.size (fun _ => True) (.slice (some ⟨go28, 0, none⟩) t131.length co29) y149 := (by rw [hw, Ny149.out]; exact HP30.1); clear HP30; have n0_ := Aside0.mk (hp_); have n1_ := Aside0.mk ((by rw [hw]; exact below_set (HB.out) GB28.out : Below w.heap.size w w31)); clear HO_3; clear HB; have HO_3 := n0_; have HB := n1_; clear n0_ n1_; clear hg hw hp_; have p150 : 0 ≤ (0 : Int) := (by omega); have q150 : 0 < (l0.length : Int) := of_decide_eq_true (by first | (with_reducible assumption) | assumption); obtain ⟨ad150, e150, hx150_0⟩ := Kd.at_string HR0.out 0 p150 q150; obtain rfl : ad147 = ad150 := (by injection e150); have qi150 : (0 < l0.length) = True := eq_true (by omega); (try rw [show ((0 : Int)).toNat = 0 from rfl] at hx150_0); (try rw [Addr.add_zero'] at hx150_0); replace hx150_0 := (HB.out.cell (World.block_lt_of_cell? w _ hx150_0)).trans hx150_0; replace p150 := eq_true p150; replace q150 := eq_true q150))
                    go_ret
                    exact ⟨by first | rfl | (simp [errW_none, errW_some] <;> rfl) | (simp [*, errW_none, errW_some] <;> rfl), by repeat (first | (with_reducible first | exact HB.out | apply below_alloc | apply pw_below_drewN | apply below_drew1) | exact HB.out)⟩
                  · rw [if_neg c27] at H
                    exact absurd H (by simp)
                · rw [if_neg c26] at H
                  exact absurd H (by simp)
              · rw [if_neg c25] at H
                exact absurd H (by simp)
            · rw [if_neg c24] at H
              have c24b0 : decide (0 < (t131.length : Int)) = false := decide_eq_false c24
              have c24b1 : decide (0 < t131.length) = false := decide_eq_false (by omega)
              clear c24
              obtain rfl := Option.some.inj H
              simp only [Option.some.injEq, Prod.mk.injEq] at H
              obtain ⟨rfl⟩ := H
              obtain ⟨Ao32, co32, eo32⟩ := Kd.R_slice HO_3.out
              subst eo32
              go_wp2
              go_ret
              exact ⟨by first | rfl | (simp [errW_none, errW_some] <;> rfl) | (simp [*, errW_none, errW_some] <;> rfl), by repeat (first | (with_reducible first | exact HB.out | apply below_alloc | apply pw_below_drewN | apply below_drew1) | exact HB.out)⟩
  · replace c3 := Bool.eq_false_iff.mpr c3
    subst c3
    have H1 : (some false) = some r := by rw [if_neg (show ¬ (false = true) by decide)] at H; exact H
    clear H
    have H := H1
    clear H1
    obtain rfl := Option.some.inj H
    exact absurd HRT.out (by decide)
end Go.Proofs.Ytdfnpjmebnlfbaa.PAll
