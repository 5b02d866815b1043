
import Derived.Test.YtnacmehhmheooaaDoorQOutboxBackPAllx0
import Derived.Test.YtnacmehhmheooaaDoorQOutboxBackPAllx3
import Derived.Test.YtnacmehhmheooaaDoorQOutboxBackPAllx4
import Derived.Test.YtnacmehhmheooaaDoorQOutboxBackPAllx5
namespace Go.Proofs.YtnacmehhmheooaaDoor.PAll
open Go.RowKit Go.Proofs.YtnacmehhmheooaaDoorW.PrintWords Go.Proofs.YtnacmehhmheooaaDoorW.PrintLast Go.Proofs.YtnacmehhmheooaaDoorW.PrintMore
attribute [local go_sem] max2_int min2_int max_two min_two
set_option linter.unusedVariables false
set_option linter.unusedSimpArgs false
mutual
def packhorseref13_Take.l0 : Nat → List (S27) → Int → Int → List Int → Bool → Option ((List (S27)) × Bool × List Int × Bool)
 | 0, _, _, _, _, _ => none
 | k + 1, x4, x5, x6, x1000, x1001 => if x6 < x5 then (packhorseref13_Take.j1 k x4 x5 x6 x1001 x1000 x1001) else (packhorseref13_Take.j1 k x4 x5 x6 false x1000 x1001)
def packhorseref13_Take.j1 : Nat → List (S27) → Int → Int → Bool → List Int → Bool → Option ((List (S27)) × Bool × List Int × Bool)
 | 0, _, _, _, _, _, _ => none
 | k + 1, x4, x5, x6, x19, x1000, x1001 => if x19 = true then ((packhorseref10_Scan_Number.f k x1000 x1001 1000000000000).bind fun bt347 => ((packhorseref10_Scan_Number.f k bt347.2.1 bt347.2.2 7).bind fun bt350 => ((packhorseref10_Scan_Number.f k bt350.2.1 bt350.2.2 1000000).bind fun bt353 => ((packhorseref10_Scan_Number.f k bt353.2.1 bt353.2.2 1099511627776).bind fun bt356 => ((packhorseref10_Scan_Number.f k bt356.2.1 bt356.2.2 1000000000000).bind fun bt359 => ((packhorseref10_Scan_Text.f k bt359.2.1 bt359.2.2 32).bind fun bt362 => (if x4.length < 2513169434916 then (packhorseref13_Take.l0 k (x4 ++ [(⟨bt347.1, bt359.1, bt356.1, bt350.1, bt353.1, bt362.1⟩ : S27)]) x5 (wrap64 (x6 + 1)) bt362.2.1 bt362.2.2) else (none)))))))) else (if x1001 = true then ((packhorseref13_Right.f k x4).bind fun t345 => (if t345 = true then (some (x4, true, x1000, x1001)) else (some (([] : List (S27)), false, x1000, x1001)))) else (some (([] : List (S27)), false, x1000, x1001)))
end
def packhorseref13_Take.f (k : Nat) (s0_0 : List Int) (s0_1 : Bool) : Option ((List (S27)) × Bool × List Int × Bool) := (packhorseref10_Scan_Number.f k s0_0 s0_1 1048576).bind fun bt342 => (packhorseref13_Take.l0 k (([] : List (S27))) bt342.1 0 bt342.2.1 bt342.2.2)
set_option maxHeartbeats 8000000 in
set_option maxRecDepth 100000 in
theorem packhorseref13_Take.calls (k : Nat) (g : Nat) (s0_0 : List Int) (s0_1 : Bool) (r1 : List (S27)) (r2 : Bool) (r3 : List Int) (r4 : Bool) (w0 w : World) (hI : IsS57 w0 w g s0_0 s0_1) (hB : Below w0.heap.size w0 w) (h : packhorseref13_Take.f k s0_0 s0_1 = some (r1, r2, r3, r4)) :
  Calls Tryd.prog 26 #[.pointer (some ⟨g, 0, none⟩)] w fun e w' => ∃ v0_ : Value, e = .returned (.tuple #[v0_, .bool r2]) ∧ Kd.R k27 27 w' w.heap.size (fun _ => True) v0_ r1 ∧ IsS57 w0 w' g r3 r4 ∧ Below w0.heap.size w0 w' ∧ KeepBut w w' g none := by
 have hu27 := Tryd.underlying27; have HI0 := am hI; have HK := am (KeepBut.refl w g none); have HL := am hB.size; clear hI; have HW0 := am hB.size; have HB := am hB; clear hB; have H : ((packhorseref10_Scan_Number.f k s0_0 s0_1 1048576).bind fun bt342 => (packhorseref13_Take.l0 k (([] : List (S27))) bt342.1 0 bt342.2.1 bt342.2.2)) = some (r1, r2, r3, r4) := h; clear h; obtain ⟨y339, hy339⟩ : ∃ y_ : List (S27), y_ = (([] : List (S27))) := ⟨_, rfl⟩
 replace H : ((packhorseref10_Scan_Number.f k s0_0 s0_1 1048576).bind fun bt342 => (packhorseref13_Take.l0 k y339 bt342.1 0 bt342.2.1 bt342.2.2)) = some (r1, r2, r3, r4) := by first | (rw [hy339]; with_reducible exact H) | (have H2_ := (Option.bind_some _ _).symm.trans H; rw [hy339]; with_reducible exact H2_) | (have H2_ := (Option.bind_some _ _).symm.trans H; with_reducible exact H2_) | with_reducible exact H | (rw [hy339]; exact H) | exact H
 have Ny339 := am hy339; clear hy339; replace H := obm H; obtain ⟨⟨t342, t343, t344⟩, A20, H⟩ := H; replace H : (packhorseref13_Take.l0 k y339 t342 0 t343 t344) = some (r1, r2, r3, r4) := H; have A2 := am A20; clear A20; have H' := am H; clear H
 go_enter Tryd.func26, Tryd.ntmps26
 go_wp2_with (first | ((with_reducible refine gate_dst (N := 8) rfl ?_); refine Kd.R_lit k27 _ 27 ?hg (N := 8) ?hd (xs := ([] : List (S27))) (inner := []) (ok := fun _ => True) (okp := fun _ => True) ?hr ?hp (fun _ hk => hk) trivial (Below.refl _ _) (Nat.le_refl _) (by simp) ?_; (case hd => rfl); (case hg => rfl); (case hr => first | (go_simp; done) | (go_simp; rfl)); (case hp => exact (Reps.none _ _)); intro v340 w3 ho4 hb hg_ hnew_; clear hg_ hnew_; (first | rw [← Ny339.out] at ho4 | (simp only [Int.reduceToNat] at ho4; rw [← Ny339.out] at ho4)); have _ := am (Kd.R_lower ho4 (keep_size (w := w) (g := g) (row := none) (ku HK.out))); have _ := am (IsS57.below (IsS57.u HI0.out) hb); have _ := am (KeepBut.trans (ku HK.out) (KeepBut.of_below hb g none) (.inl rfl)); have _ := am (below_step (beg (IsS57.ge HI0.out) HB.out) hb); clear HI0 HK HB; rename_i HO341 HI0 HK HB; clear hb ho4) | ((with_reducible refine gate_callee (f := 41) rfl ?_); refine goesL_ (some 10) rfl rfl Tryd.func41 (by kernel_rfl) rfl #[.pointer (some ⟨g, 0, none⟩), .int .u64 1048576] rfl ap1 ?_; (with_reducible refine (packhorseref10_Scan_Number.calls k g s0_0 s0_1 1048576 t342 t343 t344 w0 _ ?side1 ?side2 A2.out).mono ?_); (case side1 => exact IsS57.u HI0.out); (case side2 => exact beg (IsS57.ge HI0.out) HB.out); rintro e w5 ⟨rfl, hi, hb, hk⟩; refine ⟨_, rfl, ?_⟩; have _ := am (Kd.R_mono (Kd.R_keep (IsS57.apart (show IsS57 w0 _ g s0_0 s0_1 from IsS57.u HI0.out) (ru HO341.out) (by decide)) hk (fun _ h => h.2)) (fun _ h => h.1)); have _ := am (KeepBut.trans (ku HK.out) hk (.inl rfl)); have _ := am (hb); have _ := am (hi); clear HO341 HK HB HI0; rename_i HO341 HK HB HI0; (try clear hb hk hi)))
 go_loopg [4, 6] k (fun kq v4 v6 w' => ∃ (x4_1 : List (S27)) (x6_1 : Int) (x1000_1 : List Int) (x1001_1 : Bool), v6 = .int .i64 x6_1 ∧ Aside0 (packhorseref13_Take.l0 kq x4_1 t342 x6_1 x1000_1 x1001_1 = some (r1, r2, r3, r4)) ∧ Aside0 (kq ≤ k) ∧ Aside0 (Kd.R k27 27 w' w.heap.size (fun _ => True) v4 x4_1) ∧ Aside0 (IsS57 w0 w' g x1000_1 x1001_1) ∧ Aside0 (KeepBut w w' g none) ∧ Aside0 (Below w0.heap.size w0 w'))
 case atStart => exact ⟨(y339), (0), (t343), (t344), ap3, H', ⟨Nat.le_refl _⟩, ⟨ru HO341.out⟩, ⟨IsS57.u HI0.out⟩, ⟨ku HK.out⟩, ⟨beg (IsS57.ge HI0.out) HB.out⟩⟩
 case round =>
  clear H'; (try clear c2); (try clear p2); (try clear c4); obtain ⟨x4_1, x6_1, x1000_1, x1001_1, rfl, HA, HK1, HO_4, HI0, HK, HB⟩ := hrel
  cases gk with
  | zero => exact absurd HA.out (by simp [packhorseref13_Take.l0])
  | succ k1 =>
   have H := HA.out; clear HA; simp only [packhorseref13_Take.l0] at H; have HC6 := am H; clear H
   go_upto_region 4 with (fail)
   go_cut [19] (fun v19 wc => ∃ (kq : Nat) (x19_5 : Bool), v19 = .bool x19_5 ∧ Aside0 (packhorseref13_Take.j1 kq x4_1 t342 x6_1 x19_5 x1000_1 x1001_1 = some (r1, r2, r3, r4)) ∧ Aside0 (kq ≤ k1) ∧ Aside0 (Kd.R k27 27 wc w.heap.size (fun _ => True) u4 x4_1) ∧ Aside0 (IsS57 w0 wc g x1000_1 x1001_1) ∧ Aside0 (KeepBut w wc g none) ∧ Aside0 (Below w0.heap.size w0 wc))
   case first =>
    have H := HC6.out; clear HC6
    by_cases c7 : x6_1 < t342
    ·rw [if_pos c7] at H
     have c7b0 : decide (x6_1 < t342) = true := decide_eq_true c7; clear c7
     (first | rw [c7b0] | (simp only [i64_w, i32_w]; rw [c7b0]) | skip)
     have H' := am H; clear H; obtain ⟨ASz8_0, cSz8_0, HGz8, hgz8, HSz8_0⟩ := HI0.out; have hcz8_0 := cellS57_0 HGz8; have hcz8_1 := cellS57_1 HGz8; have hfz8_0 := blk_frozen HGz8 0; have hfz8_1 := blk_frozen HGz8 1; clear HGz8 hgz8
     go_wp2
     go_meet
     case rel => exact ⟨_, (x1001_1), ap3, H', ⟨by have := HK1.out; first | omega | exact Nat.le_refl _⟩, ⟨ru HO_4.out⟩, ⟨IsS57.u HI0.out⟩, ⟨ku HK.out⟩, ⟨beg (IsS57.ge HI0.out) HB.out⟩⟩
    ·rw [if_neg c7] at H
     have c7b0 : decide (x6_1 < t342) = false := decide_eq_false c7; clear c7
     (first | rw [c7b0] | (simp only [i64_w, i32_w]; rw [c7b0]) | skip)
     have H' := am H; clear H
     go_wp2
     go_meet
     case rel => exact ⟨_, (false), ap3, H', ⟨by have := HK1.out; first | omega | exact Nat.le_refl _⟩, ⟨ru HO_4.out⟩, ⟨IsS57.u HI0.out⟩, ⟨ku HK.out⟩, ⟨beg (IsS57.ge HI0.out) HB.out⟩⟩
   case rest =>
    clear HC6; (try clear c2); (try clear p2); (try clear c4); (try clear c7); (try clear c7b0); (try clear hcz8_0); (try clear hcz8_1); (try clear hfz8_0); (try clear hfz8_1); (try clear p2); obtain ⟨kq, x19_5, rfl, HA, HJ5, HO_4, HI0, HK, HB⟩ := hcut
    cases kq with
    | zero => exact absurd HA.out (by simp [packhorseref13_Take.j1])
    | succ kj5 =>
     have H := HA.out; clear HA; simp only [packhorseref13_Take.j1] at H
     by_cases c9 : x19_5 = true
     ·subst c9
      have H1 : ((packhorseref10_Scan_Number.f kj5 x1000_1 x1001_1 1000000000000).bind fun bt347 => ((packhorseref10_Scan_Number.f kj5 bt347.2.1 bt347.2.2 7).bind fun bt350 => ((packhorseref10_Scan_Number.f kj5 bt350.2.1 bt350.2.2 1000000).bind fun bt353 => ((packhorseref10_Scan_Number.f kj5 bt353.2.1 bt353.2.2 1099511627776).bind fun bt356 => ((packhorseref10_Scan_Number.f kj5 bt356.2.1 bt356.2.2 1000000000000).bind fun bt359 => ((packhorseref10_Scan_Text.f kj5 bt359.2.1 bt359.2.2 32).bind fun bt362 => (if x4_1.length < 2513169434916 then (packhorseref13_Take.l0 kj5 (x4_1 ++ [(⟨bt347.1, bt359.1, bt356.1, bt350.1, bt353.1, bt362.1⟩ : S27)]) t342 (wrap64 (x6_1 + 1)) bt362.2.1 bt362.2.2) else (none)))))))) = some (r1, r2, r3, r4) := by rw [if_pos rfl] at H; exact H
      clear H; have H := H1; clear H1; replace H := obm H; obtain ⟨⟨t347, t348, t349⟩, A100, H⟩ := H; replace H : ((packhorseref10_Scan_Number.f kj5 t348 t349 7).bind fun bt350 => ((packhorseref10_Scan_Number.f kj5 bt350.2.1 bt350.2.2 1000000).bind fun bt353 => ((packhorseref10_Scan_Number.f kj5 bt353.2.1 bt353.2.2 1099511627776).bind fun bt356 => ((packhorseref10_Scan_Number.f kj5 bt356.2.1 bt356.2.2 1000000000000).bind fun bt359 => ((packhorseref10_Scan_Text.f kj5 bt359.2.1 bt359.2.2 32).bind fun bt362 => (if x4_1.length < 2513169434916 then (packhorseref13_Take.l0 kj5 (x4_1 ++ [(⟨t347, bt359.1, bt356.1, bt350.1, bt353.1, bt362.1⟩ : S27)]) t342 (wrap64 (x6_1 + 1)) bt362.2.1 bt362.2.2) else (none))))))) = some (r1, r2, r3, r4) := H; have A10 := am A100; clear A100; replace H := obm H; obtain ⟨⟨t350, t351, t352⟩, A110, H⟩ := H; replace H : ((packhorseref10_Scan_Number.f kj5 t351 t352 1000000).bind fun bt353 => ((packhorseref10_Scan_Number.f kj5 bt353.2.1 bt353.2.2 1099511627776).bind fun bt356 => ((packhorseref10_Scan_Number.f kj5 bt356.2.1 bt356.2.2 1000000000000).bind fun bt359 => ((packhorseref10_Scan_Text.f kj5 bt359.2.1 bt359.2.2 32).bind fun bt362 => (if x4_1.length < 2513169434916 then (packhorseref13_Take.l0 kj5 (x4_1 ++ [(⟨t347, bt359.1, bt356.1, t350, bt353.1, bt362.1⟩ : S27)]) t342 (wrap64 (x6_1 + 1)) bt362.2.1 bt362.2.2) else (none)))))) = some (r1, r2, r3, r4) := H; have A11 := am A110; clear A110; replace H := obm H; obtain ⟨⟨t353, t354, t355⟩, A120, H⟩ := H; replace H : ((packhorseref10_Scan_Number.f kj5 t354 t355 1099511627776).bind fun bt356 => ((packhorseref10_Scan_Number.f kj5 bt356.2.1 bt356.2.2 1000000000000).bind fun bt359 => ((packhorseref10_Scan_Text.f kj5 bt359.2.1 bt359.2.2 32).bind fun bt362 => (if x4_1.length < 2513169434916 then (packhorseref13_Take.l0 kj5 (x4_1 ++ [(⟨t347, bt359.1, bt356.1, t350, t353, bt362.1⟩ : S27)]) t342 (wrap64 (x6_1 + 1)) bt362.2.1 bt362.2.2) else (none))))) = some (r1, r2, r3, r4) := H; have A12 := am A120; clear A120; replace H := obm H; obtain ⟨⟨t356, t357, t358⟩, A130, H⟩ := H; replace H : ((packhorseref10_Scan_Number.f kj5 t357 t358 1000000000000).bind fun bt359 => ((packhorseref10_Scan_Text.f kj5 bt359.2.1 bt359.2.2 32).bind fun bt362 => (if x4_1.length < 2513169434916 then (packhorseref13_Take.l0 kj5 (x4_1 ++ [(⟨t347, bt359.1, t356, t350, t353, bt362.1⟩ : S27)]) t342 (wrap64 (x6_1 + 1)) bt362.2.1 bt362.2.2) else (none)))) = some (r1, r2, r3, r4) := H; have A13 := am A130; clear A130; replace H := obm H; obtain ⟨⟨t359, t360, t361⟩, A140, H⟩ := H; replace H : ((packhorseref10_Scan_Text.f kj5 t360 t361 32).bind fun bt362 => (if x4_1.length < 2513169434916 then (packhorseref13_Take.l0 kj5 (x4_1 ++ [(⟨t347, t359, t356, t350, t353, bt362.1⟩ : S27)]) t342 (wrap64 (x6_1 + 1)) bt362.2.1 bt362.2.2) else (none))) = some (r1, r2, r3, r4) := H; have A14 := am A140; clear A140; replace H := obm H; obtain ⟨⟨t362, t363, t364⟩, A150, H⟩ := H; replace H : (if x4_1.length < 2513169434916 then (packhorseref13_Take.l0 kj5 (x4_1 ++ [(⟨t347, t359, t356, t350, t353, t362⟩ : S27)]) t342 (wrap64 (x6_1 + 1)) t363 t364) else (none)) = some (r1, r2, r3, r4) := H; have A15 := am A150; clear A150
      by_cases c16 : x4_1.length < 2513169434916
      ·rw [if_pos c16] at H
       have LMc16 := am c16; clear c16; obtain ⟨y365, hy365⟩ : ∃ y_ : List (S27), y_ = (x4_1 ++ [(⟨t347, t359, t356, t350, t353, t362⟩ : S27)]) := ⟨_, rfl⟩
       replace H : (packhorseref13_Take.l0 kj5 y365 t342 (wrap64 (x6_1 + 1)) t363 t364) = some (r1, r2, r3, r4) := by first | (rw [hy365]; with_reducible exact H) | (have H2_ := (Option.bind_some _ _).symm.trans H; rw [hy365]; with_reducible exact H2_) | (have H2_ := (Option.bind_some _ _).symm.trans H; with_reducible exact H2_) | with_reducible exact H | (rw [hy365]; exact H) | exact H
       have Ny365 := am hy365; clear hy365; have H' := am H; clear H
       go_wp2_with (first | ((with_reducible refine gate_dst (N := 7) rfl ?_); refine box_event ?hg (N := 7) ?hd (cs := #[.int .i64 0, .int .i64 0, .int .i64 0, .int .i64 0, .int .i64 0, .string ⟨#[]⟩]) (t := 27) ?hr ?_; (case hd => rfl); (case hg => rfl); (case hr => first | (go_simp; done) | (go_simp; rfl)); intro gb346 hg w17 hbox hb; have _ := am (Kd.R_below (Kd.R_elderB (ru HO_4.out) gb346 (Nat.le_of_eq hg.symm)) hb); have _ := am (IsS57.below (IsS57.u HI0.out) hb); have _ := am (KeepBut.trans (ku HK.out) (KeepBut.of_below hb g none) (.inl rfl)); have _ := am (below_step (beg (IsS57.ge HI0.out) HB.out) hb); have _ := am (hbox); have _ := am ((by rw [hg]; exact (keep_size (w := w) (g := g) (row := none) (ku HK.out)) : w.heap.size ≤ gb346)); have _ := am ((Nat.le_trans HW0.out (by rw [hg]; exact (keep_size (w := w) (g := g) (row := none) (ku HK.out)) : w.heap.size ≤ gb346) : w0.heap.size ≤ gb346)); have _ := am ((by rw [hg]; exact (IsS57.lt (show IsS57 w0 _ g x1000_1 x1001_1 from IsS57.u HI0.out)) : g < gb346)); have _ := am ((by rw [hg]; exact Nat.ne_of_lt (IsS57.lt (show IsS57 w0 _ g x1000_1 x1001_1 from IsS57.u HI0.out)) : g ≠ gb346)); have _ := am ((by rw [hg]; exact Nat.ne_of_gt (IsS57.lt (show IsS57 w0 _ g x1000_1 x1001_1 from IsS57.u HI0.out)) : gb346 ≠ g)); clear HO_4 HI0 HK HB; rename_i HO_4 HI0 HK HB BK346 GW346 GE346 NG0_346 NB0_346 NB346_0; clear hb hbox hg; have := NB346_0.out; have := NB0_346.out; obtain ⟨_, _, _, _, _, _⟩ := cells6 BK346.out; obtain ⟨_, _, _, _, _, _⟩ := frozens6 BK346.out) | ((with_reducible refine gate_callee (f := 41) rfl ?_); refine goesL_ (some 24) rfl rfl Tryd.func41 (by kernel_rfl) rfl #[.pointer (some ⟨g, 0, none⟩), .int .u64 1000000000000] rfl ap1 ?_; (with_reducible refine (packhorseref10_Scan_Number.calls kj5 g x1000_1 x1001_1 1000000000000 t347 t348 t349 w0 _ ?side1 ?side2 A10.out).mono ?_); (case side1 => exact IsS57.u HI0.out); (case side2 => exact beg (IsS57.ge HI0.out) HB.out); rintro e w20 ⟨rfl, hi, hb, hk⟩; refine ⟨_, rfl, ?_⟩; have _ := am (Kd.R_mono (Kd.R_keep (IsS57.apart (show IsS57 w0 _ g x1000_1 x1001_1 from IsS57.u HI0.out) (ru (Kd.R_mono (rf gb346 5 (rf gb346 4 (rf gb346 3 (rf gb346 2 (rf gb346 1 (rf gb346 0 (Kd.R_mono HO_4.out (fun k_ hk => (⟨hk, by first | exact hk.2 | exact hk.2.2.2 | exact hk.2.2 | exact hk.2.1 | exact hk.2.2.1⟩ : _ ∧ k_ ≠ gb346))) (.int .i64 0)) (.int .i64 0)) (.int .i64 0)) (.int .i64 0)) (.int .i64 0)) (.string ⟨#[]⟩)) (fun _ h_ => h_.1))) (by decide)) hk (fun _ h => h.2)) (fun _ h => h.1)); have _ := am (KeepBut.blk hk (g' := gb346) (o := .cells #[.int .i64 0, .int .i64 0, .int .i64 0, .int .i64 0, .int .i64 0, .string ⟨#[]⟩] 27 (0, 0)) (by refine bu ?_; refine blk_put (cs := #[.int .i64 0, .int .i64 0, .int .i64 0, .int .i64 0, .int .i64 0, .string ⟨#[]⟩]) ?_ 5 _ rfl; refine bu ?_; refine blk_put (cs := #[.int .i64 0, .int .i64 0, .int .i64 0, .int .i64 0, .int .i64 0, .string ⟨#[]⟩]) ?_ 4 _ rfl; refine bu ?_; refine blk_put (cs := #[.int .i64 0, .int .i64 0, .int .i64 0, .int .i64 0, .int .i64 0, .string ⟨#[]⟩]) ?_ 3 _ rfl; refine bu ?_; refine blk_put (cs := #[.int .i64 0, .int .i64 0, .int .i64 0, .int .i64 0, .int .i64 0, .string ⟨#[]⟩]) ?_ 2 _ rfl; refine bu ?_; refine blk_put (cs := #[.int .i64 0, .int .i64 0, .int .i64 0, .int .i64 0, .int .i64 0, .string ⟨#[]⟩]) ?_ 1 _ rfl; refine bu ?_; refine blk_put (cs := #[.int .i64 0, .int .i64 0, .int .i64 0, .int .i64 0, .int .i64 0, .string ⟨#[]⟩]) ?_ 0 _ rfl; refine bu ?_; exact BK346.out) NB346_0.out (by simp)); have _ := am (KeepBut.trans (ku HK.out) hk (.inl rfl)); have _ := am (hb); have _ := am (hi); clear HO_4 BK346 HK HB HI0; rename_i HO_4 BK346 HK HB HI0; (try clear hb hk hi); obtain ⟨_, _, _, _, _, _⟩ := cells6 BK346.out; obtain ⟨_, _, _, _, _, _⟩ := frozens6 BK346.out) | ((with_reducible refine gate_callee (f := 41) rfl ?_); refine goesL_ (some 27) rfl rfl Tryd.func41 (by kernel_rfl) rfl #[.pointer (some ⟨g, 0, none⟩), .int .u64 7] rfl ap1 ?_; (with_reducible refine (packhorseref10_Scan_Number.calls kj5 g t348 t349 7 t350 t351 t352 w0 _ ?side1 ?side2 A11.out).mono ?_); (case side1 => exact IsS57.u HI0.out); (case side2 => exact beg (IsS57.ge HI0.out) HB.out); rintro e w22 ⟨rfl, hi, hb, hk⟩; refine ⟨_, rfl, ?_⟩; have _ := am (Kd.R_mono (Kd.R_keep (IsS57.apart (show IsS57 w0 _ g t348 t349 from IsS57.u HI0.out) (ru (Kd.R_mono (rf gb346 0 (Kd.R_mono HO_4.out (fun k_ hk => (⟨hk, by first | exact hk.2 | exact hk.2.2.2 | exact hk.2.2 | exact hk.2.1 | exact hk.2.2.1⟩ : _ ∧ k_ ≠ gb346))) (.int .i64 t347)) (fun _ h_ => h_.1))) (by decide)) hk (fun _ h => h.2)) (fun _ h => h.1)); have _ := am (KeepBut.blk hk (g' := gb346) (o := .cells #[.int .i64 t347, .int .i64 0, .int .i64 0, .int .i64 0, .int .i64 0, .string ⟨#[]⟩] 27 (0, 0)) (by refine bu ?_; refine blk_put (cs := #[.int .i64 0, .int .i64 0, .int .i64 0, .int .i64 0, .int .i64 0, .string ⟨#[]⟩]) ?_ 0 _ rfl; refine bu ?_; exact BK346.out) NB346_0.out (by simp)); have _ := am (KeepBut.trans (ku HK.out) hk (.inl rfl)); have _ := am (hb); have _ := am (hi); clear HO_4 BK346 HK HB HI0; rename_i HO_4 BK346 HK HB HI0; (try clear hb hk hi); obtain ⟨_, _, _, _, _, _⟩ := cells6 BK346.out; obtain ⟨_, _, _, _, _, _⟩ := frozens6 BK346.out) | ((with_reducible refine gate_callee (f := 41) rfl ?_); refine goesL_ (some 30) rfl rfl Tryd.func41 (by kernel_rfl) rfl #[.pointer (some ⟨g, 0, none⟩), .int .u64 1000000] rfl ap1 ?_; (with_reducible refine (packhorseref10_Scan_Number.calls kj5 g t351 t352 1000000 t353 t354 t355 w0 _ ?side1 ?side2 A12.out).mono ?_); (case side1 => exact IsS57.u HI0.out); (case side2 => exact beg (IsS57.ge HI0.out) HB.out); rintro e w24 ⟨rfl, hi, hb, hk⟩; refine ⟨_, rfl, ?_⟩; have _ := am (Kd.R_mono (Kd.R_keep (IsS57.apart (show IsS57 w0 _ g t351 t352 from IsS57.u HI0.out) (ru (Kd.R_mono (rf gb346 3 (Kd.R_mono HO_4.out (fun k_ hk => (⟨hk, by first | exact hk.2 | exact hk.2.2.2 | exact hk.2.2 | exact hk.2.1 | exact hk.2.2.1⟩ : _ ∧ k_ ≠ gb346))) (.int .i64 t350)) (fun _ h_ => h_.1))) (by decide)) hk (fun _ h => h.2)) (fun _ h => h.1)); have _ := am (KeepBut.blk hk (g' := gb346) (o := .cells #[.int .i64 t347, .int .i64 0, .int .i64 0, .int .i64 t350, .int .i64 0, .string ⟨#[]⟩] 27 (0, 0)) (by refine bu ?_; refine blk_put (cs := #[.int .i64 t347, .int .i64 0, .int .i64 0, .int .i64 0, .int .i64 0, .string ⟨#[]⟩]) ?_ 3 _ rfl; refine bu ?_; exact BK346.out) NB346_0.out (by simp)); have _ := am (KeepBut.trans (ku HK.out) hk (.inl rfl)); have _ := am (hb); have _ := am (hi); clear HO_4 BK346 HK HB HI0; rename_i HO_4 BK346 HK HB HI0; (try clear hb hk hi); obtain ⟨_, _, _, _, _, _⟩ := cells6 BK346.out; obtain ⟨_, _, _, _, _, _⟩ := frozens6 BK346.out) | ((with_reducible refine gate_callee (f := 41) rfl ?_); refine goesL_ (some 33) rfl rfl Tryd.func41 (by kernel_rfl) rfl #[.pointer (some ⟨g, 0, none⟩), .int .u64 1099511627776] rfl ap1 ?_; (with_reducible refine (packhorseref10_Scan_Number.calls kj5 g t354 t355 1099511627776 t356 t357 t358 w0 _ ?side1 ?side2 A13.out).mono ?_); (case side1 => exact IsS57.u HI0.out); (case side2 => exact beg (IsS57.ge HI0.out) HB.out); rintro e w26 ⟨rfl, hi, hb, hk⟩; refine ⟨_, rfl, ?_⟩; have _ := am (Kd.R_mono (Kd.R_keep (IsS57.apart (show IsS57 w0 _ g t354 t355 from IsS57.u HI0.out) (ru (Kd.R_mono (rf gb346 4 (Kd.R_mono HO_4.out (fun k_ hk => (⟨hk, by first | exact hk.2 | exact hk.2.2.2 | exact hk.2.2 | exact hk.2.1 | exact hk.2.2.1⟩ : _ ∧ k_ ≠ gb346))) (.int .i64 t353)) (fun _ h_ => h_.1))) (by decide)) hk (fun _ h => h.2)) (fun _ h => h.1)); have _ := am (KeepBut.blk hk (g' := gb346) (o := .cells #[.int .i64 t347, .int .i64 0, .int .i64 0, .int .i64 t350, .int .i64 t353, .string ⟨#[]⟩] 27 (0, 0)) (by refine bu ?_; refine blk_put (cs := #[.int .i64 t347, .int .i64 0, .int .i64 0, .int .i64 t350, .int .i64 0, .string ⟨#[]⟩]) ?_ 4 _ rfl; refine bu ?_; exact BK346.out) NB346_0.out (by simp)); have _ := am (KeepBut.trans (ku HK.out) hk (.inl rfl)); have _ := am (hb); have _ := am (hi); clear HO_4 BK346 HK HB HI0; rename_i HO_4 BK346 HK HB HI0; (try clear hb hk hi); obtain ⟨_, _, _, _, _, _⟩ := cells6 BK346.out; obtain ⟨_, _, _, _, _, _⟩ := frozens6 BK346.out) | ((with_reducible refine gate_callee (f := 41) rfl ?_); refine goesL_ (some 36) rfl rfl Tryd.func41 (by kernel_rfl) rfl #[.pointer (some ⟨g, 0, none⟩), .int .u64 1000000000000] rfl ap1 ?_; (with_reducible refine (packhorseref10_Scan_Number.calls kj5 g t357 t358 1000000000000 t359 t360 t361 w0 _ ?side1 ?side2 A14.out).mono ?_); (case side1 => exact IsS57.u HI0.out); (case side2 => exact beg (IsS57.ge HI0.out) HB.out); rintro e w28 ⟨rfl, hi, hb, hk⟩; refine ⟨_, rfl, ?_⟩; have _ := am (Kd.R_mono (Kd.R_keep (IsS57.apart (show IsS57 w0 _ g t357 t358 from IsS57.u HI0.out) (ru (Kd.R_mono (rf gb346 2 (Kd.R_mono HO_4.out (fun k_ hk => (⟨hk, by first | exact hk.2 | exact hk.2.2.2 | exact hk.2.2 | exact hk.2.1 | exact hk.2.2.1⟩ : _ ∧ k_ ≠ gb346))) (.int .i64 t356)) (fun _ h_ => h_.1))) (by decide)) hk (fun _ h => h.2)) (fun _ h => h.1)); have _ := am (KeepBut.blk hk (g' := gb346) (o := .cells #[.int .i64 t347, .int .i64 0, .int .i64 t356, .int .i64 t350, .int .i64 t353, .string ⟨#[]⟩] 27 (0, 0)) (by refine bu ?_; refine blk_put (cs := #[.int .i64 t347, .int .i64 0, .int .i64 0, .int .i64 t350, .int .i64 t353, .string ⟨#[]⟩]) ?_ 2 _ rfl; refine bu ?_; exact BK346.out) NB346_0.out (by simp)); have _ := am (KeepBut.trans (ku HK.out) hk (.inl rfl)); have _ := am (hb); have _ := am (hi); clear HO_4 BK346 HK HB HI0; rename_i HO_4 BK346 HK HB HI0; (try clear hb hk hi); obtain ⟨_, _, _, _, _, _⟩ := cells6 BK346.out; obtain ⟨_, _, _, _, _, _⟩ := frozens6 BK346.out) | ((with_reducible refine gate_callee (f := 42) rfl ?_); refine goesL_ (some 39) rfl rfl Tryd.func42 (by kernel_rfl) rfl #[.pointer (some ⟨g, 0, none⟩), .int .u64 32] rfl ap1 ?_; (with_reducible refine (packhorseref10_Scan_Text.calls kj5 g t360 t361 32 t362 t363 t364 w0 _ ?side1 ?side2 A15.out).mono ?_); (case side1 => exact IsS57.u HI0.out); (case side2 => exact beg (IsS57.ge HI0.out) HB.out); rintro e w30 ⟨rfl, hi, hb, hk⟩; refine ⟨_, rfl, ?_⟩; have _ := am (Kd.R_mono (Kd.R_keep (IsS57.apart (show IsS57 w0 _ g t360 t361 from IsS57.u HI0.out) (ru (Kd.R_mono (rf gb346 1 (Kd.R_mono HO_4.out (fun k_ hk => (⟨hk, by first | exact hk.2 | exact hk.2.2.2 | exact hk.2.2 | exact hk.2.1 | exact hk.2.2.1⟩ : _ ∧ k_ ≠ gb346))) (.int .i64 t359)) (fun _ h_ => h_.1))) (by decide)) hk (fun _ h => h.2)) (fun _ h => h.1)); have _ := am (KeepBut.blk hk (g' := gb346) (o := .cells #[.int .i64 t347, .int .i64 t359, .int .i64 t356, .int .i64 t350, .int .i64 t353, .string ⟨#[]⟩] 27 (0, 0)) (by refine bu ?_; refine blk_put (cs := #[.int .i64 t347, .int .i64 0, .int .i64 t356, .int .i64 t350, .int .i64 t353, .string ⟨#[]⟩]) ?_ 1 _ rfl; refine bu ?_; exact BK346.out) NB346_0.out (by simp)); have _ := am (KeepBut.trans (ku HK.out) hk (.inl rfl)); have _ := am (hb); have _ := am (hi); clear HO_4 BK346 HK HB HI0; rename_i HO_4 BK346 HK HB HI0; (try clear hb hk hi); obtain ⟨_, _, _, _, _, _⟩ := cells6 BK346.out; obtain ⟨_, _, _, _, _, _⟩ := frozens6 BK346.out) | ((with_reducible refine gate_builtin (b := .append) (xs := #[.tmp 41, .tmp 43]) rfl ?_); at_builtin; refine Kd.R_append k27 w.heap.size rfl (.tmp 41) (.tmp 43) 22 27 (.agg #[(.int .i64 0), (.int .i64 0), (.int .i64 0), (.int .i64 0), (.int .i64 0), (.string ⟨#[]⟩)]) 56 rfl Tryd.underlying22 info27 rfl (by decide) (by omega) u4 x4_1 (⟨t347, t359, t356, t350, t353, t362⟩ : S27) [.int .i64 t347, .int .i64 t359, .int .i64 t356, .int .i64 t350, .int .i64 t353, .string t362] (fun k_ => k_ ≠ gb346) (fun _ => False) rfl (by first | (go_simp; done) | (go_simp; rfl)) ?aP (fun _ hk => hk.elim) ?aF ?aO (Below.refl _ _) ?aS ?aL ?_; (case aP => exact k27_mkM _ _ _ (⟨t347, t359, t356, t350, t353, t362⟩ : S27)); (case aF => exact (fun k_ hk => Kd.freshB (g := gb346) (o := .cells #[.int .i64 t347, .int .i64 t359, .int .i64 t356, .int .i64 t350, .int .i64 t353, .string t362] 27 (0, 0)) (by refine bu ?_; refine blk_put (cs := #[.int .i64 t347, .int .i64 t359, .int .i64 t356, .int .i64 t350, .int .i64 t353, .string ⟨#[]⟩]) ?_ 5 _ rfl; refine bu ?_; exact BK346.out) k_ hk)); (case aO => exact (ru (Kd.R_mono (rf gb346 5 (Kd.R_mono HO_4.out (fun k_ hk => (⟨hk, by first | exact hk.2 | exact hk.2.2.2 | exact hk.2.2 | exact hk.2.1 | exact hk.2.2.1⟩ : _ ∧ k_ ≠ gb346))) (.string t362)) (fun _ hk => hk.1.2)))); (case aS => exact (keep_size (w := w) (g := g) (row := none) (ku HK.out))); (case aL => have := LMc16.out; omega); intro v366 w32 ho hb hg hat; rw [← Ny365.out] at ho; have _ := am (IsS57.grown (show IsS57 w0 _ g t363 t364 from IsS57.u HI0.out) hg (IsS57.own_ne HI0.out HO_4.out (by decide))); have _ := am (blk_grown (g := gb346) (o := .cells #[.int .i64 t347, .int .i64 t359, .int .i64 t356, .int .i64 t350, .int .i64 t353, .string t362] 27 (0, 0)) (by refine bu ?_; refine blk_put (cs := #[.int .i64 t347, .int .i64 t359, .int .i64 t356, .int .i64 t350, .int .i64 t353, .string ⟨#[]⟩]) ?_ 5 _ rfl; refine bu ?_; exact BK346.out) hg (Kd.R_away HO_4.out (fun _ hk => hk.2))); have _ := am (below_weaken (beg (IsS57.ge HI0.out) HB.out) HL.out hb); have _ := am (KeepBut.trans (ku HK.out) (KeepBut.of_grown hg g) (Kd.R_base2 HO_4.out)); have _ := am (ho); clear HI0 BK346 HB HK HO_4; rename_i HI0 BK346 HB HK HO367; clear ho hb hg hat))
       go_roundg kj5
       case measure => have := HK1.out; have := HJ5.out; omega
       case rel => exact ⟨(y365), (wrap64 (x6_1 + 1)), (t363), (t364), ap3, H', ⟨by have := HK1.out; have := HJ5.out; omega⟩, ⟨ru (Kd.R_mono HO367.out (fun _ hk => trivial))⟩, ⟨IsS57.u HI0.out⟩, ⟨ku HK.out⟩, ⟨beg (IsS57.ge HI0.out) HB.out⟩⟩
      ·rw [if_neg c16] at H
       exact absurd H (by simp)
     ·replace c9 := Bool.eq_false_iff.mpr c9
      subst c9
      have H1 : (if x1001_1 = true then ((packhorseref13_Right.f kj5 x4_1).bind fun t345 => (if t345 = true then (some (x4_1, true, x1000_1, x1001_1)) else (some (([] : List (S27)), false, x1000_1, x1001_1)))) else (some (([] : List (S27)), false, x1000_1, x1001_1))) = some (r1, r2, r3, r4) := by rw [if_neg (show ¬ (false = true) by decide)] at H; exact H
      clear H; have H := H1; clear H1
      by_cases c33 : x1001_1 = true
      ·subst c33
       have H1 : ((packhorseref13_Right.f kj5 x4_1).bind fun t345 => (if t345 = true then (some (x4_1, true, x1000_1, true)) else (some (([] : List (S27)), false, x1000_1, true)))) = some (r1, r2, r3, r4) := by rw [if_pos rfl] at H; exact H
       clear H; have H := H1; clear H1; replace H := obm H; obtain ⟨t345, A340, H⟩ := H; replace H : (if t345 = true then (some (x4_1, true, x1000_1, true)) else (some (([] : List (S27)), false, x1000_1, true))) = some (r1, r2, r3, r4) := H; have A34 := am A340; clear A340
       by_cases c35 : t345 = true
       ·subst c35
        have H1 : (some (x4_1, true, x1000_1, true)) = some (r1, r2, r3, r4) := by rw [if_pos rfl] at H; exact H
        clear H; have H := H1; clear H1; simp only [Option.some.injEq, Prod.mk.injEq] at H; obtain ⟨rfl, rfl, rfl, rfl⟩ := H; obtain ⟨ASz36_0, cSz36_0, HGz36, hgz36, HSz36_0⟩ := HI0.out; have hcz36_0 := cellS57_0 HGz36; have hcz36_1 := cellS57_1 HGz36; have hfz36_0 := blk_frozen HGz36 0; have hfz36_1 := blk_frozen HGz36 1; clear HGz36 hgz36; obtain ⟨Ao37, co37, eo37⟩ := Kd.R_slice HO_4.out; subst eo37
        go_wp2_with (first | (go_at_call 27; (with_reducible refine (packhorseref13_Right.calls kj5 _ _ x4_1 true _ ?side1 ?side2 A34.out).mono ?_); (case side1 => exact cu (Kd.R_reads' HO_4.out).2.2); (case side2 => exact (Kd.R_reads' HO_4.out).2.1); rintro e w38 ⟨rfl, hb⟩; have _ := am (Kd.R_below (ru HO_4.out) hb); have _ := am (IsS57.below (IsS57.u HI0.out) hb); have _ := am (KeepBut.trans (ku HK.out) (KeepBut.of_below hb g none) (.inl rfl)); have _ := am (below_step (beg (IsS57.ge HI0.out) HB.out) hb); clear HO_4 HI0 HK HB; rename_i HO_4 HI0 HK HB; (try clear hb)))
        go_ret2
        exact ⟨_, ap4, ru HO_4.out, IsS57.u HI0.out, beg (IsS57.ge HI0.out) HB.out, ku HK.out⟩
       ·replace c35 := Bool.eq_false_iff.mpr c35
        subst c35
        have H1 : (some (([] : List (S27)), false, x1000_1, true)) = some (r1, r2, r3, r4) := by rw [if_neg (show ¬ (false = true) by decide)] at H; exact H
        clear H; have H := H1; clear H1; simp only [Option.some.injEq, Prod.mk.injEq] at H; obtain ⟨rfl, rfl, rfl, rfl⟩ := H; obtain ⟨ASz39_0, cSz39_0, HGz39, hgz39, HSz39_0⟩ := HI0.out; have hcz39_0 := cellS57_0 HGz39; have hcz39_1 := cellS57_1 HGz39; have hfz39_0 := blk_frozen HGz39 0; have hfz39_1 := blk_frozen HGz39 1; clear HGz39 hgz39; obtain ⟨Ao40, co40, eo40⟩ := Kd.R_slice HO_4.out; subst eo40
        go_wp2_with (first | (go_at_call 27; (with_reducible refine (packhorseref13_Right.calls kj5 _ _ x4_1 false _ ?side1 ?side2 A34.out).mono ?_); (case side1 => exact cu (Kd.R_reads' HO_4.out).2.2); (case side2 => exact (Kd.R_reads' HO_4.out).2.1); rintro e w41 ⟨rfl, hb⟩; have _ := am (Kd.R_below (ru HO_4.out) hb); have _ := am (IsS57.below (IsS57.u HI0.out) hb); have _ := am (KeepBut.trans (ku HK.out) (KeepBut.of_below hb g none) (.inl rfl)); have _ := am (below_step (beg (IsS57.ge HI0.out) HB.out) hb); clear HO_4 HI0 HK HB; rename_i HO_4 HI0 HK HB; (try clear hb)))
        go_ret2
        exact ⟨_, ap4, by first | exact Kd.R_nil _ _ _ _ _ | exact Kd.N_nil _ _ _ _ _ | exact Kd.V_nil _ _ _ _ _ | exact Kd.Q_nil _ _ _ _ _ | exact Kd.S_nil _ _ _ _ _, IsS57.u HI0.out, beg (IsS57.ge HI0.out) HB.out, ku HK.out⟩
      ·replace c33 := Bool.eq_false_iff.mpr c33
       subst c33
       have H1 : (some (([] : List (S27)), false, x1000_1, false)) = some (r1, r2, r3, r4) := by rw [if_neg (show ¬ (false = true) by decide)] at H; exact H
       clear H; have H := H1; clear H1; simp only [Option.some.injEq, Prod.mk.injEq] at H; obtain ⟨rfl, rfl, rfl, rfl⟩ := H; obtain ⟨ASz42_0, cSz42_0, HGz42, hgz42, HSz42_0⟩ := HI0.out; have hcz42_0 := cellS57_0 HGz42; have hcz42_1 := cellS57_1 HGz42; have hfz42_0 := blk_frozen HGz42 0; have hfz42_1 := blk_frozen HGz42 1; clear HGz42 hgz42
       go_wp2
       go_ret2
       exact ⟨_, ap4, by first | exact Kd.R_nil _ _ _ _ _ | exact Kd.N_nil _ _ _ _ _ | exact Kd.V_nil _ _ _ _ _ | exact Kd.Q_nil _ _ _ _ _ | exact Kd.S_nil _ _ _ _ _, IsS57.u HI0.out, beg (IsS57.ge HI0.out) HB.out, ku HK.out⟩
theorem packhorseref13_Take.callsJ (k : Nat) (g : Nat) (s0_0 : List Int) (s0_1 : Bool) (r1 : List (S27)) (r2 : Bool) (r3 : List Int) (r4 : Bool) (w0 w : World) (hI : JS57 w0 w g s0_0 s0_1) (hB : Below w0.heap.size w0 w) (h : packhorseref13_Take.f k s0_0 s0_1 = some (r1, r2, r3, r4)) :
  Calls Tryd.prog 26 #[.pointer (some ⟨g, 0, none⟩)] w fun e w' => ∃ v0_ : Value, e = .returned (.tuple #[v0_, .bool r2]) ∧ Kd.R k27 27 w' w.heap.size (fun _ => True) v0_ r1 ∧ JS57 w0 w' g r3 r4 ∧ Below w0.heap.size w0 w' ∧ KeepBut w w' g none := by
 obtain ⟨wS, hIs, hBs, hle⟩ := hI
 exact (packhorseref13_Take.calls k g s0_0 s0_1 r1 r2 r3 r4 wS w hIs hBs h).mono fun e w' hp_ => by
  obtain ⟨z0_, p0_, p1_, hi_, hb_, hk_⟩ := hp_; exact ⟨z0_, p0_, p1_, ⟨wS, hi_, hb_, hle⟩, below_keepJ57 hB hBs hb_ hk_ (Nat.le_trans hle.size (IsS57.ge hIs)), hk_⟩
mutual
def packet_Number.l0 : Nat → List Int → List Int → Int → Int → Option (List Int)
 | 0, _, _, _, _ => none
 | k + 1, x5, x10, x11, x12 => if x12 < x11 then (if 0 ≤ x12 then (if x12 < (x10.length : Int) then (packet_Number.l1 k x5 (rd x10 x12) x10 x11 x12) else (none)) else (none)) else (some x5)
def packet_Number.l1 : Nat → List Int → Int → List Int → Int → Int → Option (List Int)
 | 0, _, _, _, _, _ => none
 | k + 1, x5, x7, x10, x11, x12 => if x7 ≥ 128 then (if x5.length < 140737488355328 then (packet_Number.l1 k (x5 ++ [Go.bits .or .u8 ((x7) % 256) 128]) (x7 / 128) x10 x11 x12) else (none)) else (if x5.length < 140737488355328 then (packet_Number.l0 k (x5 ++ [(x7) % 256]) x10 x11 (wrap64 (x12 + 1))) else (none))
end
def packet_Number.f (k : Nat) (l0 : List Int) (l1 : List Int) : Option (List Int) := (slices_Clone_byte_byte.f l0).bind fun t368 => (packet_Number.l0 k t368 l1 (l1.length : Int) 0)
set_option maxHeartbeats 8000000 in
set_option maxRecDepth 100000 in
theorem packet_Number.calls (k : Nat) (A0 : Option Addr) (c0 : Nat) (l0 : List Int) (A1 : Option Addr) (c1 : Nat) (l1 : List Int) (r : List Int) (w : World) (hr0 : Kd.C (Kd.int .u8) w A0 l0.length l0) (hc0 : l0.length ≤ c0) (hr1 : Kd.C (Kd.int .u64) w A1 l1.length l1) (hc1 : l1.length ≤ c1) (h : packet_Number.f k l0 l1 = some r) :
  Calls Tryd.prog 44 #[.slice A0 l0.length c0, .slice A1 l1.length c1] w fun e w' => ∃ v0_ : Value, e = .returned (v0_) ∧ Kd.R (Kd.int .u8) 5 w' w.heap.size (fun _ => True) v0_ r ∧ Below w.heap.size w w' := by
 have HR0 := am hr0; have HC0 := am hc0; clear hr0 hc0; have HR1 := am hr1; have HC1 := am hc1; clear hr1 hc1; have HB := am (Below.refl w.heap.size w); have H : ((slices_Clone_byte_byte.f l0).bind fun t368 => (packet_Number.l0 k t368 l1 (l1.length : Int) 0)) = some r := h; clear h; replace H := obm H; obtain ⟨t368, A30, H⟩ := H; replace H : (packet_Number.l0 k t368 l1 (l1.length : Int) 0) = some r := H; have A3 := am A30; clear A30; have H' := am H; clear H
 go_enter Tryd.func44, Tryd.ntmps44
 go_wp2_with (first | ((with_reducible refine gate_callee (f := 40) rfl ?_); refine goesL_ (some 9) rfl rfl Tryd.func40 (by kernel_rfl) rfl #[.slice A0 l0.length c0] rfl ap1 ?_; (with_reducible refine (slices_Clone_byte_byte.calls _ _ l0 t368 _ ?side1 ?side2 A3.out).mono ?_); (case side1 => repeat (first | exact HR0.out | (with_reducible refine Kd.C_alloc ?_ _) | (with_reducible refine Kd.C_drewN ?_ _) | (with_reducible refine Kd.C_drew ?_))); (case side2 => exact HC0.out); rintro e w4 ⟨v369, rfl, ho0, hb⟩; refine ⟨_, rfl, ?_⟩; have _ := am (Kd.R_lower ho0 (below_size (beu HB.out))); have _ := am (below_step (beu HB.out) hb); clear HB; rename_i HO370 HB; (try clear hb); (try clear ho0)))
 go_loopg [5, 12] k (fun kq v5 v12 w' => ∃ (x5_1 : List Int) (x12_1 : Int), v12 = .int .i64 x12_1 ∧ Aside0 (packet_Number.l0 kq x5_1 l1 (l1.length : Int) x12_1 = some r) ∧ Aside0 (kq ≤ k) ∧ Aside0 (Kd.R (Kd.int .u8) 5 w' w.heap.size (fun _ => True) v5 x5_1) ∧ Aside0 (Below w.heap.size w w'))
 case atStart => exact ⟨(t368), (0), ap3, H', ⟨Nat.le_refl _⟩, ⟨ru HO370.out⟩, ⟨beu HB.out⟩⟩
 case round =>
  clear H'; (try clear c1); (try clear p2); (try clear c4); obtain ⟨x5_1, x12_1, rfl, HA, HK1, HO_5, HB⟩ := hrel
  cases gk with
  | zero => exact absurd HA.out (by simp [packet_Number.l0])
  | succ k1 =>
   have H := HA.out; clear HA; simp only [packet_Number.l0] at H
   by_cases c5 : x12_1 < (l1.length : Int)
   ·rw [if_pos c5] at H
    have c5b0 : decide (x12_1 < (l1.length : Int)) = true := decide_eq_true c5; clear c5
    by_cases c6 : 0 ≤ x12_1
    ·rw [if_pos c6] at H
     have c6b0 : decide (0 ≤ x12_1) = true := decide_eq_true c6; clear c6
     by_cases c7 : x12_1 < (l1.length : Int)
     ·rw [if_pos c7] at H
      have c7b0 : decide (x12_1 < (l1.length : Int)) = true := decide_eq_true c7; clear c7; have H' := am H; clear H; have p371 : 0 ≤ (x12_1 : Int) := of_decide_eq_true ap2; have q371 : x12_1 < (l1.length : Int) := of_decide_eq_true ap2; obtain ⟨ad371, e371, hx371_0⟩ := Kd.at_int HR1.out x12_1 p371 q371
      cases e371
      replace hx371_0 := (HB.out.cell (World.block_lt_of_cell? w _ hx371_0)).trans hx371_0; replace p371 := eq_true p371; replace q371 := eq_true q371
      go_wp2
      go_loopg [5, 7] k1 (fun kq v5 v7 w' => ∃ (x5_2 : List Int) (x7_2 : Int), v7 = .int .u64 x7_2 ∧ Aside0 (packet_Number.l1 kq x5_2 x7_2 l1 (l1.length : Int) x12_1 = some r) ∧ Aside0 (kq ≤ k1) ∧ Aside0 (Kd.R (Kd.int .u8) 5 w' w.heap.size (fun _ => True) v5 x5_2) ∧ Aside0 (Below w.heap.size w w'))
      case atStart => exact ⟨(x5_1), (rd l1 x12_1), ap3, H', ⟨Nat.le_refl _⟩, ⟨ru HO_5.out⟩, ⟨beu HB.out⟩⟩
      case round =>
       clear H'; (try clear c1); (try clear p2); (try clear p3); (try clear q3); (try clear hx3); (try clear c4); (try clear c5); (try clear c5b0); (try clear c6); (try clear c6b0); (try clear c7); (try clear c7b0); (try clear hx371_0); (try clear p2); (try clear p371); (try clear q371); obtain ⟨x5_2, x7_2, rfl, HA, HK2, HO_5, HB⟩ := hrel
       cases gk with
       | zero => exact absurd HA.out (by simp [packet_Number.l1])
       | succ k2 =>
        have H := HA.out; clear HA; simp only [packet_Number.l1] at H
        by_cases c8 : x7_2 ≥ 128
        ·rw [if_pos c8] at H
         have c8b0 : decide (128 ≤ x7_2) = true := decide_eq_true c8; clear c8
         by_cases c9 : x5_2.length < 140737488355328
         ·rw [if_pos c9] at H
          have LMc9 := am c9; clear c9; obtain ⟨y372, hy372⟩ : ∃ y_ : List Int, y_ = (x5_2 ++ [Go.bits .or .u8 ((x7_2) % 256) 128]) := ⟨_, rfl⟩
          replace H : (packet_Number.l1 k2 y372 (x7_2 / 128) l1 (l1.length : Int) x12_1) = some r := by first | (rw [hy372]; with_reducible exact H) | (have H2_ := (Option.bind_some _ _).symm.trans H; rw [hy372]; with_reducible exact H2_) | (have H2_ := (Option.bind_some _ _).symm.trans H; with_reducible exact H2_) | with_reducible exact H | (rw [hy372]; exact H) | exact H
          have Ny372 := am hy372; clear hy372; have H' := am H; clear H
          go_wp2_with (first | ((with_reducible refine gate_builtin (b := .append) (xs := #[.tmp 20, .tmp 24]) rfl ?_); at_builtin; refine Kd.R_append (Kd.int .u8) (w0 := w) w.heap.size rfl (.tmp 20) (.tmp 24) 49 5 (.int .u8 0) 1 rfl Tryd.underlying49 info5 rfl (by decide) (by omega) u5 x5_2 (Go.bits .or .u8 ((x7_2) % 256) 128) [.int .u8 (Go.bits .or .u8 ((x7_2) % 256) 128)] (fun _ => True) (fun _ => False) rfl rfl ?aP (fun _ hk => hk.elim) ?aF ?aO ?aB ?aS ?aL ?_; (case aP => exact rfl); (case aB => exact (beu HB.out)); (case aF => exact (fun _ _ => trivial)); (case aO => exact (ru HO_5.out)); (case aS => exact (below_size (beu HB.out))); (case aL => have := LMc9.out; omega); intro v373 w10 ho hb hg hat; rw [← Ny372.out] at ho; have _ := am (hb); have _ := am (ho); clear HB HO_5; rename_i HB HO374; clear ho hb hg hat))
          go_roundg k2
          case measure => have := HK1.out; have := HK2.out; omega
          case rel => exact ⟨(y372), (x7_2 / 128), ap3, H', ⟨by have := HK1.out; have := HK2.out; omega⟩, ⟨ru HO374.out⟩, ⟨beu HB.out⟩⟩
         ·rw [if_neg c9] at H
          exact absurd H (by simp)
        ·rw [if_neg c8] at H
         have c8b0 : decide (128 ≤ x7_2) = false := decide_eq_false c8; clear c8
         by_cases c11 : x5_2.length < 140737488355328
         ·rw [if_pos c11] at H
          have LMc11 := am c11; clear c11; obtain ⟨y375, hy375⟩ : ∃ y_ : List Int, y_ = (x5_2 ++ [(x7_2) % 256]) := ⟨_, rfl⟩
          replace H : (packet_Number.l0 k2 y375 l1 (l1.length : Int) (wrap64 (x12_1 + 1))) = some r := by first | (rw [hy375]; with_reducible exact H) | (have H2_ := (Option.bind_some _ _).symm.trans H; rw [hy375]; with_reducible exact H2_) | (have H2_ := (Option.bind_some _ _).symm.trans H; with_reducible exact H2_) | with_reducible exact H | (rw [hy375]; exact H) | exact H
          have Ny375 := am hy375; clear hy375; have H' := am H; clear H
          go_wp2_with (first | ((with_reducible refine gate_builtin (b := .append) (xs := #[.tmp 26, .tmp 29]) rfl ?_); at_builtin; refine Kd.R_append (Kd.int .u8) (w0 := w) w.heap.size rfl (.tmp 26) (.tmp 29) 49 5 (.int .u8 0) 1 rfl Tryd.underlying49 info5 rfl (by decide) (by omega) u5 x5_2 ((x7_2) % 256) [.int .u8 ((x7_2) % 256)] (fun _ => True) (fun _ => False) rfl rfl ?aP (fun _ hk => hk.elim) ?aF ?aO ?aB ?aS ?aL ?_; (case aP => exact rfl); (case aB => exact (beu HB.out)); (case aF => exact (fun _ _ => trivial)); (case aO => exact (ru HO_5.out)); (case aS => exact (below_size (beu HB.out))); (case aL => have := LMc11.out; omega); intro v376 w12 ho hb hg hat; rw [← Ny375.out] at ho; have _ := am (hb); have _ := am (ho); clear HB HO_5; rename_i HB HO377; clear ho hb hg hat))
          go_roundg k2
          case measure => have := HK1.out; have := HK2.out; omega
          case rel => exact ⟨(y375), (wrap64 (x12_1 + 1)), ap3, H', ⟨by have := HK1.out; have := HK2.out; omega⟩, ⟨ru HO377.out⟩, ⟨beu HB.out⟩⟩
         ·rw [if_neg c11] at H
          exact absurd H (by simp)
     ·rw [if_neg c7] at H
      exact absurd H (by simp)
    ·rw [if_neg c6] at H
     exact absurd H (by simp)
   ·rw [if_neg c5] at H
    have c5b0 : decide (x12_1 < (l1.length : Int)) = false := decide_eq_false c5; clear c5; obtain rfl := Option.some.inj H; simp only [Option.some.injEq, Prod.mk.injEq] at H; obtain ⟨rfl⟩ := H
    go_wp2
    go_ret
    exact ⟨_, ap4, ru HO_5.out, beu HB.out⟩
def packet_Text.l0 : Nat → List Int → List ByteArray → Int → Int → Option (List Int)
 | 0, _, _, _, _ => none
 | k + 1, x5, x10, x11, x12 => if x12 < x11 then (if 0 ≤ x12 then (if x12 < (x10.length : Int) then ((packet_Number.f k x5 (([IntKind.u64.wrap (((rdOf ByteArray.empty x10 x12).size : Int))] : List Int))).bind fun t385 => (if t385.length + (rdOf ByteArray.empty x10 x12).size < 140737488355328 then (packet_Text.l0 k (t385 ++ bytesOf (rdOf ByteArray.empty x10 x12)) x10 x11 (wrap64 (x12 + 1))) else (none))) else (none)) else (none)) else (some x5)
def packet_Text.f (k : Nat) (l0 : List Int) (l1 : List ByteArray) : Option (List Int) := (slices_Clone_byte_byte.f l0).bind fun t378 => (packet_Text.l0 k t378 l1 (l1.length : Int) 0)
set_option maxHeartbeats 8000000 in
set_option maxRecDepth 100000 in
theorem packet_Text.calls (k : Nat) (A0 : Option Addr) (c0 : Nat) (l0 : List Int) (A1 : Option Addr) (c1 : Nat) (l1 : List ByteArray) (r : List Int) (w : World) (hr0 : Kd.C (Kd.int .u8) w A0 l0.length l0) (hc0 : l0.length ≤ c0) (hr1 : Kd.C Kd.string w A1 l1.length l1) (hc1 : l1.length ≤ c1) (h : packet_Text.f k l0 l1 = some r) :
  Calls Tryd.prog 45 #[.slice A0 l0.length c0, .slice A1 l1.length c1] w fun e w' => ∃ v0_ : Value, e = .returned (v0_) ∧ Kd.R (Kd.int .u8) 5 w' w.heap.size (fun _ => True) v0_ r ∧ Below w.heap.size w w' := by
 have HR0 := am hr0; have HC0 := am hc0; clear hr0 hc0; have HR1 := am hr1; have HC1 := am hc1; clear hr1 hc1; have HB := am (Below.refl w.heap.size w); have H : ((slices_Clone_byte_byte.f l0).bind fun t378 => (packet_Text.l0 k t378 l1 (l1.length : Int) 0)) = some r := h; clear h; replace H := obm H; obtain ⟨t378, A30, H⟩ := H; replace H : (packet_Text.l0 k t378 l1 (l1.length : Int) 0) = some r := H; have A3 := am A30; clear A30; have H' := am H; clear H
 go_enter Tryd.func45, Tryd.ntmps45
 go_wp2_with (first | ((with_reducible refine gate_callee (f := 40) rfl ?_); refine goesL_ (some 9) rfl rfl Tryd.func40 (by kernel_rfl) rfl #[.slice A0 l0.length c0] rfl ap1 ?_; (with_reducible refine (slices_Clone_byte_byte.calls _ _ l0 t378 _ ?side1 ?side2 A3.out).mono ?_); (case side1 => repeat (first | exact HR0.out | (with_reducible refine Kd.C_alloc ?_ _) | (with_reducible refine Kd.C_drewN ?_ _) | (with_reducible refine Kd.C_drew ?_))); (case side2 => exact HC0.out); rintro e w4 ⟨v379, rfl, ho0, hb⟩; refine ⟨_, rfl, ?_⟩; have _ := am (Kd.R_lower ho0 (below_size (beu HB.out))); have _ := am (below_step (beu HB.out) hb); clear HB; rename_i HO380 HB; (try clear hb); (try clear ho0)))
 go_loopg [5, 12] k (fun kq v5 v12 w' => ∃ (x5_1 : List Int) (x12_1 : Int), v12 = .int .i64 x12_1 ∧ Aside0 (packet_Text.l0 kq x5_1 l1 (l1.length : Int) x12_1 = some r) ∧ Aside0 (kq ≤ k) ∧ Aside0 (Kd.R (Kd.int .u8) 5 w' w.heap.size (fun _ => True) v5 x5_1) ∧ Aside0 (Below w.heap.size w w'))
 case atStart => exact ⟨(t378), (0), ap3, H', ⟨Nat.le_refl _⟩, ⟨ru HO380.out⟩, ⟨beu HB.out⟩⟩
 case round =>
  clear H'; (try clear c1); (try clear p2); (try clear c4); obtain ⟨x5_1, x12_1, rfl, HA, HK1, HO_5, HB⟩ := hrel
  cases gk with
  | zero => exact absurd HA.out (by simp [packet_Text.l0])
  | succ k1 =>
   have H := HA.out; clear HA; simp only [packet_Text.l0] at H
   by_cases c5 : x12_1 < (l1.length : Int)
   ·rw [if_pos c5] at H
    have c5b0 : decide (x12_1 < (l1.length : Int)) = true := decide_eq_true c5; clear c5
    by_cases c6 : 0 ≤ x12_1
    ·rw [if_pos c6] at H
     have c6b0 : decide (0 ≤ x12_1) = true := decide_eq_true c6; clear c6
     by_cases c7 : x12_1 < (l1.length : Int)
     ·rw [if_pos c7] at H
      have c7b0 : decide (x12_1 < (l1.length : Int)) = true := decide_eq_true c7; clear c7; obtain ⟨y382, hy382⟩ : ∃ y_ : List Int, y_ = (([IntKind.u64.wrap (((rdOf ByteArray.empty l1 x12_1).size : Int))] : List Int)) := ⟨_, rfl⟩
      replace H : ((packet_Number.f k1 x5_1 y382).bind fun t385 => (if t385.length + (rdOf ByteArray.empty l1 x12_1).size < 140737488355328 then (packet_Text.l0 k1 (t385 ++ bytesOf (rdOf ByteArray.empty l1 x12_1)) l1 (l1.length : Int) (wrap64 (x12_1 + 1))) else (none))) = some r := by first | (rw [hy382]; with_reducible exact H) | (have H2_ := (Option.bind_some _ _).symm.trans H; rw [hy382]; with_reducible exact H2_) | (have H2_ := (Option.bind_some _ _).symm.trans H; with_reducible exact H2_) | with_reducible exact H | (rw [hy382]; exact H) | exact H
      have Ny382 := am hy382; clear hy382; replace H := obm H; obtain ⟨t385, A80, H⟩ := H; replace H : (if t385.length + (rdOf ByteArray.empty l1 x12_1).size < 140737488355328 then (packet_Text.l0 k1 (t385 ++ bytesOf (rdOf ByteArray.empty l1 x12_1)) l1 (l1.length : Int) (wrap64 (x12_1 + 1))) else (none)) = some r := H; have A8 := am A80; clear A80
      by_cases c9 : t385.length + (rdOf ByteArray.empty l1 x12_1).size < 140737488355328
      ·rw [if_pos c9] at H
       have LMc9 := am c9; clear c9; obtain ⟨y388, hy388⟩ : ∃ y_ : List Int, y_ = (t385 ++ bytesOf (rdOf ByteArray.empty l1 x12_1)) := ⟨_, rfl⟩
       replace H : (packet_Text.l0 k1 y388 l1 (l1.length : Int) (wrap64 (x12_1 + 1))) = some r := by first | (rw [hy388]; with_reducible exact H) | (have H2_ := (Option.bind_some _ _).symm.trans H; rw [hy388]; with_reducible exact H2_) | (have H2_ := (Option.bind_some _ _).symm.trans H; with_reducible exact H2_) | with_reducible exact H | (rw [hy388]; exact H) | exact H
       have Ny388 := am hy388; clear hy388; have H' := am H; clear H; have p381 : 0 ≤ (x12_1 : Int) := of_decide_eq_true ap2; have q381 : x12_1 < (l1.length : Int) := of_decide_eq_true ap2; obtain ⟨ad381, e381, hx381_0⟩ := Kd.at_string HR1.out x12_1 p381 q381
       cases e381
       replace hx381_0 := (HB.out.cell (World.block_lt_of_cell? w _ hx381_0)).trans hx381_0; replace p381 := eq_true p381; replace q381 := eq_true q381
       go_wp2_with (first | ((with_reducible refine gate_dst (N := 20) rfl ?_); refine Kd.R_lit (Kd.int .u64) _ 69 ?hg (N := 20) ?hd (xs := ([IntKind.u64.wrap (((rdOf ByteArray.empty l1 x12_1).size : Int))] : List Int)) (inner := [.int .u64 (IntKind.u64.wrap (((rdOf ByteArray.empty l1 x12_1).size : Int)))]) (ok := fun _ => True) (okp := fun _ => True) ?hr ?hp (fun _ hk => hk) trivial (Below.refl _ _) (Nat.le_refl _) (by simp) ?_; (case hd => rfl); (case hg => rfl); (case hr => first | (go_simp; done) | (go_simp; rfl)); (case hp => exact (Reps.one (show Kd.M (Kd.int .u64) _ _ _ (IntKind.u64.wrap (((rdOf ByteArray.empty l1 x12_1).size : Int))) [.int .u64 (IntKind.u64.wrap (((rdOf ByteArray.empty l1 x12_1).size : Int)))] from rfl) (Reps.none _ _))); intro v383 w10 ho11 hb hg_ hnew_; clear hg_ hnew_; (first | rw [← Ny382.out] at ho11 | (simp only [Int.reduceToNat] at ho11; rw [← Ny382.out] at ho11)); have _ := am (Kd.R_below (ru HO_5.out) hb); have _ := am (Kd.R_lower ho11 (below_size (beu HB.out))); have _ := am (below_step (beu HB.out) hb); clear HO_5 HB; rename_i HO_5 HO384 HB; clear hb ho11; obtain ⟨Ao12, co12, eo12⟩ := Kd.R_slice HO_5.out; subst eo12; obtain ⟨Ao13, co13, eo13⟩ := Kd.R_slice HO384.out; subst eo13) | ((with_reducible refine gate_callee (f := 44) rfl ?_); refine goesL_ (some 21) rfl rfl Tryd.func44 (by kernel_rfl) rfl #[.slice Ao12 x5_1.length co12, .slice Ao13 y382.length co13] rfl ap1 ?_; (with_reducible refine (packet_Number.calls k1 _ _ x5_1 _ _ y382 t385 _ ?side1 ?side2 ?side3 ?side4 A8.out).mono ?_); (case side1 => exact cu (Kd.R_reads' HO_5.out).2.2); (case side2 => exact (Kd.R_reads' HO_5.out).2.1); (case side3 => exact cu (Kd.R_reads' HO384.out).2.2); (case side4 => exact (Kd.R_reads' HO384.out).2.1); rintro e w14 ⟨v386, rfl, ho0, hb⟩; refine ⟨_, rfl, ?_⟩; have _ := am (Kd.R_elder' (ru HO_5.out) (Kd.R_base ho0) hb); have _ := am (Kd.R_below (ru HO384.out) hb); have _ := am (Kd.R_lower (Kd.R_new' ho0 (Kd.R_lt (ru HO_5.out))) (below_size (beu HB.out))); have _ := am (below_step (beu HB.out) hb); clear HO_5 HO384 HB; rename_i HO_5 HO384 HO387 HB; (try clear hb); (try clear ho0)) | (at_builtin; refine print_append_str (w0 := w) w.heap.size rfl (.tmp 21) _ 49 9 5 rfl Tryd.underlying49 Tryd.underlying9 info5 v386 t385 (rdOf ByteArray.empty l1 x12_1) rfl rfl ?aO ?aB ?aS ?aL ?_; (case aB => exact (beu HB.out)); (case aO => exact (Kd.own_of_R (ru (Kd.R_mono HO387.out (fun _ hk => trivial))))); (case aS => exact (below_size (beu HB.out))); (case aL => have := LMc9.out; omega); intro v389 w15 ho0 hb hg; have ho := Kd.R_of_own (h1 := fun _ => rfl) (ok := fun _ => True) ho0 (fun _ _ => trivial); clear ho0; have hat := True.intro; rw [← Ny388.out] at ho; change Kd.R (Kd.int .u8) 5 w15 w.heap.size (fun _ => True) v389 y388 at ho; have _ := am (Kd.R_over' (ru HO384.out) (Kd.R_typed (ru HO387.out)) (by decide) hg); have _ := am (hb); have _ := am (ho); clear HO384 HB HO387; rename_i HO384 HB HO390; clear ho hb hg hat))
       go_roundg k1
       case measure => have := HK1.out; omega
       case rel => exact ⟨(y388), (wrap64 (x12_1 + 1)), ap3, H', ⟨by have := HK1.out; omega⟩, ⟨ru HO390.out⟩, ⟨beu HB.out⟩⟩
      ·rw [if_neg c9] at H
       exact absurd H (by simp)
     ·rw [if_neg c7] at H
      exact absurd H (by simp)
    ·rw [if_neg c6] at H
     exact absurd H (by simp)
   ·rw [if_neg c5] at H
    have c5b0 : decide (x12_1 < (l1.length : Int)) = false := decide_eq_false c5; clear c5; obtain rfl := Option.some.inj H; simp only [Option.some.injEq, Prod.mk.injEq] at H; obtain ⟨rfl⟩ := H
    go_wp2
    go_ret
    exact ⟨_, ap4, ru HO_5.out, beu HB.out⟩
def outbox_Put.l0 : Nat → List Int → List (S27) → Int → Int → Option (List Int)
 | 0, _, _, _, _ => none
 | k + 1, x0, x13, x14, x15 => if x15 < x14 then (if 0 ≤ x15 then (if x15 < (x13.length : Int) then ((packet_Number.f k x0 (([IntKind.u64.wrap ((rd_T27 x13 x15).f0), IntKind.u64.wrap ((rd_T27 x13 x15).f3), IntKind.u64.wrap ((rd_T27 x13 x15).f4), IntKind.u64.wrap ((rd_T27 x13 x15).f2), IntKind.u64.wrap ((rd_T27 x13 x15).f1)] : List Int))).bind fun t402 => ((packet_Text.f k t402 (([(rd_T27 x13 x15).f5] : List ByteArray))).bind fun t408 => (outbox_Put.l0 k t408 x13 x14 (wrap64 (x15 + 1))))) else (none)) else (none)) else (some x0)
def outbox_Put.f (k : Nat) (l0 : List Int) (l1 : List (S27)) : Option (List Int) := (packet_Number.f k l0 (([IntKind.u64.wrap ((l1.length : Int))] : List Int))).bind fun t394 => (outbox_Put.l0 k t394 l1 (l1.length : Int) 0)
set_option maxHeartbeats 8000000 in
set_option maxRecDepth 100000 in
theorem outbox_Put.calls (k : Nat) (A0 : Option Addr) (c0 : Nat) (l0 : List Int) (A1 : Option Addr) (c1 : Nat) (l1 : List (S27)) (r : List Int) (w : World) (hr0 : Kd.C (Kd.int .u8) w A0 l0.length l0) (hc0 : l0.length ≤ c0) (hr1 : Kd.C k27 w A1 l1.length l1) (hc1 : l1.length ≤ c1) (h : outbox_Put.f k l0 l1 = some r) :
  Calls Tryd.prog 28 #[.slice A0 l0.length c0, .slice A1 l1.length c1] w fun e w' => ∃ v0_ : Value, e = .returned (v0_) ∧ Kd.R (Kd.int .u8) 5 w' w.heap.size (fun _ => True) v0_ r ∧ Below w.heap.size w w' := by
 have hu27 := Tryd.underlying27; have HR0 := am hr0; have HC0 := am hc0; clear hr0 hc0; have HR1 := am hr1; have HC1 := am hc1; clear hr1 hc1; have HB := am (Below.refl w.heap.size w); have H : ((packet_Number.f k l0 (([IntKind.u64.wrap ((l1.length : Int))] : List Int))).bind fun t394 => (outbox_Put.l0 k t394 l1 (l1.length : Int) 0)) = some r := h; clear h; obtain ⟨y391, hy391⟩ : ∃ y_ : List Int, y_ = (([IntKind.u64.wrap ((l1.length : Int))] : List Int)) := ⟨_, rfl⟩
 replace H : ((packet_Number.f k l0 y391).bind fun t394 => (outbox_Put.l0 k t394 l1 (l1.length : Int) 0)) = some r := by first | (rw [hy391]; with_reducible exact H) | (have H2_ := (Option.bind_some _ _).symm.trans H; rw [hy391]; with_reducible exact H2_) | (have H2_ := (Option.bind_some _ _).symm.trans H; with_reducible exact H2_) | with_reducible exact H | (rw [hy391]; exact H) | exact H
 have Ny391 := am hy391; clear hy391; replace H := obm H; obtain ⟨t394, A30, H⟩ := H; replace H : (outbox_Put.l0 k t394 l1 (l1.length : Int) 0) = some r := H; have A3 := am A30; clear A30; have H' := am H; clear H
 go_enter Tryd.func28, Tryd.ntmps28
 go_wp2_with (first | ((with_reducible refine gate_dst (N := 11) rfl ?_); refine Kd.R_lit (Kd.int .u64) _ 69 ?hg (N := 11) ?hd (xs := ([IntKind.u64.wrap ((l1.length : Int))] : List Int)) (inner := [.int .u64 (IntKind.u64.wrap ((l1.length : Int)))]) (ok := fun _ => True) (okp := fun _ => True) ?hr ?hp (fun _ hk => hk) trivial (Below.refl _ _) (Nat.le_refl _) (by simp) ?_; (case hd => rfl); (case hg => rfl); (case hr => first | (go_simp; done) | (go_simp; rfl)); (case hp => exact (Reps.one (show Kd.M (Kd.int .u64) _ _ _ (IntKind.u64.wrap ((l1.length : Int))) [.int .u64 (IntKind.u64.wrap ((l1.length : Int)))] from rfl) (Reps.none _ _))); intro v392 w4 ho5 hb hg_ hnew_; clear hg_ hnew_; (first | rw [← Ny391.out] at ho5 | (simp only [Int.reduceToNat] at ho5; rw [← Ny391.out] at ho5)); have _ := am (Kd.R_lower ho5 (below_size (beu HB.out))); have _ := am (below_step (beu HB.out) hb); clear HB; rename_i HO393 HB; clear hb ho5; obtain ⟨Ao6, co6, eo6⟩ := Kd.R_slice HO393.out; subst eo6) | ((with_reducible refine gate_callee (f := 44) rfl ?_); refine goesL_ (some 12) rfl rfl Tryd.func44 (by kernel_rfl) rfl #[.slice A0 l0.length c0, .slice Ao6 y391.length co6] rfl ap1 ?_; (with_reducible refine (packet_Number.calls k _ _ l0 _ _ y391 t394 _ ?side1 ?side2 ?side3 ?side4 A3.out).mono ?_); (case side1 => exact cu (Kd.C_below HR0.out HB.out)); (case side2 => exact HC0.out); (case side3 => exact cu (Kd.R_reads' HO393.out).2.2); (case side4 => exact (Kd.R_reads' HO393.out).2.1); rintro e w7 ⟨v395, rfl, ho0, hb⟩; refine ⟨_, rfl, ?_⟩; have _ := am (Kd.R_below (ru HO393.out) hb); have _ := am (Kd.R_lower ho0 (below_size (beu HB.out))); have _ := am (below_step (beu HB.out) hb); clear HO393 HB; rename_i HO393 HO396 HB; (try clear hb); (try clear ho0)))
 go_loopg [0, 15] k (fun kq v0 v15 w' => ∃ (x0_1 : List Int) (x15_1 : Int), v15 = .int .i64 x15_1 ∧ Aside0 (outbox_Put.l0 kq x0_1 l1 (l1.length : Int) x15_1 = some r) ∧ Aside0 (kq ≤ k) ∧ Aside0 (Kd.R (Kd.int .u8) 5 w' w.heap.size (fun _ => True) v0 x0_1) ∧ Aside0 (Below w.heap.size w w'))
 case atStart => exact ⟨(t394), (0), ap3, H', ⟨Nat.le_refl _⟩, ⟨ru HO396.out⟩, ⟨beu HB.out⟩⟩
 case round =>
  clear H'; (try clear c1); (try clear c2); (try clear p2); (try clear c4); obtain ⟨x0_1, x15_1, rfl, HA, HK1, HO_0, HB⟩ := hrel
  cases gk with
  | zero => exact absurd HA.out (by simp [outbox_Put.l0])
  | succ k1 =>
   have H := HA.out; clear HA; simp only [outbox_Put.l0] at H
   by_cases c8 : x15_1 < (l1.length : Int)
   ·rw [if_pos c8] at H
    have c8b0 : decide (x15_1 < (l1.length : Int)) = true := decide_eq_true c8; clear c8
    by_cases c9 : 0 ≤ x15_1
    ·rw [if_pos c9] at H
     have c9b0 : decide (0 ≤ x15_1) = true := decide_eq_true c9; clear c9
     by_cases c10 : x15_1 < (l1.length : Int)
     ·rw [if_pos c10] at H
      have c10b0 : decide (x15_1 < (l1.length : Int)) = true := decide_eq_true c10; clear c10; obtain ⟨y399, hy399⟩ : ∃ y_ : List Int, y_ = (([IntKind.u64.wrap ((rd_T27 l1 x15_1).f0), IntKind.u64.wrap ((rd_T27 l1 x15_1).f3), IntKind.u64.wrap ((rd_T27 l1 x15_1).f4), IntKind.u64.wrap ((rd_T27 l1 x15_1).f2), IntKind.u64.wrap ((rd_T27 l1 x15_1).f1)] : List Int)) := ⟨_, rfl⟩
      replace H : ((packet_Number.f k1 x0_1 y399).bind fun t402 => ((packet_Text.f k1 t402 (([(rd_T27 l1 x15_1).f5] : List ByteArray))).bind fun t408 => (outbox_Put.l0 k1 t408 l1 (l1.length : Int) (wrap64 (x15_1 + 1))))) = some r := by first | (rw [hy399]; with_reducible exact H) | (have H2_ := (Option.bind_some _ _).symm.trans H; rw [hy399]; with_reducible exact H2_) | (have H2_ := (Option.bind_some _ _).symm.trans H; with_reducible exact H2_) | with_reducible exact H | (rw [hy399]; exact H) | exact H
      have Ny399 := am hy399; clear hy399; replace H := obm H; obtain ⟨t402, A110, H⟩ := H; replace H : ((packet_Text.f k1 t402 (([(rd_T27 l1 x15_1).f5] : List ByteArray))).bind fun t408 => (outbox_Put.l0 k1 t408 l1 (l1.length : Int) (wrap64 (x15_1 + 1)))) = some r := H; have A11 := am A110; clear A110; obtain ⟨y405, hy405⟩ : ∃ y_ : List ByteArray, y_ = (([(rd_T27 l1 x15_1).f5] : List ByteArray)) := ⟨_, rfl⟩
      replace H : ((packet_Text.f k1 t402 y405).bind fun t408 => (outbox_Put.l0 k1 t408 l1 (l1.length : Int) (wrap64 (x15_1 + 1)))) = some r := by first | (rw [hy405]; with_reducible exact H) | (have H2_ := (Option.bind_some _ _).symm.trans H; rw [hy405]; with_reducible exact H2_) | (have H2_ := (Option.bind_some _ _).symm.trans H; with_reducible exact H2_) | with_reducible exact H | (rw [hy405]; exact H) | exact H
      have Ny405 := am hy405; clear hy405; replace H := obm H; obtain ⟨t408, A120, H⟩ := H; replace H : (outbox_Put.l0 k1 t408 l1 (l1.length : Int) (wrap64 (x15_1 + 1))) = some r := H; have A12 := am A120; clear A120; have H' := am H; clear H; have p397 : 0 ≤ (x15_1 : Int) := of_decide_eq_true ap2; have q397 : x15_1 < (l1.length : Int) := of_decide_eq_true ap2; obtain ⟨ad397, e397, hx397_0, hx397_1, hx397_2, hx397_3, hx397_4, hx397_5⟩ := at_T27 HR1.out x15_1 p397 q397
      cases e397
      replace hx397_0 := (HB.out.cell (World.block_lt_of_cell? w _ hx397_0)).trans hx397_0; replace hx397_1 := (HB.out.cell (World.block_lt_of_cell? w _ hx397_1)).trans hx397_1; replace hx397_2 := (HB.out.cell (World.block_lt_of_cell? w _ hx397_2)).trans hx397_2; replace hx397_3 := (HB.out.cell (World.block_lt_of_cell? w _ hx397_3)).trans hx397_3; replace hx397_4 := (HB.out.cell (World.block_lt_of_cell? w _ hx397_4)).trans hx397_4; replace hx397_5 := (HB.out.cell (World.block_lt_of_cell? w _ hx397_5)).trans hx397_5; replace p397 := eq_true p397; replace q397 := eq_true q397
      go_wp2_with (first | ((with_reducible refine gate_dst (N := 6) rfl ?_); refine box_event ?hg (N := 6) ?hd (cs := #[.int .i64 0, .int .i64 0, .int .i64 0, .int .i64 0, .int .i64 0, .string ⟨#[]⟩]) (t := 27) ?hr ?_; (case hd => rfl); (case hg => rfl); (case hr => first | (go_simp; done) | (go_simp; rfl)); intro gb398 hg w13 hbox hb; have _ := am (Kd.R_below (ru HO_0.out) hb); have _ := am (below_step (beu HB.out) hb); have _ := am (hbox); have _ := am ((by rw [hg]; exact (below_size (beu HB.out)) : w.heap.size ≤ gb398)); have _ := am ((by rw [hg]; exact (below_size (beu HB.out)) : w.heap.size ≤ gb398)); clear HO_0 HB; rename_i HO_0 HB BK398 GW398 GE398; clear hb hbox hg; obtain ⟨_, _, _, _, _, _⟩ := cells6 BK398.out; obtain ⟨_, _, _, _, _, _⟩ := frozens6 BK398.out) | ((with_reducible refine gate_dst (N := 35) rfl ?_); refine Kd.R_lit (Kd.int .u64) _ 69 ?hg (N := 35) ?hd (xs := ([IntKind.u64.wrap ((rd_T27 l1 x15_1).f0), IntKind.u64.wrap ((rd_T27 l1 x15_1).f3), IntKind.u64.wrap ((rd_T27 l1 x15_1).f4), IntKind.u64.wrap ((rd_T27 l1 x15_1).f2), IntKind.u64.wrap ((rd_T27 l1 x15_1).f1)] : List Int)) (inner := [.int .u64 (IntKind.u64.wrap ((rd_T27 l1 x15_1).f0)), .int .u64 (IntKind.u64.wrap ((rd_T27 l1 x15_1).f3)), .int .u64 (IntKind.u64.wrap ((rd_T27 l1 x15_1).f4)), .int .u64 (IntKind.u64.wrap ((rd_T27 l1 x15_1).f2)), .int .u64 (IntKind.u64.wrap ((rd_T27 l1 x15_1).f1))]) (ok := fun _ => True) (okp := fun _ => True) ?hr ?hp (fun _ hk => hk) trivial (Below.refl _ _) (Nat.le_refl _) (by simp) ?_; (case hd => rfl); (case hg => rfl); (case hr => first | (go_simp; done) | (go_simp; rfl)); (case hp => exact (Reps.one (show Kd.M (Kd.int .u64) _ _ _ (IntKind.u64.wrap ((rd_T27 l1 x15_1).f0)) [.int .u64 (IntKind.u64.wrap ((rd_T27 l1 x15_1).f0))] from rfl) (Reps.one (show Kd.M (Kd.int .u64) _ _ _ (IntKind.u64.wrap ((rd_T27 l1 x15_1).f3)) [.int .u64 (IntKind.u64.wrap ((rd_T27 l1 x15_1).f3))] from rfl) (Reps.one (show Kd.M (Kd.int .u64) _ _ _ (IntKind.u64.wrap ((rd_T27 l1 x15_1).f4)) [.int .u64 (IntKind.u64.wrap ((rd_T27 l1 x15_1).f4))] from rfl) (Reps.one (show Kd.M (Kd.int .u64) _ _ _ (IntKind.u64.wrap ((rd_T27 l1 x15_1).f2)) [.int .u64 (IntKind.u64.wrap ((rd_T27 l1 x15_1).f2))] from rfl) (Reps.one (show Kd.M (Kd.int .u64) _ _ _ (IntKind.u64.wrap ((rd_T27 l1 x15_1).f1)) [.int .u64 (IntKind.u64.wrap ((rd_T27 l1 x15_1).f1))] from rfl) (Reps.none _ _))))))); intro v400 w15 ho16 hb hg_ hnew_; clear hg_ hnew_; (first | rw [← Ny399.out] at ho16 | (simp only [Int.reduceToNat] at ho16; rw [← Ny399.out] at ho16)); have _ := am (Kd.R_below (ru (Kd.R_mono (rf gb398 5 (rf gb398 4 (rf gb398 3 (rf gb398 2 (rf gb398 1 (rf gb398 0 (Kd.R_types HO_0.out BK398.out (by decide)) (.int .i64 ((rd_T27 l1 x15_1).f0))) (.int .i64 ((rd_T27 l1 x15_1).f1))) (.int .i64 ((rd_T27 l1 x15_1).f2))) (.int .i64 ((rd_T27 l1 x15_1).f3))) (.int .i64 ((rd_T27 l1 x15_1).f4))) (.string ((rd_T27 l1 x15_1).f5))) (fun _ h_ => h_.1))) hb); have _ := am (Kd.R_lower ho16 (below_size (beu HB.out))); have _ := am (blk_below (g := gb398) (o := .cells #[.int .i64 ((rd_T27 l1 x15_1).f0), .int .i64 ((rd_T27 l1 x15_1).f1), .int .i64 ((rd_T27 l1 x15_1).f2), .int .i64 ((rd_T27 l1 x15_1).f3), .int .i64 ((rd_T27 l1 x15_1).f4), .string ((rd_T27 l1 x15_1).f5)] 27 (0, 0)) (by refine bu ?_; refine blk_put (cs := #[.int .i64 ((rd_T27 l1 x15_1).f0), .int .i64 ((rd_T27 l1 x15_1).f1), .int .i64 ((rd_T27 l1 x15_1).f2), .int .i64 ((rd_T27 l1 x15_1).f3), .int .i64 ((rd_T27 l1 x15_1).f4), .string ⟨#[]⟩]) ?_ 5 _ rfl; refine bu ?_; refine blk_put (cs := #[.int .i64 ((rd_T27 l1 x15_1).f0), .int .i64 ((rd_T27 l1 x15_1).f1), .int .i64 ((rd_T27 l1 x15_1).f2), .int .i64 ((rd_T27 l1 x15_1).f3), .int .i64 0, .string ⟨#[]⟩]) ?_ 4 _ rfl; refine bu ?_; refine blk_put (cs := #[.int .i64 ((rd_T27 l1 x15_1).f0), .int .i64 ((rd_T27 l1 x15_1).f1), .int .i64 ((rd_T27 l1 x15_1).f2), .int .i64 0, .int .i64 0, .string ⟨#[]⟩]) ?_ 3 _ rfl; refine bu ?_; refine blk_put (cs := #[.int .i64 ((rd_T27 l1 x15_1).f0), .int .i64 ((rd_T27 l1 x15_1).f1), .int .i64 0, .int .i64 0, .int .i64 0, .string ⟨#[]⟩]) ?_ 2 _ rfl; refine bu ?_; refine blk_put (cs := #[.int .i64 ((rd_T27 l1 x15_1).f0), .int .i64 0, .int .i64 0, .int .i64 0, .int .i64 0, .string ⟨#[]⟩]) ?_ 1 _ rfl; refine bu ?_; refine blk_put (cs := #[.int .i64 0, .int .i64 0, .int .i64 0, .int .i64 0, .int .i64 0, .string ⟨#[]⟩]) ?_ 0 _ rfl; refine bu ?_; exact BK398.out) hb); have _ := am (below_step (beu HB.out) hb); clear HO_0 BK398 HB; rename_i HO_0 HO401 BK398 HB; clear hb ho16; obtain ⟨Ao17, co17, eo17⟩ := Kd.R_slice HO_0.out; subst eo17; obtain ⟨Ao18, co18, eo18⟩ := Kd.R_slice HO401.out; subst eo18) | ((with_reducible refine gate_callee (f := 44) rfl ?_); refine goesL_ (some 36) rfl rfl Tryd.func44 (by kernel_rfl) rfl #[.slice Ao17 x0_1.length co17, .slice Ao18 y399.length co18] rfl ap1 ?_; (with_reducible refine (packet_Number.calls k1 _ _ x0_1 _ _ y399 t402 _ ?side1 ?side2 ?side3 ?side4 A11.out).mono ?_); (case side1 => exact cu (Kd.R_reads' HO_0.out).2.2); (case side2 => exact (Kd.R_reads' HO_0.out).2.1); (case side3 => exact cu (Kd.R_reads' HO401.out).2.2); (case side4 => exact (Kd.R_reads' HO401.out).2.1); rintro e w19 ⟨v403, rfl, ho0, hb⟩; refine ⟨_, rfl, ?_⟩; have _ := am (Kd.R_elder' (ru HO_0.out) (Kd.R_base ho0) hb); have _ := am (Kd.R_below (ru HO401.out) hb); have _ := am (Kd.R_lower (Kd.R_new' ho0 (Kd.R_lt (ru HO_0.out))) (below_size (beu HB.out))); have _ := am (blk_below (bu BK398.out) hb); have _ := am (below_step (beu HB.out) hb); clear HO_0 HO401 BK398 HB; rename_i HO_0 HO401 HO404 BK398 HB; (try clear hb); (try clear ho0); obtain ⟨_, _, _, _, _, _⟩ := cells6 BK398.out; obtain ⟨_, _, _, _, _, _⟩ := frozens6 BK398.out) | ((with_reducible refine gate_dst (N := 40) rfl ?_); refine Kd.R_lit Kd.string _ 9 ?hg (N := 40) ?hd (xs := ([(rd_T27 l1 x15_1).f5] : List ByteArray)) (inner := [.string ((rd_T27 l1 x15_1).f5)]) (ok := fun _ => True) (okp := fun _ => True) ?hr ?hp (fun _ hk => hk) trivial (Below.refl _ _) (Nat.le_refl _) (by simp) ?_; (case hd => rfl); (case hg => rfl); (case hr => first | (go_simp; done) | (go_simp; rfl)); (case hp => exact (Reps.one (show Kd.M Kd.string _ _ _ ((rd_T27 l1 x15_1).f5) [.string ((rd_T27 l1 x15_1).f5)] from rfl) (Reps.none _ _))); intro v406 w21 ho22 hb hg_ hnew_; clear hg_ hnew_; (first | rw [← Ny405.out] at ho22 | (simp only [Int.reduceToNat] at ho22; rw [← Ny405.out] at ho22)); have _ := am (Kd.R_below (ru HO_0.out) hb); have _ := am (Kd.R_below (ru HO401.out) hb); have _ := am (Kd.R_below (ru HO404.out) hb); have _ := am (Kd.R_lower ho22 (below_size (beu HB.out))); have _ := am (blk_below (bu BK398.out) hb); have _ := am (below_step (beu HB.out) hb); clear HO_0 HO401 HO404 BK398 HB; rename_i HO_0 HO401 HO404 HO407 BK398 HB; clear hb ho22; obtain ⟨Ao23, co23, eo23⟩ := Kd.R_slice HO404.out; subst eo23; obtain ⟨Ao24, co24, eo24⟩ := Kd.R_slice HO407.out; subst eo24) | ((with_reducible refine gate_callee (f := 45) rfl ?_); refine goesL_ (some 41) rfl rfl Tryd.func45 (by kernel_rfl) rfl #[.slice Ao23 t402.length co23, .slice Ao24 y405.length co24] rfl ap1 ?_; (with_reducible refine (packet_Text.calls k1 _ _ t402 _ _ y405 t408 _ ?side1 ?side2 ?side3 ?side4 A12.out).mono ?_); (case side1 => exact cu (Kd.R_reads' HO404.out).2.2); (case side2 => exact (Kd.R_reads' HO404.out).2.1); (case side3 => exact cu (Kd.R_reads' HO407.out).2.2); (case side4 => exact (Kd.R_reads' HO407.out).2.1); rintro e w25 ⟨v409, rfl, ho0, hb⟩; refine ⟨_, rfl, ?_⟩; have _ := am (Kd.R_elder' (ru HO_0.out) (Kd.R_base ho0) hb); have _ := am (Kd.R_below (ru HO401.out) hb); have _ := am (Kd.R_elder' (ru HO404.out) (Kd.R_base ho0) hb); have _ := am (Kd.R_below (ru HO407.out) hb); have _ := am (Kd.R_lower (Kd.R_new' (Kd.R_new' ho0 (Kd.R_lt (ru HO_0.out))) (Kd.R_lt (ru HO404.out))) (below_size (beu HB.out))); have _ := am (blk_below (bu BK398.out) hb); have _ := am (below_step (beu HB.out) hb); clear HO_0 HO401 HO404 HO407 BK398 HB; rename_i HO_0 HO401 HO404 HO407 HO410 BK398 HB; (try clear hb); (try clear ho0)))
      go_roundg k1
      case measure => have := HK1.out; omega
      case rel => exact ⟨(t408), (wrap64 (x15_1 + 1)), ap3, H', ⟨by have := HK1.out; omega⟩, ⟨ru (Kd.R_mono HO410.out (fun _ hk => trivial))⟩, ⟨beu HB.out⟩⟩
     ·rw [if_neg c10] at H
      exact absurd H (by simp)
    ·rw [if_neg c9] at H
     exact absurd H (by simp)
   ·rw [if_neg c8] at H
    have c8b0 : decide (x15_1 < (l1.length : Int)) = false := decide_eq_false c8; clear c8; obtain rfl := Option.some.inj H; simp only [Option.some.injEq, Prod.mk.injEq] at H; obtain ⟨rfl⟩ := H
    go_wp2
    go_ret
    exact ⟨_, ap4, ru HO_0.out, beu HB.out⟩
def packhorseref06_Number.l0 : Nat → Int → List Int → Option (List Int)
 | 0, _, _ => none
 | k + 1, x0, x3 => if x0 ≥ 128 then (if x3.length < 140737488355328 then (packhorseref06_Number.l0 k (IntKind.u64.wrap (Int.tdiv x0 128)) (x3 ++ [(IntKind.u64.wrap (128 + (Int.tmod x0 128))) % 256])) else (none)) else (if x3.length < 140737488355328 then (some (x3 ++ [(x0) % 256])) else (none))
def packhorseref06_Number.f (k : Nat) (a0 : Int) : Option (List Int) := packhorseref06_Number.l0 k a0 (([] : List Int))
set_option maxHeartbeats 8000000 in
set_option maxRecDepth 100000 in
theorem packhorseref06_Number.calls (k : Nat) (a0 : Int) (r : List Int) (w : World) (h : packhorseref06_Number.f k a0 = some r) :
  Calls Tryd.prog 46 #[.int .u64 a0] w fun e w' => ∃ v0_ : Value, e = .returned (v0_) ∧ Kd.R (Kd.int .u8) 5 w' w.heap.size (fun _ => True) v0_ r ∧ Below w.heap.size w w' := by
 have HB := am (Below.refl w.heap.size w); have H : (packhorseref06_Number.l0 k a0 (([] : List Int))) = some r := h; clear h; obtain ⟨y411, hy411⟩ : ∃ y_ : List Int, y_ = (([] : List Int)) := ⟨_, rfl⟩
 replace H : (packhorseref06_Number.l0 k a0 y411) = some r := by first | (rw [hy411]; with_reducible exact H) | (have H2_ := (Option.bind_some _ _).symm.trans H; rw [hy411]; with_reducible exact H2_) | (have H2_ := (Option.bind_some _ _).symm.trans H; with_reducible exact H2_) | with_reducible exact H | (rw [hy411]; exact H) | exact H
 have Ny411 := am hy411; clear hy411; have H' := am H; clear H
 go_enter Tryd.func46, Tryd.ntmps46
 go_wp2_with (first | ((with_reducible refine gate_dst (N := 4) rfl ?_); refine Kd.R_lit (Kd.int .u8) _ 5 ?hg (N := 4) ?hd (xs := ([] : List Int)) (inner := []) (ok := fun _ => True) (okp := fun _ => True) ?hr ?hp (fun _ hk => hk) trivial (Below.refl _ _) (Nat.le_refl _) (by simp) ?_; (case hd => rfl); (case hg => rfl); (case hr => first | (go_simp; done) | (go_simp; rfl)); (case hp => exact (Reps.none _ _)); intro v412 w2 ho3 hb hg_ hnew_; clear hg_ hnew_; (first | rw [← Ny411.out] at ho3 | (simp only [Int.reduceToNat] at ho3; rw [← Ny411.out] at ho3)); have _ := am (Kd.R_lower ho3 (below_size (beu HB.out))); have _ := am (below_step (beu HB.out) hb); clear HB; rename_i HO413 HB; clear hb ho3))
 go_loopg [0, 3] k (fun kq v0 v3 w' => ∃ (x0_1 : Int) (x3_1 : List Int), v0 = .int .u64 x0_1 ∧ Aside0 (packhorseref06_Number.l0 kq x0_1 x3_1 = some r) ∧ Aside0 (kq ≤ k) ∧ Aside0 (Kd.R (Kd.int .u8) 5 w' w.heap.size (fun _ => True) v3 x3_1) ∧ Aside0 (Below w.heap.size w w'))
 case atStart => exact ⟨(a0), (y411), ap3, H', ⟨Nat.le_refl _⟩, ⟨ru HO413.out⟩, ⟨beu HB.out⟩⟩
 case round =>
  clear H'; (try clear p2); obtain ⟨x0_1, x3_1, rfl, HA, HK1, HO_3, HB⟩ := hrel
  cases gk with
  | zero => exact absurd HA.out (by simp [packhorseref06_Number.l0])
  | succ k1 =>
   have H := HA.out; clear HA; simp only [packhorseref06_Number.l0] at H
   by_cases c4 : x0_1 ≥ 128
   ·rw [if_pos c4] at H
    have c4b0 : decide (128 ≤ x0_1) = true := decide_eq_true c4; clear c4
    by_cases c5 : x3_1.length < 140737488355328
    ·rw [if_pos c5] at H
     have LMc5 := am c5; clear c5; obtain ⟨y414, hy414⟩ : ∃ y_ : List Int, y_ = (x3_1 ++ [(IntKind.u64.wrap (128 + (Int.tmod x0_1 128))) % 256]) := ⟨_, rfl⟩
     replace H : (packhorseref06_Number.l0 k1 (IntKind.u64.wrap (Int.tdiv x0_1 128)) y414) = some r := by first | (rw [hy414]; with_reducible exact H) | (have H2_ := (Option.bind_some _ _).symm.trans H; rw [hy414]; with_reducible exact H2_) | (have H2_ := (Option.bind_some _ _).symm.trans H; with_reducible exact H2_) | with_reducible exact H | (rw [hy414]; exact H) | exact H
     have Ny414 := am hy414; clear hy414; have H' := am H; clear H
     go_wp2_with (first | ((with_reducible refine gate_builtin (b := .append) (xs := #[.tmp 7, .tmp 12]) rfl ?_); at_builtin; refine Kd.R_append (Kd.int .u8) (w0 := w) w.heap.size rfl (.tmp 7) (.tmp 12) 49 5 (.int .u8 0) 1 rfl Tryd.underlying49 info5 rfl (by decide) (by omega) u3 x3_1 ((IntKind.u64.wrap (128 + (Int.tmod x0_1 128))) % 256) [.int .u8 ((IntKind.u64.wrap (128 + (Int.tmod x0_1 128))) % 256)] (fun _ => True) (fun _ => False) rfl rfl ?aP (fun _ hk => hk.elim) ?aF ?aO ?aB ?aS ?aL ?_; (case aP => exact rfl); (case aB => exact (beu HB.out)); (case aF => exact (fun _ _ => trivial)); (case aO => exact (ru HO_3.out)); (case aS => exact (below_size (beu HB.out))); (case aL => have := LMc5.out; omega); intro v415 w6 ho hb hg hat; rw [← Ny414.out] at ho; have _ := am (hb); have _ := am (ho); clear HB HO_3; rename_i HB HO416; clear ho hb hg hat))
     go_roundg k1
     case measure => have := HK1.out; omega
     case rel => exact ⟨(IntKind.u64.wrap (Int.tdiv x0_1 128)), (y414), ap3, H', ⟨by have := HK1.out; omega⟩, ⟨ru HO416.out⟩, ⟨beu HB.out⟩⟩
    ·rw [if_neg c5] at H
     exact absurd H (by simp)
   ·rw [if_neg c4] at H
    have c4b0 : decide (128 ≤ x0_1) = false := decide_eq_false c4; clear c4
    by_cases c7 : x3_1.length < 140737488355328
    ·rw [if_pos c7] at H
     have LMc7 := am c7; clear c7; obtain ⟨y417, hy417⟩ : ∃ y_ : List Int, y_ = (x3_1 ++ [(x0_1) % 256]) := ⟨_, rfl⟩
     replace H : (some y417) = some r := by first | (rw [hy417]; with_reducible exact H) | (have H2_ := (Option.bind_some _ _).symm.trans H; rw [hy417]; with_reducible exact H2_) | (have H2_ := (Option.bind_some _ _).symm.trans H; with_reducible exact H2_) | with_reducible exact H | (rw [hy417]; exact H) | exact H
     have Ny417 := am hy417; clear hy417; obtain rfl := Option.some.inj H; simp only [Option.some.injEq, Prod.mk.injEq] at H; obtain ⟨rfl⟩ := H
     go_wp2_with (first | ((with_reducible refine gate_builtin (b := .append) (xs := #[.tmp 16, .tmp 19]) rfl ?_); at_builtin; refine Kd.R_append (Kd.int .u8) (w0 := w) w.heap.size rfl (.tmp 16) (.tmp 19) 49 5 (.int .u8 0) 1 rfl Tryd.underlying49 info5 rfl (by decide) (by omega) u3 x3_1 ((x0_1) % 256) [.int .u8 ((x0_1) % 256)] (fun _ => True) (fun _ => False) rfl rfl ?aP (fun _ hk => hk.elim) ?aF ?aO ?aB ?aS ?aL ?_; (case aP => exact rfl); (case aB => exact (beu HB.out)); (case aF => exact (fun _ _ => trivial)); (case aO => exact (ru HO_3.out)); (case aS => exact (below_size (beu HB.out))); (case aL => have := LMc7.out; omega); intro v418 w8 ho hb hg hat; rw [← Ny417.out] at ho; have _ := am (hb); have _ := am (ho); clear HB HO_3; rename_i HB HO419; clear ho hb hg hat))
     go_ret
     exact ⟨_, ap4, ru HO419.out, beu HB.out⟩
    ·rw [if_neg c7] at H
     exact absurd H (by simp)
def packhorseref06_Text.f (k : Nat) (a0 : ByteArray) : Option (List Int) := (packhorseref06_Number.f k (IntKind.u64.wrap ((a0.size : Int)))).bind fun t420 => (if t420.length + a0.size < 140737488355328 then (some (t420 ++ bytesOf a0)) else (none))
set_option maxHeartbeats 8000000 in
set_option maxRecDepth 100000 in
theorem packhorseref06_Text.calls (k : Nat) (a0 : ByteArray) (r : List Int) (w : World) (h : packhorseref06_Text.f k a0 = some r) :
  Calls Tryd.prog 47 #[.string a0] w fun e w' => ∃ v0_ : Value, e = .returned (v0_) ∧ Kd.R (Kd.int .u8) 5 w' w.heap.size (fun _ => True) v0_ r ∧ Below w.heap.size w w' := by
 have HB := am (Below.refl w.heap.size w); have H : ((packhorseref06_Number.f k (IntKind.u64.wrap ((a0.size : Int)))).bind fun t420 => (if t420.length + a0.size < 140737488355328 then (some (t420 ++ bytesOf a0)) else (none))) = some r := h; clear h; replace H := obm H; obtain ⟨t420, A20, H⟩ := H; replace H : (if t420.length + a0.size < 140737488355328 then (some (t420 ++ bytesOf a0)) else (none)) = some r := H; have A2 := am A20; clear A20
 by_cases c3 : t420.length + a0.size < 140737488355328
 ·rw [if_pos c3] at H
  have LMc3 := am c3; clear c3; obtain ⟨y423, hy423⟩ : ∃ y_ : List Int, y_ = (t420 ++ bytesOf a0) := ⟨_, rfl⟩
  replace H : (some y423) = some r := by first | (rw [hy423]; with_reducible exact H) | (have H2_ := (Option.bind_some _ _).symm.trans H; rw [hy423]; with_reducible exact H2_) | (have H2_ := (Option.bind_some _ _).symm.trans H; with_reducible exact H2_) | with_reducible exact H | (rw [hy423]; exact H) | exact H
  have Ny423 := am hy423; clear hy423; obtain rfl := Option.some.inj H; simp only [Option.some.injEq, Prod.mk.injEq] at H; obtain ⟨rfl⟩ := H
  go_enter Tryd.func47, Tryd.ntmps47
  go_wp2_with (first | ((with_reducible refine gate_callee (f := 46) rfl ?_); refine goesL_ (some 6) rfl rfl Tryd.func46 (by kernel_rfl) rfl #[.int .u64 (IntKind.u64.wrap ((a0.size : Int)))] rfl ap1 ?_; (with_reducible refine (packhorseref06_Number.calls k (IntKind.u64.wrap ((a0.size : Int))) t420 _ A2.out).mono ?_); rintro e w4 ⟨v421, rfl, ho0, hb⟩; refine ⟨_, rfl, ?_⟩; have _ := am (Kd.R_lower ho0 (below_size (beu HB.out))); have _ := am (below_step (beu HB.out) hb); clear HB; rename_i HO422 HB; (try clear hb); (try clear ho0)) | (at_builtin; refine print_append_str (w0 := w) w.heap.size rfl (.tmp 6) _ 49 9 5 rfl Tryd.underlying49 Tryd.underlying9 info5 v421 t420 a0 rfl rfl ?aO ?aB ?aS ?aL ?_; (case aB => exact (beu HB.out)); (case aO => exact (Kd.own_of_R (ru HO422.out))); (case aS => exact (below_size (beu HB.out))); (case aL => have := LMc3.out; omega); intro v424 w5 ho0 hb hg; have ho := Kd.R_of_own (h1 := fun _ => rfl) (ok := fun _ => True) ho0 (fun _ _ => trivial); clear ho0; have hat := True.intro; rw [← Ny423.out] at ho; change Kd.R (Kd.int .u8) 5 w5 w.heap.size (fun _ => True) v424 y423 at ho; have _ := am (hb); have _ := am (ho); clear HB HO422; rename_i HB HO425; clear ho hb hg hat))
  go_ret
  exact ⟨_, ap4, ru HO425.out, beu HB.out⟩
 ·rw [if_neg c3] at H
  exact absurd H (by simp)
mutual
def packhorseref13_Bytes.l0 : Nat → List Int → List (S27) → Int → Int → Option (List Int)
 | 0, _, _, _, _ => none
 | k + 1, x3, x12, x13, x14 => if x14 < x13 then (if 0 ≤ x14 then (if x14 < (x12.length : Int) then ((some (([(rd_T27 x12 x14).f0, (rd_T27 x12 x14).f3, (rd_T27 x12 x14).f4, (rd_T27 x12 x14).f2, (rd_T27 x12 x14).f1] : List Int) : List Int)).bind fun y431 => (packhorseref13_Bytes.l1 k x3 x12 x13 x14 y431 (y431.length : Int) 0 ((rd_T27 x12 x14).f0) ((rd_T27 x12 x14).f1) ((rd_T27 x12 x14).f2) ((rd_T27 x12 x14).f3) ((rd_T27 x12 x14).f4) ((rd_T27 x12 x14).f5))) else (none)) else (none)) else (some x3)
def packhorseref13_Bytes.l1 : Nat → List Int → List (S27) → Int → Int → List Int → Int → Int → Int → Int → Int → Int → Int → ByteArray → Option (List Int)
 | 0, _, _, _, _, _, _, _, _, _, _, _, _, _ => none
 | k + 1, x3, x12, x13, x14, x28, x29, x30, X0, X1, X2, X3, X4, X5 => if x30 < x29 then (if 0 ≤ x30 then (if x30 < (x28.length : Int) then ((packhorseref06_Number.f k (IntKind.u64.wrap (rd x28 x30))).bind fun t435 => (if x3.length + t435.length < 140737488355328 then (packhorseref13_Bytes.l1 k (x3 ++ t435) x12 x13 x14 x28 x29 (wrap64 (x30 + 1)) X0 X1 X2 X3 X4 X5) else (none))) else (none)) else (none)) else ((packhorseref06_Text.f k X5).bind fun t441 => (if x3.length + t441.length < 140737488355328 then (packhorseref13_Bytes.l0 k (x3 ++ t441) x12 x13 (wrap64 (x14 + 1))) else (none)))
end
def packhorseref13_Bytes.f (k : Nat) (l0 : List (S27)) : Option (List Int) := (packhorseref06_Number.f k (IntKind.u64.wrap ((l0.length : Int)))).bind fun t426 => (packhorseref13_Bytes.l0 k t426 l0 (l0.length : Int) 0)
set_option maxHeartbeats 8000000 in
set_option maxRecDepth 100000 in
theorem packhorseref13_Bytes.calls (k : Nat) (A0 : Option Addr) (c0 : Nat) (l0 : List (S27)) (r : List Int) (w : World) (hr0 : Kd.C k27 w A0 l0.length l0) (hc0 : l0.length ≤ c0) (h : packhorseref13_Bytes.f k l0 = some r) :
  Calls Tryd.prog 29 #[.slice A0 l0.length c0] w fun e w' => ∃ v0_ : Value, e = .returned (v0_) ∧ Kd.R (Kd.int .u8) 5 w' w.heap.size (fun _ => True) v0_ r ∧ Below w.heap.size w w' := by
 have hu27 := Tryd.underlying27; have HR0 := am hr0; have HC0 := am hc0; clear hr0 hc0; have HB := am (Below.refl w.heap.size w); have H : ((packhorseref06_Number.f k (IntKind.u64.wrap ((l0.length : Int)))).bind fun t426 => (packhorseref13_Bytes.l0 k t426 l0 (l0.length : Int) 0)) = some r := h; clear h; replace H := obm H; obtain ⟨t426, A20, H⟩ := H; replace H : (packhorseref13_Bytes.l0 k t426 l0 (l0.length : Int) 0) = some r := H; have A2 := am A20; clear A20; have H' := am H; clear H
 go_enter Tryd.func29, Tryd.ntmps29
 go_wp2_with (first | ((with_reducible refine gate_callee (f := 46) rfl ?_); refine goesL_ (some 11) rfl rfl Tryd.func46 (by kernel_rfl) rfl #[.int .u64 (IntKind.u64.wrap ((l0.length : Int)))] rfl ap1 ?_; (with_reducible refine (packhorseref06_Number.calls k (IntKind.u64.wrap ((l0.length : Int))) t426 _ A2.out).mono ?_); rintro e w3 ⟨v427, rfl, ho0, hb⟩; refine ⟨_, rfl, ?_⟩; have _ := am (Kd.R_lower ho0 (below_size (beu HB.out))); have _ := am (below_step (beu HB.out) hb); clear HB; rename_i HO428 HB; (try clear hb); (try clear ho0)))
 go_loopg [3, 14] k (fun kq v3 v14 w' => ∃ (x3_1 : List Int) (x14_1 : Int), v14 = .int .i64 x14_1 ∧ Aside0 (packhorseref13_Bytes.l0 kq x3_1 l0 (l0.length : Int) x14_1 = some r) ∧ Aside0 (kq ≤ k) ∧ Aside0 (Kd.R (Kd.int .u8) 5 w' w.heap.size (fun _ => True) v3 x3_1) ∧ Aside0 (Below w.heap.size w w'))
 case atStart => exact ⟨(t426), (0), ap3, H', ⟨Nat.le_refl _⟩, ⟨ru HO428.out⟩, ⟨beu HB.out⟩⟩
 case round =>
  clear H'; (try clear c2); (try clear p2); obtain ⟨x3_1, x14_1, rfl, HA, HK1, HO_3, HB⟩ := hrel
  cases gk with
  | zero => exact absurd HA.out (by simp [packhorseref13_Bytes.l0])
  | succ k1 =>
   have H := HA.out; clear HA; simp only [packhorseref13_Bytes.l0] at H
   by_cases c4 : x14_1 < (l0.length : Int)
   ·rw [if_pos c4] at H
    have c4b0 : decide (x14_1 < (l0.length : Int)) = true := decide_eq_true c4; clear c4
    by_cases c5 : 0 ≤ x14_1
    ·rw [if_pos c5] at H
     have c5b0 : decide (0 ≤ x14_1) = true := decide_eq_true c5; clear c5
     by_cases c6 : x14_1 < (l0.length : Int)
     ·rw [if_pos c6] at H
      have c6b0 : decide (x14_1 < (l0.length : Int)) = true := decide_eq_true c6; clear c6; obtain ⟨y431, hy431⟩ : ∃ y_ : List Int, y_ = (([(rd_T27 l0 x14_1).f0, (rd_T27 l0 x14_1).f3, (rd_T27 l0 x14_1).f4, (rd_T27 l0 x14_1).f2, (rd_T27 l0 x14_1).f1] : List Int)) := ⟨_, rfl⟩
      replace H : (packhorseref13_Bytes.l1 k1 x3_1 l0 (l0.length : Int) x14_1 y431 (y431.length : Int) 0 ((rd_T27 l0 x14_1).f0) ((rd_T27 l0 x14_1).f1) ((rd_T27 l0 x14_1).f2) ((rd_T27 l0 x14_1).f3) ((rd_T27 l0 x14_1).f4) ((rd_T27 l0 x14_1).f5)) = some r := by first | (rw [hy431]; with_reducible exact H) | (have H2_ := (Option.bind_some _ _).symm.trans H; rw [hy431]; with_reducible exact H2_) | (have H2_ := (Option.bind_some _ _).symm.trans H; with_reducible exact H2_) | with_reducible exact H | (rw [hy431]; exact H) | exact H
      have Ny431 := am hy431; clear hy431; have H' := am H; clear H; have p429 : 0 ≤ (x14_1 : Int) := of_decide_eq_true ap2; have q429 : x14_1 < (l0.length : Int) := of_decide_eq_true ap2; obtain ⟨ad429, e429, hx429_0, hx429_1, hx429_2, hx429_3, hx429_4, hx429_5⟩ := at_T27 HR0.out x14_1 p429 q429
      cases e429
      replace hx429_0 := (HB.out.cell (World.block_lt_of_cell? w _ hx429_0)).trans hx429_0; replace hx429_1 := (HB.out.cell (World.block_lt_of_cell? w _ hx429_1)).trans hx429_1; replace hx429_2 := (HB.out.cell (World.block_lt_of_cell? w _ hx429_2)).trans hx429_2; replace hx429_3 := (HB.out.cell (World.block_lt_of_cell? w _ hx429_3)).trans hx429_3; replace hx429_4 := (HB.out.cell (World.block_lt_of_cell? w _ hx429_4)).trans hx429_4; replace hx429_5 := (HB.out.cell (World.block_lt_of_cell? w _ hx429_5)).trans hx429_5; replace p429 := eq_true p429; replace q429 := eq_true q429
      go_wp2_with (first | ((with_reducible refine gate_dst (N := 5) rfl ?_); refine box_event ?hg (N := 5) ?hd (cs := #[.int .i64 0, .int .i64 0, .int .i64 0, .int .i64 0, .int .i64 0, .string ⟨#[]⟩]) (t := 27) ?hr ?_; (case hd => rfl); (case hg => rfl); (case hr => first | (go_simp; done) | (go_simp; rfl)); intro gb430 hg w7 hbox hb; have _ := am (Kd.R_below (ru HO_3.out) hb); have _ := am (below_step (beu HB.out) hb); have _ := am (hbox); have _ := am ((by rw [hg]; exact (below_size (beu HB.out)) : w.heap.size ≤ gb430)); have _ := am ((by rw [hg]; exact (below_size (beu HB.out)) : w.heap.size ≤ gb430)); clear HO_3 HB; rename_i HO_3 HB BK430 GW430 GE430; clear hb hbox hg; obtain ⟨hcz8_0, hcz8_1, hcz8_2, hcz8_3, hcz8_4, hcz8_5⟩ := cells6 BK430.out; obtain ⟨hfz8_0, hfz8_1, hfz8_2, hfz8_3, hfz8_4, hfz8_5⟩ := frozens6 BK430.out) | ((with_reducible refine gate_dst (N := 28) rfl ?_); refine Kd.R_lit (Kd.int .i64) _ 2 ?hg (N := 28) ?hd (xs := ([(rd_T27 l0 x14_1).f0, (rd_T27 l0 x14_1).f3, (rd_T27 l0 x14_1).f4, (rd_T27 l0 x14_1).f2, (rd_T27 l0 x14_1).f1] : List Int)) (inner := [.int .i64 ((rd_T27 l0 x14_1).f0), .int .i64 ((rd_T27 l0 x14_1).f3), .int .i64 ((rd_T27 l0 x14_1).f4), .int .i64 ((rd_T27 l0 x14_1).f2), .int .i64 ((rd_T27 l0 x14_1).f1)]) (ok := fun _ => True) (okp := fun _ => True) ?hr ?hp (fun _ hk => hk) trivial (Below.refl _ _) (Nat.le_refl _) (by simp) ?_; (case hd => rfl); (case hg => rfl); (case hr => first | (go_simp; done) | (go_simp; rfl)); (case hp => exact (Reps.one (show Kd.M (Kd.int .i64) _ _ _ ((rd_T27 l0 x14_1).f0) [.int .i64 ((rd_T27 l0 x14_1).f0)] from rfl) (Reps.one (show Kd.M (Kd.int .i64) _ _ _ ((rd_T27 l0 x14_1).f3) [.int .i64 ((rd_T27 l0 x14_1).f3)] from rfl) (Reps.one (show Kd.M (Kd.int .i64) _ _ _ ((rd_T27 l0 x14_1).f4) [.int .i64 ((rd_T27 l0 x14_1).f4)] from rfl) (Reps.one (show Kd.M (Kd.int .i64) _ _ _ ((rd_T27 l0 x14_1).f2) [.int .i64 ((rd_T27 l0 x14_1).f2)] from rfl) (Reps.one (show Kd.M (Kd.int .i64) _ _ _ ((rd_T27 l0 x14_1).f1) [.int .i64 ((rd_T27 l0 x14_1).f1)] from rfl) (Reps.none _ _))))))); intro v432 w9 ho10 hb hg_ hnew_; clear hg_ hnew_; (first | rw [← Ny431.out] at ho10 | (simp only [Int.reduceToNat] at ho10; rw [← Ny431.out] at ho10)); have _ := am (Kd.R_below (ru (Kd.R_mono (rf gb430 5 (rf gb430 4 (rf gb430 3 (rf gb430 2 (rf gb430 1 (rf gb430 0 (Kd.R_types HO_3.out BK430.out (by decide)) (.int .i64 ((rd_T27 l0 x14_1).f0))) (.int .i64 ((rd_T27 l0 x14_1).f1))) (.int .i64 ((rd_T27 l0 x14_1).f2))) (.int .i64 ((rd_T27 l0 x14_1).f3))) (.int .i64 ((rd_T27 l0 x14_1).f4))) (.string ((rd_T27 l0 x14_1).f5))) (fun _ h_ => h_.1))) hb); have _ := am (Kd.R_lower ho10 (below_size (beu HB.out))); have _ := am (blk_below (g := gb430) (o := .cells #[.int .i64 ((rd_T27 l0 x14_1).f0), .int .i64 ((rd_T27 l0 x14_1).f1), .int .i64 ((rd_T27 l0 x14_1).f2), .int .i64 ((rd_T27 l0 x14_1).f3), .int .i64 ((rd_T27 l0 x14_1).f4), .string ((rd_T27 l0 x14_1).f5)] 27 (0, 0)) (by refine bu ?_; refine blk_put (cs := #[.int .i64 ((rd_T27 l0 x14_1).f0), .int .i64 ((rd_T27 l0 x14_1).f1), .int .i64 ((rd_T27 l0 x14_1).f2), .int .i64 ((rd_T27 l0 x14_1).f3), .int .i64 ((rd_T27 l0 x14_1).f4), .string ⟨#[]⟩]) ?_ 5 _ rfl; refine bu ?_; refine blk_put (cs := #[.int .i64 ((rd_T27 l0 x14_1).f0), .int .i64 ((rd_T27 l0 x14_1).f1), .int .i64 ((rd_T27 l0 x14_1).f2), .int .i64 ((rd_T27 l0 x14_1).f3), .int .i64 0, .string ⟨#[]⟩]) ?_ 4 _ rfl; refine bu ?_; refine blk_put (cs := #[.int .i64 ((rd_T27 l0 x14_1).f0), .int .i64 ((rd_T27 l0 x14_1).f1), .int .i64 ((rd_T27 l0 x14_1).f2), .int .i64 0, .int .i64 0, .string ⟨#[]⟩]) ?_ 3 _ rfl; refine bu ?_; refine blk_put (cs := #[.int .i64 ((rd_T27 l0 x14_1).f0), .int .i64 ((rd_T27 l0 x14_1).f1), .int .i64 0, .int .i64 0, .int .i64 0, .string ⟨#[]⟩]) ?_ 2 _ rfl; refine bu ?_; refine blk_put (cs := #[.int .i64 ((rd_T27 l0 x14_1).f0), .int .i64 0, .int .i64 0, .int .i64 0, .int .i64 0, .string ⟨#[]⟩]) ?_ 1 _ rfl; refine bu ?_; refine blk_put (cs := #[.int .i64 0, .int .i64 0, .int .i64 0, .int .i64 0, .int .i64 0, .string ⟨#[]⟩]) ?_ 0 _ rfl; refine bu ?_; exact BK430.out) hb); have _ := am (below_step (beu HB.out) hb); clear HO_3 BK430 HB; rename_i HO_3 HO433 BK430 HB; clear hb ho10; obtain ⟨Ao11, co11, eo11⟩ := Kd.R_slice HO433.out; subst eo11))
      go_loopg [3, 30] k1 (fun kq v3 v30 w' => ∃ (x3_2 : List Int) (x30_2 : Int), v30 = .int .i64 x30_2 ∧ Aside0 (packhorseref13_Bytes.l1 kq x3_2 l0 (l0.length : Int) x14_1 y431 (y431.length : Int) x30_2 ((rd_T27 l0 x14_1).f0) ((rd_T27 l0 x14_1).f1) ((rd_T27 l0 x14_1).f2) ((rd_T27 l0 x14_1).f3) ((rd_T27 l0 x14_1).f4) ((rd_T27 l0 x14_1).f5) = some r) ∧ Aside0 (kq ≤ k1) ∧ Aside0 (Kd.R (Kd.int .u8) 5 w' w.heap.size (fun _ => True) v3 x3_2) ∧ Aside0 (Kd.R (Kd.int .i64) 2 w' w.heap.size (fun _ => True) (.slice Ao11 y431.length co11) y431) ∧ Aside0 (w'.heap[gb430]? = some (.cells #[.int .i64 ((rd_T27 l0 x14_1).f0), .int .i64 ((rd_T27 l0 x14_1).f1), .int .i64 ((rd_T27 l0 x14_1).f2), .int .i64 ((rd_T27 l0 x14_1).f3), .int .i64 ((rd_T27 l0 x14_1).f4), .string ((rd_T27 l0 x14_1).f5)] 27 (0, 0))) ∧ Aside0 (Below w.heap.size w w'))
      case atStart => exact ⟨(x3_1), (0), ap3, H', ⟨Nat.le_refl _⟩, ⟨ru HO_3.out⟩, ⟨ru HO433.out⟩, ⟨by refine bu ?_; exact BK430.out⟩, ⟨beu HB.out⟩⟩
      case round =>
       clear H'; (try clear c2); (try clear p2); (try clear c4); (try clear c4b0); (try clear p4); (try clear q4); (try clear hx4); (try clear c5); (try clear c5b0); (try clear c6); (try clear c6b0); (try clear hcz8_0); (try clear hcz8_1); (try clear hcz8_2); (try clear hcz8_3); (try clear hcz8_4); (try clear hcz8_5); (try clear hfz8_0); (try clear hfz8_1); (try clear hfz8_2); (try clear hfz8_3); (try clear hfz8_4); (try clear hfz8_5); (try clear hx429_0); (try clear hx429_1); (try clear hx429_2); (try clear hx429_3); (try clear hx429_4); (try clear hx429_5); (try clear p2); (try clear p429); (try clear q429); obtain ⟨x3_2, x30_2, rfl, HA, HK2, HO_3, HO_28, BK430, HB⟩ := hrel
       cases gk with
       | zero => exact absurd HA.out (by simp [packhorseref13_Bytes.l1])
       | succ k2 =>
        have H := HA.out; clear HA; simp only [packhorseref13_Bytes.l1] at H
        by_cases c12 : x30_2 < (y431.length : Int)
        ·rw [if_pos c12] at H
         have c12b0 : decide (x30_2 < (y431.length : Int)) = true := decide_eq_true c12; clear c12
         by_cases c13 : 0 ≤ x30_2
         ·rw [if_pos c13] at H
          have c13b0 : decide (0 ≤ x30_2) = true := decide_eq_true c13; clear c13
          by_cases c14 : x30_2 < (y431.length : Int)
          ·rw [if_pos c14] at H
           have c14b0 : decide (x30_2 < (y431.length : Int)) = true := decide_eq_true c14; clear c14; replace H := obm H; obtain ⟨t435, A150, H⟩ := H; replace H : (if x3_2.length + t435.length < 140737488355328 then (packhorseref13_Bytes.l1 k2 (x3_2 ++ t435) l0 (l0.length : Int) x14_1 y431 (y431.length : Int) (wrap64 (x30_2 + 1)) ((rd_T27 l0 x14_1).f0) ((rd_T27 l0 x14_1).f1) ((rd_T27 l0 x14_1).f2) ((rd_T27 l0 x14_1).f3) ((rd_T27 l0 x14_1).f4) ((rd_T27 l0 x14_1).f5)) else (none)) = some r := H; have A15 := am A150; clear A150
           by_cases c16 : x3_2.length + t435.length < 140737488355328
           ·rw [if_pos c16] at H
            have LMc16 := am c16; clear c16; obtain ⟨y438, hy438⟩ : ∃ y_ : List Int, y_ = (x3_2 ++ t435) := ⟨_, rfl⟩
            replace H : (packhorseref13_Bytes.l1 k2 y438 l0 (l0.length : Int) x14_1 y431 (y431.length : Int) (wrap64 (x30_2 + 1)) ((rd_T27 l0 x14_1).f0) ((rd_T27 l0 x14_1).f1) ((rd_T27 l0 x14_1).f2) ((rd_T27 l0 x14_1).f3) ((rd_T27 l0 x14_1).f4) ((rd_T27 l0 x14_1).f5)) = some r := by first | (rw [hy438]; with_reducible exact H) | (have H2_ := (Option.bind_some _ _).symm.trans H; rw [hy438]; with_reducible exact H2_) | (have H2_ := (Option.bind_some _ _).symm.trans H; with_reducible exact H2_) | with_reducible exact H | (rw [hy438]; exact H) | exact H
            have Ny438 := am hy438; clear hy438; have H' := am H; clear H; have p434 : 0 ≤ (x30_2 : Int) := of_decide_eq_true ap2; have q434 : x30_2 < (y431.length : Int) := of_decide_eq_true ap2; obtain ⟨ad434, e434, hx434_0⟩ := Kd.at_int (Kd.R_reads' HO_28.out).2.2 x30_2 p434 q434
            cases e434
            replace p434 := eq_true p434; replace q434 := eq_true q434
            go_wp2_with (first | ((with_reducible refine gate_callee (f := 46) rfl ?_); refine goesL_ (some 37) rfl rfl Tryd.func46 (by kernel_rfl) rfl #[.int .u64 (IntKind.u64.wrap (rd y431 x30_2))] rfl ap1 ?_; (with_reducible refine (packhorseref06_Number.calls k2 (IntKind.u64.wrap (rd y431 x30_2)) t435 _ A15.out).mono ?_); rintro e w17 ⟨v436, rfl, ho0, hb⟩; refine ⟨_, rfl, ?_⟩; have _ := am (Kd.R_elder' (ru HO_3.out) (Kd.R_base ho0) hb); have _ := am (Kd.R_below (ru HO_28.out) hb); have _ := am (Kd.R_lower (Kd.R_new' ho0 (Kd.R_lt (ru HO_3.out))) (below_size (beu HB.out))); have _ := am (blk_below (bu BK430.out) hb); have _ := am (below_step (beu HB.out) hb); clear HO_3 HO_28 BK430 HB; rename_i HO_3 HO_28 HO437 BK430 HB; (try clear hb); (try clear ho0); obtain ⟨Ao19, co19, eo19⟩ := Kd.R_slice HO437.out; subst eo19) | ((with_reducible refine gate_builtin (b := .append) (xs := #[.tmp 34, .tmp 37]) rfl ?_); at_builtin; refine Kd.R_append_rows (Kd.int .u8) (w0 := w) w.heap.size rfl (.tmp 34) (.tmp 37) 49 5 (.int .u8 0) 1 rfl Tryd.underlying49 info5 rfl (by decide) (by omega) u3 x3_2 t435 _ _ _ (fun k_ => some k_ ≠ (.slice Ao19 t435.length co19 : Value).ownBlock) (fun _ => False) rfl rfl ?aO ?aR (fun _ _ h => h) (fun _ h => h.elim) ?aF ?aB ?aS ?aL ?_; (case aR => exact cu (Kd.R_reads' HO437.out).2.2); (case aB => exact (beu HB.out)); (case aF => exact (fun k_ hk => Kd.fresh' (Kd.R_lt (ru HO437.out)) k_ hk)); (case aO => exact (ru (Kd.R_mono HO_3.out (fun _ hk => by first | exact hk.2 | exact trivial)))); (case aS => exact (below_size (beu HB.out))); (case aL => have := LMc16.out; omega); intro v439 w18 ho hb hg hat; rw [← Ny438.out] at ho; have _ := am (Kd.R_over' (ru HO_28.out) (Kd.R_typed (ru HO_3.out)) (by decide) hg); have _ := am (blk_grown (bu BK430.out) hg (Kd.R_ne HO_3.out BK430.out (by decide))); have _ := am (Kd.R_after (ok := (fun _ => True)) (ru HO437.out) hg hat); have _ := am (hb); have _ := am (ho); clear HO_28 BK430 HO437 HB HO_3; rename_i HO_28 BK430 HO437 HB HO440; clear ho hb hg hat))
            go_roundg k2
            case measure => have := HK1.out; have := HK2.out; omega
            case rel => exact ⟨(y438), (wrap64 (x30_2 + 1)), ap3, H', ⟨by have := HK1.out; have := HK2.out; omega⟩, ⟨ru (Kd.R_mono HO440.out (fun _ hk => trivial))⟩, ⟨ru HO_28.out⟩, ⟨by refine bu ?_; exact BK430.out⟩, ⟨beu HB.out⟩⟩
           ·rw [if_neg c16] at H
            exact absurd H (by simp)
          ·rw [if_neg c14] at H
           exact absurd H (by simp)
         ·rw [if_neg c13] at H
          exact absurd H (by simp)
        ·rw [if_neg c12] at H
         have c12b0 : decide (x30_2 < (y431.length : Int)) = false := decide_eq_false c12; clear c12; replace H := obm H; obtain ⟨t441, A200, H⟩ := H; replace H : (if x3_2.length + t441.length < 140737488355328 then (packhorseref13_Bytes.l0 k2 (x3_2 ++ t441) l0 (l0.length : Int) (wrap64 (x14_1 + 1))) else (none)) = some r := H; have A20 := am A200; clear A200
         by_cases c21 : x3_2.length + t441.length < 140737488355328
         ·rw [if_pos c21] at H
          have LMc21 := am c21; clear c21; obtain ⟨y444, hy444⟩ : ∃ y_ : List Int, y_ = (x3_2 ++ t441) := ⟨_, rfl⟩
          replace H : (packhorseref13_Bytes.l0 k2 y444 l0 (l0.length : Int) (wrap64 (x14_1 + 1))) = some r := by first | (rw [hy444]; with_reducible exact H) | (have H2_ := (Option.bind_some _ _).symm.trans H; rw [hy444]; with_reducible exact H2_) | (have H2_ := (Option.bind_some _ _).symm.trans H; with_reducible exact H2_) | with_reducible exact H | (rw [hy444]; exact H) | exact H
          have Ny444 := am hy444; clear hy444; have H' := am H; clear H; obtain ⟨_, _, _, _, _, _⟩ := cells6 BK430.out; obtain ⟨_, _, _, _, _, _⟩ := frozens6 BK430.out
          go_wp2_with (first | ((with_reducible refine gate_callee (f := 47) rfl ?_); refine goesL_ (some 43) rfl rfl Tryd.func47 (by kernel_rfl) rfl #[.string ((rd_T27 l0 x14_1).f5)] rfl ap1 ?_; (with_reducible refine (packhorseref06_Text.calls k2 ((rd_T27 l0 x14_1).f5) t441 _ A20.out).mono ?_); rintro e w23 ⟨v442, rfl, ho0, hb⟩; refine ⟨_, rfl, ?_⟩; have _ := am (Kd.R_elder' (ru HO_3.out) (Kd.R_base ho0) hb); have _ := am (Kd.R_below (ru HO_28.out) hb); have _ := am (Kd.R_lower (Kd.R_new' ho0 (Kd.R_lt (ru HO_3.out))) (below_size (beu HB.out))); have _ := am (blk_below (bu BK430.out) hb); have _ := am (below_step (beu HB.out) hb); clear HO_3 HO_28 BK430 HB; rename_i HO_3 HO_28 HO443 BK430 HB; (try clear hb); (try clear ho0); obtain ⟨Ao25, co25, eo25⟩ := Kd.R_slice HO443.out; subst eo25) | ((with_reducible refine gate_builtin (b := .append) (xs := #[.tmp 40, .tmp 43]) rfl ?_); at_builtin; refine Kd.R_append_rows (Kd.int .u8) (w0 := w) w.heap.size rfl (.tmp 40) (.tmp 43) 49 5 (.int .u8 0) 1 rfl Tryd.underlying49 info5 rfl (by decide) (by omega) u3 x3_2 t441 _ _ _ (fun k_ => some k_ ≠ (.slice Ao25 t441.length co25 : Value).ownBlock) (fun _ => False) rfl rfl ?aO ?aR (fun _ _ h => h) (fun _ h => h.elim) ?aF ?aB ?aS ?aL ?_; (case aR => exact cu (Kd.R_reads' HO443.out).2.2); (case aB => exact (beu HB.out)); (case aF => exact (fun k_ hk => Kd.fresh' (Kd.R_lt (ru HO443.out)) k_ hk)); (case aO => exact (ru (Kd.R_mono HO_3.out (fun _ hk => by first | exact hk.2 | exact trivial)))); (case aS => exact (below_size (beu HB.out))); (case aL => have := LMc21.out; omega); intro v445 w24 ho hb hg hat; rw [← Ny444.out] at ho; have _ := am (Kd.R_over' (ru HO_28.out) (Kd.R_typed (ru HO_3.out)) (by decide) hg); have _ := am (blk_grown (bu BK430.out) hg (Kd.R_ne HO_3.out BK430.out (by decide))); have _ := am (Kd.R_after (ok := (fun _ => True)) (ru HO443.out) hg hat); have _ := am (hb); have _ := am (ho); clear HO_28 BK430 HO443 HB HO_3; rename_i HO_28 BK430 HO443 HB HO446; clear ho hb hg hat))
          go_roundg k2
          case measure => have := HK1.out; have := HK2.out; omega
          case rel => exact ⟨(y444), (wrap64 (x14_1 + 1)), ap3, H', ⟨by have := HK1.out; have := HK2.out; omega⟩, ⟨ru (Kd.R_mono HO446.out (fun _ hk => trivial))⟩, ⟨beu HB.out⟩⟩
         ·rw [if_neg c21] at H
          exact absurd H (by simp)
     ·rw [if_neg c6] at H
      exact absurd H (by simp)
    ·rw [if_neg c5] at H
     exact absurd H (by simp)
   ·rw [if_neg c4] at H
    have c4b0 : decide (x14_1 < (l0.length : Int)) = false := decide_eq_false c4; clear c4; obtain rfl := Option.some.inj H; simp only [Option.some.injEq, Prod.mk.injEq] at H; obtain ⟨rfl⟩ := H
    go_wp2
    go_ret
    exact ⟨_, ap4, ru HO_3.out, beu HB.out⟩
def packet_Reader_Done.f (s0_0 : List Int) (s0_1 : Bool) : Option (Bool × List Int × Bool) := if s0_1 = true then (some (false, s0_0, s0_1)) else (some (((s0_0.length : Int) == 0), s0_0, s0_1))
set_option maxHeartbeats 8000000 in
set_option maxRecDepth 100000 in
theorem packet_Reader_Done.calls (g : Nat) (s0_0 : List Int) (s0_1 : Bool) (r1 : Bool) (r2 : List Int) (r3 : Bool) (w0 w : World) (hI : IsS74 w0 w g s0_0 s0_1) (hB : Below w0.heap.size w0 w) (h : packet_Reader_Done.f s0_0 s0_1 = some (r1, r2, r3)) :
  Calls Tryd.prog 30 #[.pointer (some ⟨g, 0, none⟩)] w fun e w' => e = .returned (.bool r1) ∧ IsS74 w0 w' g r2 r3 ∧ Below w0.heap.size w0 w' ∧ KeepBut w w' g none := by
 have HI0 := am hI; have HK := am (KeepBut.refl w g none); have HL := am hB.size; clear hI; have HW0 := am hB.size; have HB := am hB; clear hB; have H : (if s0_1 = true then (some (false, s0_0, s0_1)) else (some (((s0_0.length : Int) == 0), s0_0, s0_1))) = some (r1, r2, r3) := h; clear h
 by_cases c2 : s0_1 = true
 ·subst c2
  have H1 : (some (false, s0_0, true)) = some (r1, r2, r3) := by rw [if_pos rfl] at H; exact H
  clear H; have H := H1; clear H1; simp only [Option.some.injEq, Prod.mk.injEq] at H; obtain ⟨rfl, rfl, rfl⟩ := H; obtain ⟨ASz3_0, cSz3_0, HGz3, hgz3, HSz3_0⟩ := HI0.out; have hcz3_0 := cellS74_0 HGz3; have hcz3_1 := cellS74_1 HGz3; have hfz3_0 := blk_frozen HGz3 0; have hfz3_1 := blk_frozen HGz3 1; clear HGz3 hgz3
  go_enter Tryd.func30, Tryd.ntmps30
  go_wp2
  go_ret
  exact ⟨ap4, IsS74.u HI0.out, beg (IsS74.ge HI0.out) HB.out, ku HK.out⟩
 ·replace c2 := Bool.eq_false_iff.mpr c2
  subst c2
  have H1 : (some (((s0_0.length : Int) == 0), s0_0, false)) = some (r1, r2, r3) := by rw [if_neg (show ¬ (false = true) by decide)] at H; exact H
  clear H; have H := H1; clear H1; simp only [Option.some.injEq, Prod.mk.injEq] at H; obtain ⟨rfl, rfl, rfl⟩ := H; obtain ⟨ASz4_0, cSz4_0, HGz4, hgz4, HSz4_0⟩ := HI0.out; have hcz4_0 := cellS74_0 HGz4; have hcz4_1 := cellS74_1 HGz4; have hfz4_0 := blk_frozen HGz4 0; have hfz4_1 := blk_frozen HGz4 1; clear HGz4 hgz4
  go_enter Tryd.func30, Tryd.ntmps30
  go_wp2
  go_ret
  exact ⟨ap4, IsS74.u HI0.out, beg (IsS74.ge HI0.out) HB.out, ku HK.out⟩
theorem packet_Reader_Done.callsJ (g : Nat) (s0_0 : List Int) (s0_1 : Bool) (r1 : Bool) (r2 : List Int) (r3 : Bool) (w0 w : World) (hI : JS74 w0 w g s0_0 s0_1) (hB : Below w0.heap.size w0 w) (h : packet_Reader_Done.f s0_0 s0_1 = some (r1, r2, r3)) :
  Calls Tryd.prog 30 #[.pointer (some ⟨g, 0, none⟩)] w fun e w' => e = .returned (.bool r1) ∧ JS74 w0 w' g r2 r3 ∧ Below w0.heap.size w0 w' ∧ KeepBut w w' g none := by
 obtain ⟨wS, hIs, hBs, hle⟩ := hI
 exact (packet_Reader_Done.calls g s0_0 s0_1 r1 r2 r3 wS w hIs hBs h).mono fun e w' hp_ => by
  obtain ⟨p0_, hi_, hb_, hk_⟩ := hp_; exact ⟨p0_, ⟨wS, hi_, hb_, hle⟩, below_keepJ74 hB hBs hb_ hk_ (Nat.le_trans hle.size (IsS74.ge hIs)), hk_⟩
mutual
def packhorselaw13_OutboxBytes.j0 : Nat → List (S27) → List Int → Bool → Option (Bool)
 | 0, _, _, _ => none
 | k + 1, x0, x1, x22 => if x22 = true then (some true) else ((packet_New.f x1).bind fun bt448 => ((outbox_Take.f k bt448.1 bt448.2).bind fun bt451 => ((packhorseref13_Take.f k x1 true).bind fun bt458 => (if (bt451.2.1 != bt458.2.1) = true then (packhorselaw13_OutboxBytes.j1 k x0 true) else ((packhorseref13_Same.f k bt451.1 bt458.1).bind fun t464 => (if t464 = true then ((outbox_Right.f k x0).bind fun t465 => ((packhorseref13_Right.f k x0).bind fun t466 => (packhorselaw13_OutboxBytes.j1 k x0 (t465 != t466)))) else (packhorselaw13_OutboxBytes.j1 k x0 true)))))))
def packhorselaw13_OutboxBytes.j1 : Nat → List (S27) → Bool → Option (Bool)
 | 0, _, _ => none
 | k + 1, x0, x51 => if x51 = true then (some false) else ((packhorseref13_Right.f k x0).bind fun t467 => (if t467 = true then ((outbox_Put.f k ([] : List Int) x0).bind fun t468 => ((packet_New.f t468).bind fun bt471 => ((outbox_Take.f k bt471.1 bt471.2).bind fun bt474 => ((packhorseref13_Bytes.f k x0).bind fun t480 => (if (strOfNums t468).toList = (strOfNums t480).toList then (if bt474.2.1 = true then ((packet_Reader_Done.f bt474.2.2.1 bt474.2.2.2).bind fun bt483 => (if bt483.1 = true then ((packhorseref13_Same.f k bt474.1 x0).bind fun t486 => (some t486)) else (some false))) else (some false)) else (some false)))))) else (some true)))
end
def packhorselaw13_OutboxBytes.f (k : Nat) (l0 : List (S27)) (l1 : List Int) : Option (Bool) := (packhorselaw13_outboxAlive.f k).bind fun t447 => (if t447 = true then (if (l0.length : Int) > 60 then (packhorselaw13_OutboxBytes.j0 k l0 l1 true) else (packhorselaw13_OutboxBytes.j0 k l0 l1 (decide ((l1.length : Int) > 2000)))) else (some false))
def packhorselaw13_OutboxBytes.T14 : Bool × List (List Nat × List Nat) := (true, [([], []), ([0], [0]), ([], []), ([2], [2]), ([3], [3]), ([1, 4], [1, 4]), ([5, 3], [5]), ([6], [6]), ([6, 7], [6, 7]), ([8, 6], [8]), ([9], [9]), ([10, 9, 9], [9, 10]), ([9, 11], [9, 11]), ([12, 11], [12]), ([13], [13]), ([13], [13]), ([14, 15, 13, 13], [13, 14, 15]), ([13, 16], [13, 16]), ([17, 16, 0, 1, 2, 3, 4, 5, 6, 7, 8, 9, 10, 11, 12, 13, 14, 15, 16, 17], [17])])
def packhorselaw13_OutboxBytes.B14 : List Nat := [0, 1, 0, 4, 12, 31, 63, 127, 255, 511, 1023, 2047, 4095, 8191, 16383, 16383, 65535, 131071, 262143]
theorem packhorselaw13_OutboxBytes.tab14 : rtab .any (opsOf Tryd.f7 14) = packhorselaw13_OutboxBytes.T14 := by kernel_rfl
theorem packhorselaw13_OutboxBytes.bits14 : waitsOk packhorselaw13_OutboxBytes.T14.2 packhorselaw13_OutboxBytes.B14 = true := by kernel_rfl
set_option maxHeartbeats 8000000 in
set_option maxRecDepth 100000 in
theorem packhorselaw13_OutboxBytes.calls (k : Nat) (A0 : Option Addr) (c0 : Nat) (l0 : List (S27)) (A1 : Option Addr) (c1 : Nat) (l1 : List Int) (r : Bool) (w : World) (hr0 : Kd.C k27 w A0 l0.length l0) (hc0 : l0.length ≤ c0) (hr1 : Kd.C (Kd.int .u8) w A1 l1.length l1) (hc1 : l1.length ≤ c1) (hT : Tabs w) (h : packhorselaw13_OutboxBytes.f k l0 l1 = some r) (hr_ : r = true) :
  Calls Tryd.prog 7 #[.slice A0 l0.length c0, .slice A1 l1.length c1] w fun e w' => e = .returned (.bool r) ∧ Below w.heap.size w w' := by
 have hu57 := Tryd.underlying57; have HR0 := am hr0; have HC0 := am hc0; clear hr0 hc0; have HR1 := am hr1; have HC1 := am hc1; clear hr1 hc1; have HRT := am hr_; clear hr_; have HT := am hT; clear hT; have HB := am (Below.refl w.heap.size w); have H : ((packhorselaw13_outboxAlive.f k).bind fun t447 => (if t447 = true then (if (l0.length : Int) > 60 then (packhorselaw13_OutboxBytes.j0 k l0 l1 true) else (packhorselaw13_OutboxBytes.j0 k l0 l1 (decide ((l1.length : Int) > 2000)))) else (some false))) = some r := h; clear h; replace H := obm H; obtain ⟨t447, A30, H⟩ := H; replace H : (if t447 = true then (if (l0.length : Int) > 60 then (packhorselaw13_OutboxBytes.j0 k l0 l1 true) else (packhorselaw13_OutboxBytes.j0 k l0 l1 (decide ((l1.length : Int) > 2000)))) else (some false)) = some r := H; have A3 := am A30; clear A30
 by_cases c4 : t447 = true
 ·subst c4
  have H1 : (if (l0.length : Int) > 60 then (packhorselaw13_OutboxBytes.j0 k l0 l1 true) else (packhorselaw13_OutboxBytes.j0 k l0 l1 (decide ((l1.length : Int) > 2000)))) = some r := by rw [if_pos rfl] at H; exact H
  clear H; have H := H1; clear H1; have HC5 := am H; clear H
  go_enter Tryd.func7, Tryd.ntmps7
  go_upto_region 3 with (first | ((with_reducible refine gate_callee (f := 12) rfl ?_); refine goesL_ (some 13) rfl rfl Tryd.func12 (by kernel_rfl) rfl #[] rfl ap1 ?_; (with_reducible refine (packhorselaw13_outboxAlive.calls k  true _ ?side1 A3.out rfl).mono ?_); (case side1 => first | (with_reducible exact HT.out) | exact Tabs.below HT.out (beu HB.out)); rintro e w6 ⟨rfl, hb⟩; refine ⟨_, rfl, ?_⟩; have _ := am (below_step (beu HB.out) hb); clear HB; rename_i HB; (try clear hb)))
  (try simp only [Act.put, sA, sB, sC])
  go_cut [22] (fun v22 wc => ∃ (kq : Nat) (x22_4 : Bool), v22 = .bool x22_4 ∧ Aside0 (packhorselaw13_OutboxBytes.j0 kq l0 l1 x22_4 = some r) ∧ Aside0 (kq ≤ k) ∧ Aside0 (Below w.heap.size w wc))
  case first =>
   have H := HC5.out; clear HC5
   by_cases c7 : (l0.length : Int) > 60
   ·rw [if_pos c7] at H
    have c7b0 : decide (60 < (l0.length : Int)) = true := decide_eq_true c7; have c7b1 : decide (60 < l0.length) = true := decide_eq_true (by omega); clear c7
    (first | rw [c7b0] | (simp only [i64_w, i32_w]; rw [c7b0]) | skip)
    have H' := am H; clear H
    go_wp2
    go_meet
    case rel => exact ⟨_, (true), ap3, H', ⟨by first | omega | exact Nat.le_refl _⟩, ⟨beu HB.out⟩⟩
   ·rw [if_neg c7] at H
    have c7b0 : decide (60 < (l0.length : Int)) = false := decide_eq_false c7; have c7b1 : decide (60 < l0.length) = false := decide_eq_false (by omega); clear c7
    (first | rw [c7b0] | (simp only [i64_w, i32_w]; rw [c7b0]) | skip)
    have H' := am H; clear H
    go_wp2
    go_meet
    case rel => exact ⟨_, (decide ((l1.length : Int) > 2000)), ap3, H', ⟨by first | omega | exact Nat.le_refl _⟩, ⟨beu HB.out⟩⟩
  case rest =>
   clear HC5; (try clear c1); (try clear p2); (try clear c4); (try clear c7); (try clear c7b0); (try clear c7b1); obtain ⟨kq, x22_4, rfl, HA, HJ4, HB⟩ := hcut
   cases kq with
   | zero => exact absurd HA.out (by simp [packhorselaw13_OutboxBytes.j0])
   | succ kj4 =>
    have H := HA.out; clear HA; simp only [packhorselaw13_OutboxBytes.j0] at H
    by_cases c8 : x22_4 = true
    ·subst c8
     have H1 : (some true) = some r := by rw [if_pos rfl] at H; exact H
     clear H; have H := H1; clear H1; obtain rfl := Option.some.inj H; simp only [Option.some.injEq, Prod.mk.injEq] at H; obtain ⟨rfl⟩ := H
     go_wp2
     go_ret
     exact ⟨ap4, beu HB.out⟩
    ·replace c8 := Bool.eq_false_iff.mpr c8
     subst c8
     have H1 : ((packet_New.f l1).bind fun bt448 => ((outbox_Take.f kj4 bt448.1 bt448.2).bind fun bt451 => ((packhorseref13_Take.f kj4 l1 true).bind fun bt458 => (if (bt451.2.1 != bt458.2.1) = true then (packhorselaw13_OutboxBytes.j1 kj4 l0 true) else ((packhorseref13_Same.f kj4 bt451.1 bt458.1).bind fun t464 => (if t464 = true then ((outbox_Right.f kj4 l0).bind fun t465 => ((packhorseref13_Right.f kj4 l0).bind fun t466 => (packhorselaw13_OutboxBytes.j1 kj4 l0 (t465 != t466)))) else (packhorselaw13_OutboxBytes.j1 kj4 l0 true))))))) = some r := by rw [if_neg (show ¬ (false = true) by decide)] at H; exact H
     clear H; have H := H1; clear H1; replace H := obm H; obtain ⟨⟨t448, t449⟩, A90, H⟩ := H; replace H : ((outbox_Take.f kj4 t448 t449).bind fun bt451 => ((packhorseref13_Take.f kj4 l1 true).bind fun bt458 => (if (bt451.2.1 != bt458.2.1) = true then (packhorselaw13_OutboxBytes.j1 kj4 l0 true) else ((packhorseref13_Same.f kj4 bt451.1 bt458.1).bind fun t464 => (if t464 = true then ((outbox_Right.f kj4 l0).bind fun t465 => ((packhorseref13_Right.f kj4 l0).bind fun t466 => (packhorselaw13_OutboxBytes.j1 kj4 l0 (t465 != t466)))) else (packhorselaw13_OutboxBytes.j1 kj4 l0 true)))))) = some r := H; have A9 := am A90; clear A90; replace H := obm H; obtain ⟨⟨t451, t454, t455, t456⟩, A100, H⟩ := H; replace H : ((packhorseref13_Take.f kj4 l1 true).bind fun bt458 => (if (t454 != bt458.2.1) = true then (packhorselaw13_OutboxBytes.j1 kj4 l0 true) else ((packhorseref13_Same.f kj4 t451 bt458.1).bind fun t464 => (if t464 = true then ((outbox_Right.f kj4 l0).bind fun t465 => ((packhorseref13_Right.f kj4 l0).bind fun t466 => (packhorselaw13_OutboxBytes.j1 kj4 l0 (t465 != t466)))) else (packhorselaw13_OutboxBytes.j1 kj4 l0 true))))) = some r := H; have A10 := am A100; clear A100; replace H := obm H; obtain ⟨⟨t458, t461, t462, t463⟩, A110, H⟩ := H; replace H : (if (t454 != t461) = true then (packhorselaw13_OutboxBytes.j1 kj4 l0 true) else ((packhorseref13_Same.f kj4 t451 t458).bind fun t464 => (if t464 = true then ((outbox_Right.f kj4 l0).bind fun t465 => ((packhorseref13_Right.f kj4 l0).bind fun t466 => (packhorselaw13_OutboxBytes.j1 kj4 l0 (t465 != t466)))) else (packhorselaw13_OutboxBytes.j1 kj4 l0 true)))) = some r := H; have A11 := am A110; clear A110; have HC12 := am H; clear H
     go_upto_region 7 with (first | ((with_reducible refine gate_callee (f := 25) rfl ?_); refine goesL_ (some 25) rfl rfl Tryd.func25 (by kernel_rfl) rfl #[.slice A1 l1.length c1] rfl ap1 ?_; (with_reducible refine (packet_New.calls _ _ l1 t448 t449 w _ ?side1 ?side2 ?side3 A9.out).mono ?_); (case side1 => exact beu HB.out); (case side2 => exact cu (Kd.C_below HR1.out HB.out)); (case side3 => exact HC1.out); rintro e w13 ⟨g450, rfl, hi, hb, hb2⟩; refine ⟨_, rfl, ?_⟩; have _ := am (hb); have _ := am (hi); clear HB; rename_i HB HI450; (try clear hb hb2 hi)) | ((with_reducible refine gate_callee (f := 24) rfl ?_); refine goesL_ (some 26) rfl rfl Tryd.func24 (by kernel_rfl) rfl #[.pointer (some ⟨g450, 0, none⟩)] rfl ap1 ?_; (with_reducible refine (outbox_Take.callsJ kj4 g450 t448 t449 t451 t454 t455 t456 w _ ?side1 ?side2 ?side3 A10.out).mono ?_); (case side1 => exact JS74.u HI450.out); (case side2 => exact beg (JS74.ge HI450.out) HB.out); (case side3 => first | (with_reducible exact HT.out) | exact Tabs.below HT.out (beg (JS74.ge HI450.out) HB.out)); rintro e w14 ⟨v452, rfl, ho0, hi, hb, hk⟩; refine ⟨_, rfl, ?_⟩; have _ := am (Kd.R_lower ho0 (below_size (beg (JS74.ge HI450.out) HB.out))); have _ := am (hb); have _ := am (hi); clear HB HI450; rename_i HO453 HB HI450; (try clear hb hk hi); (try clear ho0)) | ((with_reducible refine gate_dst (N := 32) rfl ?_); (try (refine gate_guard (by rfl) ?_; dsimp only)); refine box_event ?hg (N := 32) ?hd (cs := #[.slice A1 l1.length c1, .bool true]) (t := 57) ?hr ?_; (case hd => rfl); (case hg => rfl); (case hr => first | (go_simp; done) | (go_simp; rfl)); intro gb457 hg w15 hbox hb; have _ := am (Kd.R_below (ru HO453.out) hb); have _ := am (below_step (beu HB.out) hb); have _ := am ((⟨w, ⟨_, _, hbox, (by rw [hg]; exact (below_size (beu HB.out)) : w.heap.size ≤ gb457), HR1.out, HC1.out⟩, below_step (beu HB.out) hb, Below.refl _ _⟩ : JS57 w w15 gb457 l1 true)); clear HO453 HB; rename_i HO453 HB HI457; clear hb hbox hg) | ((with_reducible refine gate_callee (f := 26) rfl ?_); refine goesL_ (some 33) rfl rfl Tryd.func26 (by kernel_rfl) rfl #[.pointer (some ⟨gb457, 0, none⟩)] rfl ap1 ?_; (with_reducible refine (packhorseref13_Take.callsJ kj4 gb457 l1 true t458 t461 t462 t463 w _ ?side1 ?side2 A11.out).mono ?_); (case side1 => exact JS57.u HI457.out); (case side2 => exact beg (JS57.ge HI457.out) HB.out); rintro e w16 ⟨v459, rfl, ho0, hi, hb, hk⟩; refine ⟨_, rfl, ?_⟩; have _ := am (Kd.R_mono (Kd.R_told (Kd.R_oldK (JS57.apart (show JS57 w _ gb457 l1 true from JS57.u HI457.out) (ru HO453.out) (by decide)) hk) (Kd.R_base ho0)) (fun _ h_ => h_.1)); have _ := am (Kd.R_lower (Kd.R_new' ho0 (Kd.R_lt (ru HO453.out))) (below_size (beg (JS57.ge HI457.out) HB.out))); have _ := am (hb); have _ := am (hi); clear HO453 HB HI457; rename_i HO453 HO460 HB HI457; (try clear hb hk hi); (try clear ho0)))
     (try simp only [Act.put, sA, sB, sC])
     go_cut [51] (fun v51 wc => ∃ (kq : Nat) (x51_11 : Bool), v51 = .bool x51_11 ∧ Aside0 (packhorselaw13_OutboxBytes.j1 kq l0 x51_11 = some r) ∧ Aside0 (kq ≤ kj4) ∧ Aside0 (Below w.heap.size w wc))
     case first =>
      have H := HC12.out; clear HC12
      by_cases c17 : (t454 != t461) = true
      ·rw [if_pos c17] at H
       have c17b0 : (t454 != t461) = true := c17
       (try (have c17b1 : decide (t454 = t461) = false := by simpa using c17))
       (try (have c17b2 : (t454 == t461) = false := by simpa using c17))
       (try (have c17b3 : ¬ (t454 = t461) := by simpa using c17))
       clear c17
       (first | rw [c17b0] | (simp only [i64_w, i32_w]; rw [c17b0]) | skip)
       have H' := am H; clear H
       go_wp2
       go_meet
       case rel => exact ⟨_, (true), ap3, H', ⟨by have := HJ4.out; first | omega | exact Nat.le_refl _⟩, ⟨beg (JS57.ge HI457.out) HB.out⟩⟩
      ·rw [if_neg c17] at H
       have c17b0 : (t454 != t461) = false := by simpa using c17
       (try (have c17b1 : decide (t454 = t461) = true := by simpa using c17))
       (try (have c17b2 : (t454 == t461) = true := by simpa using c17))
       clear c17
       (first | rw [c17b0] | (simp only [i64_w, i32_w]; rw [c17b0]) | skip)
       replace H := obm H; obtain ⟨t464, A180, H⟩ := H; replace H : (if t464 = true then ((outbox_Right.f kj4 l0).bind fun t465 => ((packhorseref13_Right.f kj4 l0).bind fun t466 => (packhorselaw13_OutboxBytes.j1 kj4 l0 (t465 != t466)))) else (packhorselaw13_OutboxBytes.j1 kj4 l0 true)) = some r := H; have A18 := am A180; clear A180
       by_cases c19 : t464 = true
       ·subst c19
        have H1 : ((outbox_Right.f kj4 l0).bind fun t465 => ((packhorseref13_Right.f kj4 l0).bind fun t466 => (packhorselaw13_OutboxBytes.j1 kj4 l0 (t465 != t466)))) = some r := by rw [if_pos rfl] at H; exact H
        clear H; have H := H1; clear H1; replace H := obm H; obtain ⟨t465, A200, H⟩ := H; replace H : ((packhorseref13_Right.f kj4 l0).bind fun t466 => (packhorselaw13_OutboxBytes.j1 kj4 l0 (t465 != t466))) = some r := H; have A20 := am A200; clear A200; replace H := obm H; obtain ⟨t466, A210, H⟩ := H; replace H : (packhorselaw13_OutboxBytes.j1 kj4 l0 (t465 != t466)) = some r := H; have A21 := am A210; clear A210; have H' := am H; clear H; obtain ⟨Ao22, co22, eo22⟩ := Kd.R_slice HO453.out; subst eo22; obtain ⟨Ao23, co23, eo23⟩ := Kd.R_slice HO460.out; subst eo23
        go_wp2_with (first | (go_at_call 17; (with_reducible refine (packhorseref13_Same.calls kj4 _ _ t451 _ _ t458 true _ ?side1 ?side2 ?side3 ?side4 A18.out).mono ?_); (case side1 => exact cu (Kd.R_reads' HO453.out).2.2); (case side2 => exact (Kd.R_reads' HO453.out).2.1); (case side3 => exact cu (Kd.R_reads' HO460.out).2.2); (case side4 => exact (Kd.R_reads' HO460.out).2.1); rintro e w' ⟨rfl, ⟨nd, rfl⟩⟩) | (go_at_call 16; (with_reducible refine (outbox_Right.calls kj4 _ _ l0 t465 _ ?side1 ?side2 ?side3 A20.out).mono ?_); (case side1 => repeat (first | exact (Kd.C_below HR0.out (beg (JS57.ge HI457.out) HB.out)) | (with_reducible refine Kd.C_alloc ?_ _) | (with_reducible refine Kd.C_drewN ?_ _) | (with_reducible refine Kd.C_drew ?_))); (case side2 => exact HC0.out); (case side3 => first | (with_reducible exact HT.out) | exact Tabs.below HT.out (beg (JS57.ge HI457.out) HB.out)); rintro e w24 ⟨rfl, hb⟩; have _ := am (Kd.R_below (ru HO453.out) hb); have _ := am (Kd.R_below (ru HO460.out) hb); have _ := am (JS57.below (JS57.u HI457.out) hb); have _ := am (below_step (beg (JS57.ge HI457.out) HB.out) hb); clear HO453 HO460 HI457 HB; rename_i HO453 HO460 HI457 HB; (try clear hb)) | (go_at_call 27; (with_reducible refine (packhorseref13_Right.calls kj4 _ _ l0 t466 _ ?side1 ?side2 A21.out).mono ?_); (case side1 => exact cu (Kd.C_below HR0.out HB.out)); (case side2 => exact HC0.out); rintro e w25 ⟨rfl, hb⟩; have _ := am (Kd.R_below (ru HO453.out) hb); have _ := am (Kd.R_below (ru HO460.out) hb); have _ := am (JS57.below (JS57.u HI457.out) hb); have _ := am (below_step (beg (JS57.ge HI457.out) HB.out) hb); clear HO453 HO460 HI457 HB; rename_i HO453 HO460 HI457 HB; (try clear hb)))
        go_meet
        case rel => exact ⟨_, ((t465 != t466)), ap3, H', ⟨by have := HJ4.out; first | omega | exact Nat.le_refl _⟩, ⟨beg (JS57.ge HI457.out) HB.out⟩⟩
       ·replace c19 := Bool.eq_false_iff.mpr c19
        subst c19
        have H1 : (packhorselaw13_OutboxBytes.j1 kj4 l0 true) = some r := by rw [if_neg (show ¬ (false = true) by decide)] at H; exact H
        clear H; have H := H1; clear H1; have H' := am H; clear H; obtain ⟨Ao26, co26, eo26⟩ := Kd.R_slice HO453.out; subst eo26; obtain ⟨Ao27, co27, eo27⟩ := Kd.R_slice HO460.out; subst eo27
        go_wp2_with (first | (go_at_call 17; (with_reducible refine (packhorseref13_Same.calls kj4 _ _ t451 _ _ t458 false _ ?side1 ?side2 ?side3 ?side4 A18.out).mono ?_); (case side1 => exact cu (Kd.R_reads' HO453.out).2.2); (case side2 => exact (Kd.R_reads' HO453.out).2.1); (case side3 => exact cu (Kd.R_reads' HO460.out).2.2); (case side4 => exact (Kd.R_reads' HO460.out).2.1); rintro e w' ⟨rfl, ⟨nd, rfl⟩⟩))
        go_meet
        case rel => exact ⟨_, (true), ap3, H', ⟨by have := HJ4.out; first | omega | exact Nat.le_refl _⟩, ⟨beg (JS57.ge HI457.out) HB.out⟩⟩
     case rest =>
      clear HC12; (try clear c1); (try clear c2); (try clear p2); (try clear c4); (try clear c7); (try clear c7b0); (try clear c7b1); (try clear c8); (try clear c12); (try clear c17); (try clear c17b0); (try clear c17b1); (try clear c17b2); (try clear c19); (try clear c24); (try clear c25); (try clear c26); (try clear p2); obtain ⟨kq, x51_11, rfl, HA, HJ11, HB⟩ := hcut
      cases kq with
      | zero => exact absurd HA.out (by simp [packhorselaw13_OutboxBytes.j1])
      | succ kj11 =>
       have H := HA.out; clear HA; simp only [packhorselaw13_OutboxBytes.j1] at H
       by_cases c28 : x51_11 = true
       ·subst c28
        have H1 : (some false) = some r := by rw [if_pos rfl] at H; exact H
        clear H; have H := H1; clear H1; obtain rfl := Option.some.inj H; exact absurd HRT.out (by decide)
       ·replace c28 := Bool.eq_false_iff.mpr c28
        subst c28
        have H1 : ((packhorseref13_Right.f kj11 l0).bind fun t467 => (if t467 = true then ((outbox_Put.f kj11 ([] : List Int) l0).bind fun t468 => ((packet_New.f t468).bind fun bt471 => ((outbox_Take.f kj11 bt471.1 bt471.2).bind fun bt474 => ((packhorseref13_Bytes.f kj11 l0).bind fun t480 => (if (strOfNums t468).toList = (strOfNums t480).toList then (if bt474.2.1 = true then ((packet_Reader_Done.f bt474.2.2.1 bt474.2.2.2).bind fun bt483 => (if bt483.1 = true then ((packhorseref13_Same.f kj11 bt474.1 l0).bind fun t486 => (some t486)) else (some false))) else (some false)) else (some false)))))) else (some true))) = some r := by rw [if_neg (show ¬ (false = true) by decide)] at H; exact H
        clear H; have H := H1; clear H1; replace H := obm H; obtain ⟨t467, A290, H⟩ := H; replace H : (if t467 = true then ((outbox_Put.f kj11 ([] : List Int) l0).bind fun t468 => ((packet_New.f t468).bind fun bt471 => ((outbox_Take.f kj11 bt471.1 bt471.2).bind fun bt474 => ((packhorseref13_Bytes.f kj11 l0).bind fun t480 => (if (strOfNums t468).toList = (strOfNums t480).toList then (if bt474.2.1 = true then ((packet_Reader_Done.f bt474.2.2.1 bt474.2.2.2).bind fun bt483 => (if bt483.1 = true then ((packhorseref13_Same.f kj11 bt474.1 l0).bind fun t486 => (some t486)) else (some false))) else (some false)) else (some false)))))) else (some true)) = some r := H; have A29 := am A290; clear A290
        by_cases c30 : t467 = true
        ·subst c30
         have H1 : ((outbox_Put.f kj11 ([] : List Int) l0).bind fun t468 => ((packet_New.f t468).bind fun bt471 => ((outbox_Take.f kj11 bt471.1 bt471.2).bind fun bt474 => ((packhorseref13_Bytes.f kj11 l0).bind fun t480 => (if (strOfNums t468).toList = (strOfNums t480).toList then (if bt474.2.1 = true then ((packet_Reader_Done.f bt474.2.2.1 bt474.2.2.2).bind fun bt483 => (if bt483.1 = true then ((packhorseref13_Same.f kj11 bt474.1 l0).bind fun t486 => (some t486)) else (some false))) else (some false)) else (some false)))))) = some r := by rw [if_pos rfl] at H; exact H
         clear H; have H := H1; clear H1; replace H := obm H; obtain ⟨t468, A310, H⟩ := H; replace H : ((packet_New.f t468).bind fun bt471 => ((outbox_Take.f kj11 bt471.1 bt471.2).bind fun bt474 => ((packhorseref13_Bytes.f kj11 l0).bind fun t480 => (if (strOfNums t468).toList = (strOfNums t480).toList then (if bt474.2.1 = true then ((packet_Reader_Done.f bt474.2.2.1 bt474.2.2.2).bind fun bt483 => (if bt483.1 = true then ((packhorseref13_Same.f kj11 bt474.1 l0).bind fun t486 => (some t486)) else (some false))) else (some false)) else (some false))))) = some r := H; have A31 := am A310; clear A310; replace H := obm H; obtain ⟨⟨t471, t472⟩, A320, H⟩ := H; replace H : ((outbox_Take.f kj11 t471 t472).bind fun bt474 => ((packhorseref13_Bytes.f kj11 l0).bind fun t480 => (if (strOfNums t468).toList = (strOfNums t480).toList then (if bt474.2.1 = true then ((packet_Reader_Done.f bt474.2.2.1 bt474.2.2.2).bind fun bt483 => (if bt483.1 = true then ((packhorseref13_Same.f kj11 bt474.1 l0).bind fun t486 => (some t486)) else (some false))) else (some false)) else (some false)))) = some r := H; have A32 := am A320; clear A320; replace H := obm H; obtain ⟨⟨t474, t477, t478, t479⟩, A330, H⟩ := H; replace H : ((packhorseref13_Bytes.f kj11 l0).bind fun t480 => (if (strOfNums t468).toList = (strOfNums t480).toList then (if t477 = true then ((packet_Reader_Done.f t478 t479).bind fun bt483 => (if bt483.1 = true then ((packhorseref13_Same.f kj11 t474 l0).bind fun t486 => (some t486)) else (some false))) else (some false)) else (some false))) = some r := H; have A33 := am A330; clear A330; replace H := obm H; obtain ⟨t480, A340, H⟩ := H; replace H : (if (strOfNums t468).toList = (strOfNums t480).toList then (if t477 = true then ((packet_Reader_Done.f t478 t479).bind fun bt483 => (if bt483.1 = true then ((packhorseref13_Same.f kj11 t474 l0).bind fun t486 => (some t486)) else (some false))) else (some false)) else (some false)) = some r := H; have A34 := am A340; clear A340
         by_cases c35 : (strOfNums t468).toList = (strOfNums t480).toList
         ·rw [if_pos c35] at H
          have c35b0 : ((strOfNums t468).toList == (strOfNums t480).toList) = true := beq_iff_eq.mpr c35; have c35b1 : ((strOfNums t468).toList != (strOfNums t480).toList) = false := bne_eq_false_iff_eq.mpr c35; clear c35
          by_cases c36 : t477 = true
          ·subst c36
           have H1 : ((packet_Reader_Done.f t478 t479).bind fun bt483 => (if bt483.1 = true then ((packhorseref13_Same.f kj11 t474 l0).bind fun t486 => (some t486)) else (some false))) = some r := by rw [if_pos rfl] at H; exact H
           clear H; have H := H1; clear H1; replace H := obm H; obtain ⟨⟨t483, t484, t485⟩, A370, H⟩ := H; replace H : (if t483 = true then ((packhorseref13_Same.f kj11 t474 l0).bind fun t486 => (some t486)) else (some false)) = some r := H; have A37 := am A370; clear A370
           by_cases c38 : t483 = true
           ·subst c38
            have H1 : ((packhorseref13_Same.f kj11 t474 l0).bind fun t486 => (some t486)) = some r := by rw [if_pos rfl] at H; exact H
            clear H; have H := H1; clear H1; replace H := obm H; obtain ⟨t486, A390, H⟩ := H; replace H : (some t486) = some r := H; have A39 := am A390; clear A390; obtain rfl := Option.some.inj H; simp only [Option.some.injEq, Prod.mk.injEq] at H; obtain ⟨rfl⟩ := H
            try go_wp2_with (first | ((with_reducible refine gate_callee (f := 27) rfl ?_); refine goesL_ (some 53) rfl rfl Tryd.func27 (by kernel_rfl) rfl #[.slice A0 l0.length c0] rfl ap1 ?_; (with_reducible refine (packhorseref13_Right.calls kj11 _ _ l0 true _ ?side1 ?side2 A29.out).mono ?_); (case side1 => exact cu (Kd.C_below HR0.out HB.out)); (case side2 => exact HC0.out); rintro e w40 ⟨rfl, hb⟩; refine ⟨_, rfl, ?_⟩; have _ := am (below_step (beu HB.out) hb); clear HB; rename_i HB; (try clear hb)) | ((with_reducible refine gate_callee (f := 25) rfl ?_); refine goesL_ (some 58) rfl rfl Tryd.func25 (by kernel_rfl) rfl #[.slice Ao42 t468.length co42] rfl ap1 ?_; (with_reducible refine (packet_New.calls _ _ t468 t471 t472 w _ ?side1 ?side2 ?side3 A32.out).mono ?_); (case side1 => exact beu HB.out); (case side2 => exact cu (Kd.R_reads' HO470.out).2.2); (case side3 => exact (Kd.R_reads' HO470.out).2.1); rintro e w43 ⟨g473, rfl, hi, hb, hb2⟩; refine ⟨_, rfl, ?_⟩; have _ := am (Kd.R_below (ru HO470.out) hb2); have _ := am (hb); have _ := am (hi); clear HO470 HB; rename_i HO470 HB HI473; (try clear hb hb2 hi)) | ((with_reducible refine gate_callee (f := 24) rfl ?_); refine goesL_ (some 61) rfl rfl Tryd.func24 (by kernel_rfl) rfl #[.pointer (some ⟨g473, 0, none⟩)] rfl ap1 ?_; (with_reducible refine (outbox_Take.callsJ kj11 g473 t471 t472 t474 true t478 t479 w _ ?side1 ?side2 ?side3 A33.out).mono ?_); (case side1 => exact JS74.u HI473.out); (case side2 => exact beg (JS74.ge HI473.out) HB.out); (case side3 => first | (with_reducible exact HT.out) | exact Tabs.below HT.out (beg (JS74.ge HI473.out) HB.out)); rintro e w44 ⟨v475, rfl, ho0, hi, hb, hk⟩; refine ⟨_, rfl, ?_⟩; have _ := am (Kd.R_mono (Kd.R_keep (JS74.apart (show JS74 w _ g473 t471 t472 from JS74.u HI473.out) (ru HO470.out) (by decide)) hk (fun _ h => h.2)) (fun _ h => h.1)); have _ := am (Kd.R_lower ho0 (below_size (beg (JS74.ge HI473.out) HB.out))); have _ := am (hb); have _ := am (hi); clear HO470 HB HI473; rename_i HO470 HO476 HB HI473; (try clear hb hk hi); (try clear ho0); obtain ⟨Ao45, co45, eo45⟩ := Kd.R_slice HO476.out; subst eo45) | ((with_reducible refine gate_callee (f := 28) rfl ?_); refine goesL_ (some 56) rfl rfl Tryd.func28 (by kernel_rfl) rfl #[.slice none 0 0, .slice A0 l0.length c0] rfl ap1 ?_; (refine (outbox_Put.calls kj11 _ _ ([] : List Int) _ _ l0 t468 _ ?side1 ?side2 ?side3 ?side4 A31.out).mono ?_); (case side1 => exact Kd.C_nil _ _); (case side2 => exact Nat.le_refl _); (case side3 => exact cu (Kd.C_below HR0.out HB.out)); (case side4 => exact HC0.out); rintro e w41 ⟨v469, rfl, ho0, hb⟩; refine ⟨_, rfl, ?_⟩; have _ := am (Kd.R_lower ho0 (below_size (beu HB.out))); have _ := am (below_step (beu HB.out) hb); clear HB; rename_i HO470 HB; (try clear hb); (try clear ho0); obtain ⟨Ao42, co42, eo42⟩ := Kd.R_slice HO470.out; subst eo42))
            (try (rw [drewN_self w44]; generalize hq_ : World.drewN w44 _ = w44; have _ := am (show Kd.R _ _ w44 _ _ _ _ from by rw [← hq_]; exact Kd.R_drewN HO470.out _); have _ := am (show Kd.R _ _ w44 _ _ _ _ from by rw [← hq_]; exact Kd.R_drewN HO476.out _); clear hq_ HO470 HO476; rename_i HO470 HO476))
            have n0_ := am (Kd.R_drew HO470.out); have n1_ := am (Kd.R_drew HO476.out); have n2_ := am (JS74.drew HI473.out); have n3_ := am (below_drew1 HB.out); clear HO470 HO476 HI473 HB; have HO470 := n0_; have HO476 := n1_; have HI473 := n2_; have HB := n3_; clear n0_ n1_ n2_ n3_
            refine start_ (n := 19) (S := fun w' => True) (ds := []) #[false, false, false, false, false, false, false, false, false, false, false, false, false, false, false, false, false, false, false] (by kernel_rfl) rfl rfl trivial (fun hHeld => ?_); refine with_tabW packhorselaw13_OutboxBytes.tab14 packhorselaw13_OutboxBytes.bits14 (fun HT_ HW_ => ?_)
            generalize w44.drew = w46 at HO470 HO476 HI473 HB hHeld ⊢; refine pure_ (i := 0) (N := some 64) (v := ?_) (a' := ?_) (bs 19 1) rfl rfl (ak HT_.out) (fun _ _ _ h => h) (Or.inl ⟨by rfl, ?_⟩) ?_ ?_; rotate_left
            ·intro w'
             go_simp
             with_reducible rfl
            rotate_left
            ·simp only [Act.put, sA, sB, sC, i64_w, i32_w]
             rfl
            refine pure_ (i := 2) (N := some 66) (v := ?_) (a' := ?_) (bs 19 5) rfl rfl (ak HT_.out) (fun _ _ _ h => h) (Or.inl ⟨by rfl, ?_⟩) ?_ ?_; rotate_left
            ·intro w'
             go_simp
             with_reducible rfl
            rotate_left
            ·simp only [Act.put, sA, sB, sC, i64_w, i32_w]
             rfl
            refine join_ (σ := Value) 14 #[true, true, true, true, true, false, false, false, false, false, false, false, false, false, false, false, false, false, false] (fun s_ => [(65, .string (strOfNums t468)), (67, s_), (68, .string (strOfNums t480))]) (fun s_ w' => (Kd.R (Kd.int .u8) 5 w' w.heap.size (fun k_ => some k_ ≠ (s_ : Value).ownBlock) (.slice Ao42 t468.length co42) t468) ∧ (Kd.R k27 27 w' w.heap.size (fun _ => True) (.slice Ao45 t474.length co45) t474) ∧ (Kd.R (Kd.int .u8) 5 w' w.heap.size (fun k_ => some k_ ≠ (.slice Ao42 t468.length co42 : Value).ownBlock) s_ t480) ∧ (JS74 w w' g473 t478 t479) ∧ (Below w.heap.size w w')) ?_ ?_; rotate_left
            ·intro hCont
             refine two_ (i := 1) (j := 3) (Ni := some 65) (Nj := some 67) #[true, true, true, false, false, false, false, false, false, false, false, false, false, false, false, false, false, false, false] #[true, false, true, true, false, false, false, false, false, false, false, false, false, false, false, false, false, false, false] rfl rfl rfl rfl (two_of HT_.out (by kernel_rfl)) (by decide) (by decide) (fun K hK => ?_) (fun K hK => ?_)
             ·skip
              have hcv47 := own_string (P := Tryd.prog) Tryd.underlying49 Tryd.underlying5 Tryd.underlying9 (Kd.own_of_R HO470.out); refine value_ (w1 := ?_) (v := ?_) (by rfl) rfl ?_ ?_; rotate_left 2
              ·go_simp
               constructor
               ·rfl
               ·rfl
              clear hcv47; refine hK.out _ _ trivial (fun hHeld => ?_); clear hK K; refine norm_ (a' := ?_) ?_ ?_; rotate_left
              ·show Act.put _ (some 65) _ = _
               simp only [Act.put, sA, sB, sC, i64_w, i32_w]
               rfl
              refine one_ (i := 3) (N := some 67) (bs 19 15) rfl rfl (one_of HT_.out (by kernel_rfl)) (by decide) (fun K hK => ?_); refine goes_ Tryd.func29 (by kernel_rfl) rfl #[.slice A0 l0.length c0] (by rfl) rfl rfl ap1 ?_; with_reducible refine (packhorseref13_Bytes.calls kj11 _ _ l0 t480 _ ?side1 ?side2 A34.out).mono ?_
              (case side1 => exact cu (Kd.C_below HR0.out HB.out))
              (case side2 => exact HC0.out)
              rintro e w48 ⟨v481, rfl, ho0, hb⟩; refine ⟨_, rfl, ?_⟩; have n0_ := am (Kd.R_elder' (ru HO470.out) (Kd.R_base ho0) hb); have n1_ := am (Kd.R_below (ru HO476.out) hb); have n2_ := am (Kd.R_lower (Kd.R_new' ho0 (Kd.R_lt (ru HO470.out))) (below_size (beg (JS74.ge HI473.out) HB.out))); have n3_ := am (JS74.below (JS74.u HI473.out) hb); have n4_ := am (below_step (beg (JS74.ge HI473.out) HB.out) hb); clear HO470 HO476 HI473 HB; have HO470 := n0_; have HO476 := n1_; have HO482 := n2_; have HI473 := n3_; have HB := n4_; clear n0_ n1_ n2_ n3_ n4_
              (try clear hb)
              (try clear hb2)
              (try clear hk)
              (try clear hi)
              (try clear ho0)
              refine hK.out _ _ trivial (fun hHeld => ?_); clear hK K; refine norm_ (a' := ?_) ?_ ?_; rotate_left
              ·show Act.put _ (some 67) _ = _
               simp only [Act.put, sA, sB, sC, i64_w, i32_w]
               rfl
              refine one_ (i := 4) (N := some 68) (bs 19 31) rfl rfl (one_of HT_.out (by kernel_rfl)) (by decide) (fun K hK => ?_); have hcv49 := own_string (P := Tryd.prog) Tryd.underlying49 Tryd.underlying5 Tryd.underlying9 (Kd.own_of_R HO482.out); refine value_ (w1 := ?_) (v := ?_) (by rfl) rfl ?_ ?_; rotate_left 2
              ·go_simp
               constructor
               ·rfl
               ·rfl
              clear hcv49; refine hK.out _ _ trivial (fun hHeld => ?_); clear hK K; refine norm_ (a' := ?_) ?_ ?_; rotate_left
              ·show Act.put _ (some 68) _ = _
               simp only [Act.put, sA, sB, sC, i64_w, i32_w]
               rfl
              exact norm_ (by simp only [putAll, Act.put, sA, sB, sC]) (hCont (v481) _ ⟨(ru (Kd.R_mono HO470.out (fun _ hk => by first | exact hk.2 | exact trivial))), (ru HO476.out), (ru (Kd.R_mono HO482.out (fun _ hk => by first | exact hk.2 | exact trivial))), (JS74.u HI473.out), (beg (JS74.ge HI473.out) HB.out)⟩)
             ·skip
              refine goes_ Tryd.func29 (by kernel_rfl) rfl #[.slice A0 l0.length c0] (by rfl) rfl rfl ap1 ?_; with_reducible refine (packhorseref13_Bytes.calls kj11 _ _ l0 t480 _ ?side1 ?side2 A34.out).mono ?_
              (case side1 => exact cu (Kd.C_below HR0.out HB.out))
              (case side2 => exact HC0.out)
              rintro e w47 ⟨v481, rfl, ho0, hb⟩; refine ⟨_, rfl, ?_⟩; have n0_ := am (Kd.R_elder' (ru HO470.out) (Kd.R_base ho0) hb); have n1_ := am (Kd.R_below (ru HO476.out) hb); have n2_ := am (Kd.R_lower (Kd.R_new' ho0 (Kd.R_lt (ru HO470.out))) (below_size (beg (JS74.ge HI473.out) HB.out))); have n3_ := am (JS74.below (JS74.u HI473.out) hb); have n4_ := am (below_step (beg (JS74.ge HI473.out) HB.out) hb); clear HO470 HO476 HI473 HB; have HO470 := n0_; have HO476 := n1_; have HO482 := n2_; have HI473 := n3_; have HB := n4_; clear n0_ n1_ n2_ n3_ n4_
              (try clear hb)
              (try clear hb2)
              (try clear hk)
              (try clear hi)
              (try clear ho0)
              refine hK.out _ _ trivial (fun hHeld => ?_); clear hK K; refine norm_ (a' := ?_) ?_ ?_; rotate_left
              ·show Act.put _ (some 67) _ = _
               simp only [Act.put, sA, sB, sC, i64_w, i32_w]
               rfl
              refine two_ (i := 1) (j := 4) (Ni := some 65) (Nj := some 68) #[true, true, true, true, false, false, false, false, false, false, false, false, false, false, false, false, false, false, false] #[true, false, true, true, true, false, false, false, false, false, false, false, false, false, false, false, false, false, false] rfl rfl rfl rfl (two_of HT_.out (by kernel_rfl)) (by decide) (by decide) (fun K hK => ?_) (fun K hK => ?_)
              ·skip
               have hcv48 := own_string (P := Tryd.prog) Tryd.underlying49 Tryd.underlying5 Tryd.underlying9 (Kd.own_of_R HO470.out); refine value_ (w1 := ?_) (v := ?_) (by rfl) rfl ?_ ?_; rotate_left 2
               ·go_simp
                constructor
                ·rfl
                ·rfl
               clear hcv48; refine hK.out _ _ trivial (fun hHeld => ?_); clear hK K; refine norm_ (a' := ?_) ?_ ?_; rotate_left
               ·show Act.put _ (some 65) _ = _
                simp only [Act.put, sA, sB, sC, i64_w, i32_w]
                rfl
               refine one_ (i := 4) (N := some 68) (bs 19 31) rfl rfl (one_of HT_.out (by kernel_rfl)) (by decide) (fun K hK => ?_); have hcv49 := own_string (P := Tryd.prog) Tryd.underlying49 Tryd.underlying5 Tryd.underlying9 (Kd.own_of_R HO482.out); refine value_ (w1 := ?_) (v := ?_) (by rfl) rfl ?_ ?_; rotate_left 2
               ·go_simp
                constructor
                ·rfl
                ·rfl
               clear hcv49; refine hK.out _ _ trivial (fun hHeld => ?_); clear hK K; refine norm_ (a' := ?_) ?_ ?_; rotate_left
               ·show Act.put _ (some 68) _ = _
                simp only [Act.put, sA, sB, sC, i64_w, i32_w]
                rfl
               exact norm_ (by simp only [putAll, Act.put, sA, sB, sC]) (hCont (v481) _ ⟨(ru (Kd.R_mono HO470.out (fun _ hk => by first | exact hk.2 | exact trivial))), (ru HO476.out), (ru (Kd.R_mono HO482.out (fun _ hk => by first | exact hk.2 | exact trivial))), (JS74.u HI473.out), (beg (JS74.ge HI473.out) HB.out)⟩)
              ·skip
               have hcv48 := own_string (P := Tryd.prog) Tryd.underlying49 Tryd.underlying5 Tryd.underlying9 (Kd.own_of_R HO482.out); refine value_ (w1 := ?_) (v := ?_) (by rfl) rfl ?_ ?_; rotate_left 2
               ·go_simp
                constructor
                ·rfl
                ·rfl
               clear hcv48; refine hK.out _ _ trivial (fun hHeld => ?_); clear hK K; refine norm_ (a' := ?_) ?_ ?_; rotate_left
               ·show Act.put _ (some 68) _ = _
                simp only [Act.put, sA, sB, sC, i64_w, i32_w]
                rfl
               refine one_ (i := 1) (N := some 65) (bs 19 31) rfl rfl (one_of HT_.out (by kernel_rfl)) (by decide) (fun K hK => ?_); have hcv49 := own_string (P := Tryd.prog) Tryd.underlying49 Tryd.underlying5 Tryd.underlying9 (Kd.own_of_R HO470.out); refine value_ (w1 := ?_) (v := ?_) (by rfl) rfl ?_ ?_; rotate_left 2
               ·go_simp
                constructor
                ·rfl
                ·rfl
               clear hcv49; refine hK.out _ _ trivial (fun hHeld => ?_); clear hK K; refine norm_ (a' := ?_) ?_ ?_; rotate_left
               ·show Act.put _ (some 65) _ = _
                simp only [Act.put, sA, sB, sC, i64_w, i32_w]
                rfl
               exact norm_ (by simp only [putAll, Act.put, sA, sB, sC]) (hCont (v481) _ ⟨(ru (Kd.R_mono HO470.out (fun _ hk => by first | exact hk.2 | exact trivial))), (ru HO476.out), (ru (Kd.R_mono HO482.out (fun _ hk => by first | exact hk.2 | exact trivial))), (JS74.u HI473.out), (beg (JS74.ge HI473.out) HB.out)⟩)
            rintro v481 w50 ⟨h0_, h1_, h2_, h3_, h4_⟩; have n0_ : Aside0 (Kd.R (Kd.int .u8) 5 w50 w.heap.size (fun k_ => some k_ ≠ (v481 : Value).ownBlock) (.slice Ao42 t468.length co42) t468) := ⟨h0_⟩; have n1_ : Aside0 (Kd.R k27 27 w50 w.heap.size (fun _ => True) (.slice Ao45 t474.length co45) t474) := ⟨h1_⟩; have n2_ : Aside0 (Kd.R (Kd.int .u8) 5 w50 w.heap.size (fun k_ => some k_ ≠ (.slice Ao42 t468.length co42 : Value).ownBlock) v481 t480) := ⟨h2_⟩; have n3_ : Aside0 (JS74 w w50 g473 t478 t479) := ⟨h3_⟩; have n4_ : Aside0 (Below w.heap.size w w50) := ⟨h4_⟩; clear HO470 HO476 HI473 HB h0_ h1_ h2_ h3_ h4_; have HO470 := n0_; have HO476 := n1_; have HO482 := n2_; have HI473 := n3_; have HB := n4_; clear n0_ n1_ n2_ n3_ n4_; have hHeld := trivial; refine norm_ (a' := ?_) ?_ ?_; rotate_left
            ·simp only [putAll, Act.put, sA, sB, sC]
             rfl
            refine pure_ (i := 5) (N := some 69) (v := ?_) (a' := ?_) (bs 19 63) rfl rfl (ak HT_.out) (fun _ _ _ h => h) (Or.inl ⟨by rfl, ?_⟩) ?_ ?_; rotate_left
            ·intro w'
             go_simp
             with_reducible rfl
            rotate_left
            ·simp only [Act.put, sA, sB, sC, i64_w, i32_w]
             rfl
            refine pure_ (i := 6) (N := some 70) (v := ?_) (a' := ?_) (bs 19 127) rfl rfl (ak HT_.out) (fun _ _ _ h => h) (Or.inl ⟨by rfl, ?_⟩) ?_ ?_; rotate_left
            ·intro w'
             go_simp
             with_reducible rfl
            rotate_left
            ·simp only [Act.put, sA, sB, sC, i64_w, i32_w]
             rfl
            refine pure_ (i := 7) (N := some 71) (v := ?_) (a' := ?_) (bs 19 255) rfl rfl (ak HT_.out) (fun _ _ _ h => h) (Or.inl ⟨by rfl, ?_⟩) ?_ ?_; rotate_left
            ·intro w'
             go_simp
             with_reducible rfl
            rotate_left
            ·simp only [Act.put, sA, sB, sC, i64_w, i32_w]
             rfl
            refine pure_ (i := 8) (N := some 72) (v := ?_) (a' := ?_) (bs 19 511) rfl rfl (ak HT_.out) (fun _ _ _ h => h) (Or.inl ⟨by rfl, ?_⟩) ?_ ?_; rotate_left
            ·intro w'
             go_simp
             with_reducible rfl
            rotate_left
            ·simp only [Act.put, sA, sB, sC, i64_w, i32_w]
             rfl
            refine pure_ (i := 9) (N := some 73) (v := ?_) (a' := ?_) (bs 19 1023) rfl rfl (ak HT_.out) (fun _ _ _ h => h) (Or.inl ⟨by rfl, ?_⟩) ?_ ?_; rotate_left
            ·intro w'
             go_simp
             with_reducible rfl
            rotate_left
            ·simp only [Act.put, sA, sB, sC, i64_w, i32_w]
             rfl
            refine pure_ (i := 10) (N := some 74) (v := ?_) (a' := ?_) (bs 19 2047) rfl rfl (ak HT_.out) (fun _ _ _ h => h) (Or.inl ⟨by rfl, ?_⟩) ?_ ?_; rotate_left
            ·intro w'
             go_simp
             with_reducible rfl
            rotate_left
            ·simp only [Act.put, sA, sB, sC, i64_w, i32_w]
             rfl
            refine one_ (i := 11) (N := some 75) (bs 19 4095) rfl rfl (one_of HT_.out (by kernel_rfl)) (by decide) (fun K hK => ?_); refine goes_ Tryd.func30 (by kernel_rfl) rfl #[.pointer (some ⟨g473, 0, none⟩)] (by rfl) rfl rfl ap1 ?_; with_reducible refine (packet_Reader_Done.callsJ g473 t478 t479 true t484 t485 w _ ?side1 ?side2 A37.out).mono ?_
            (case side1 => exact JS74.u HI473.out)
            (case side2 => exact beg (JS74.ge HI473.out) HB.out)
            rintro e w51 ⟨rfl, hi, hb, hk⟩; refine ⟨_, rfl, ?_⟩; have n0_ := am (Kd.R_mono (Kd.R_keep (JS74.apart (show JS74 w _ g473 t478 t479 from JS74.u HI473.out) (ru HO470.out) (by decide)) hk (fun _ h => h.2)) (fun _ h => h.1)); have n1_ := am (Kd.R_mono (Kd.R_keep (JS74.apart (show JS74 w _ g473 t478 t479 from JS74.u HI473.out) (ru HO476.out) (by decide)) hk (fun _ h => h.2)) (fun _ h => h.1)); have n2_ := am (Kd.R_mono (Kd.R_keep (JS74.apart (show JS74 w _ g473 t478 t479 from JS74.u HI473.out) (ru HO482.out) (by decide)) hk (fun _ h => h.2)) (fun _ h => h.1)); have n3_ := am (hb); have n4_ := am (hi); clear HO470 HO476 HO482 HB HI473; have HO470 := n0_; have HO476 := n1_; have HO482 := n2_; have HB := n3_; have HI473 := n4_; clear n0_ n1_ n2_ n3_ n4_
            (try clear hb)
            (try clear hb2)
            (try clear hk)
            (try clear hi)
            refine hK.out _ _ trivial (fun hHeld => ?_); clear hK K; refine norm_ (a' := ?_) ?_ ?_; rotate_left
            ·show Act.put _ (some 75) _ = _
             simp only [Act.put, sA, sB, sC, i64_w, i32_w]
             rfl
            refine pure_ (i := 12) (N := some 76) (v := ?_) (a' := ?_) (bs 19 8191) rfl rfl (ak HT_.out) (fun _ _ _ h => h) (Or.inl ⟨by rfl, ?_⟩) ?_ ?_; rotate_left
            ·intro w'
             go_simp
             with_reducible rfl
            rotate_left
            ·simp only [Act.put, sA, sB, sC, i64_w, i32_w]
             rfl
            refine pure_ (i := 13) (N := some 77) (v := ?_) (a' := ?_) (bs 19 16383) rfl rfl (ak HT_.out) (fun _ _ _ h => h) (Or.inl ⟨by rfl, ?_⟩) ?_ ?_; rotate_left
            ·intro w'
             go_simp
             with_reducible rfl
            rotate_left
            ·simp only [Act.put, sA, sB, sC, i64_w, i32_w]
             rfl
            refine pure_ (i := 14) (N := some 78) (v := ?_) (a' := ?_) (bs 19 32767) rfl rfl (ak HT_.out) (fun _ _ _ h => h) (Or.inl ⟨by rfl, ?_⟩) ?_ ?_; rotate_left
            ·intro w'
             go_simp
             with_reducible rfl
            rotate_left
            ·simp only [Act.put, sA, sB, sC, i64_w, i32_w]
             rfl
            refine pure_ (i := 15) (N := some 79) (v := ?_) (a' := ?_) (bs 19 65535) rfl rfl (ak HT_.out) (fun _ _ _ h => h) (Or.inl ⟨by rfl, ?_⟩) ?_ ?_; rotate_left
            ·intro w'
             go_simp
             with_reducible rfl
            rotate_left
            ·simp only [Act.put, sA, sB, sC, i64_w, i32_w]
             rfl
            refine one_ (i := 16) (N := some 80) (bs 19 131071) rfl rfl (one_of HT_.out (by kernel_rfl)) (by decide) (fun K hK => ?_); refine goes_ Tryd.func17 (by kernel_rfl) rfl #[.slice Ao45 t474.length co45, .slice A0 l0.length c0] (by rfl) rfl rfl ap1 ?_; with_reducible refine (packhorseref13_Same.calls kj11 _ _ t474 _ _ l0 t486 _ ?side1 ?side2 ?side3 ?side4 A39.out).mono ?_
            (case side1 => exact cu (Kd.R_reads' HO476.out).2.2)
            (case side2 => exact (Kd.R_reads' HO476.out).2.1)
            (case side3 => exact cu (Kd.C_below HR0.out HB.out))
            (case side4 => exact HC0.out)
            rintro e w' ⟨rfl, ⟨nd, rfl⟩⟩; refine ⟨_, rfl, ?_⟩; refine hK.out _ _ trivial (fun hHeld => ?_); clear hK K; refine norm_ (a' := ?_) ?_ ?_; rotate_left
            ·show Act.put _ (some 80) _ = _
             simp only [Act.put, sA, sB, sC, i64_w, i32_w]
             rfl
            refine pure_ (i := 17) (N := some 81) (v := ?_) (a' := ?_) (bs 19 262143) rfl rfl (ak HT_.out) (fun _ _ _ h => h) (Or.inl ⟨by rfl, ?_⟩) ?_ ?_; rotate_left
            ·intro w'
             go_simp
             with_reducible rfl
            rotate_left
            ·simp only [Act.put, sA, sB, sC, i64_w, i32_w]
             rfl
            refine pure_ (i := 18) (N := some 4) (v := ?_) (a' := ?_) (bs 19 524287) rfl rfl (ak HT_.out) (fun _ _ _ h => h) (Or.inl ⟨by rfl, ?_⟩) ?_ ?_; rotate_left
            ·intro w'
             go_simp
             with_reducible rfl
            rotate_left
            ·simp only [Act.put, sA, sB, sC, i64_w, i32_w]
             rfl
            refine done_ (done_of HT_.out (by kernel_rfl)) ?_
            try go_wp2
            go_ret
            exact ⟨ap4, beg (JS74.ge HI473.out) HB.out⟩
           ·replace c38 := Bool.eq_false_iff.mpr c38
            subst c38
            have H1 : (some false) = some r := by rw [if_neg (show ¬ (false = true) by decide)] at H; exact H
            clear H; have H := H1; clear H1; obtain rfl := Option.some.inj H; exact absurd HRT.out (by decide)
          ·replace c36 := Bool.eq_false_iff.mpr c36
           subst c36
           have H1 : (some false) = some r := by rw [if_neg (show ¬ (false = true) by decide)] at H; exact H
           clear H; have H := H1; clear H1; obtain rfl := Option.some.inj H; exact absurd HRT.out (by decide)
         ·rw [if_neg c35] at H
          have c35b0 : ((strOfNums t468).toList == (strOfNums t480).toList) = false := beq_eq_false_iff_ne.mpr c35; have c35b1 : ((strOfNums t468).toList != (strOfNums t480).toList) = true := bne_iff_ne.mpr c35; obtain rfl := Option.some.inj H; exact absurd HRT.out (by decide)
        ·replace c30 := Bool.eq_false_iff.mpr c30
         subst c30
         have H1 : (some true) = some r := by rw [if_neg (show ¬ (false = true) by decide)] at H; exact H
         clear H; have H := H1; clear H1; obtain rfl := Option.some.inj H; simp only [Option.some.injEq, Prod.mk.injEq] at H; obtain ⟨rfl⟩ := H
         go_wp2_with (first | ((with_reducible refine gate_callee (f := 27) rfl ?_); refine goesL_ (some 53) rfl rfl Tryd.func27 (by kernel_rfl) rfl #[.slice A0 l0.length c0] rfl ap1 ?_; (with_reducible refine (packhorseref13_Right.calls kj11 _ _ l0 false _ ?side1 ?side2 A29.out).mono ?_); (case side1 => exact cu (Kd.C_below HR0.out HB.out)); (case side2 => exact HC0.out); rintro e w52 ⟨rfl, hb⟩; refine ⟨_, rfl, ?_⟩; have _ := am (below_step (beu HB.out) hb); clear HB; rename_i HB; (try clear hb)))
         go_ret
         exact ⟨ap4, beu HB.out⟩
 ·replace c4 := Bool.eq_false_iff.mpr c4
  subst c4
  have H1 : (some false) = some r := by rw [if_neg (show ¬ (false = true) by decide)] at H; exact H
  clear H; have H := H1; clear H1; obtain rfl := Option.some.inj H; exact absurd HRT.out (by decide)
end Go.Proofs.YtnacmehhmheooaaDoor.PAll
