
import Derived.Test.YtapfpdjcbeiibaaDoorQBatchBackPAllx0
import Derived.Test.YtapfpdjcbeiibaaDoorQBatchBackPAllx1
import Derived.Test.YtapfpdjcbeiibaaDoorQBatchBackPAllx2
namespace Go.Proofs.YtapfpdjcbeiibaaDoor.PAll
open Go.RowKit Go.Proofs.YtapfpdjcbeiibaaDoorW.PrintWords Go.Proofs.YtapfpdjcbeiibaaDoorW.PrintLast Go.Proofs.YtapfpdjcbeiibaaDoorW.PrintMore
attribute [local go_sem] max2_int max_two
set_option linter.unusedVariables false
set_option linter.unusedSimpArgs false
attribute [local go_sem high] eqA28
mutual
def batch_Right.j0 : Nat → Bool → Int → Int → Int → Int → Int → ByteArray → ByteArray → ByteArray → List ByteArray → Option (Bool)
 | 0, _, _, _, _, _, _, _, _, _, _ => none
 | k + 1, x37, X0, X1, X2, X3, X4, X5, X6, X7, X8 => if x37 = true then (some false) else (if X3 < 1 then (batch_Right.j1 k true X0 X1 X2 X3 X4 X5 X6 X7 X8) else (if X3 > 2 then (batch_Right.j1 k true X0 X1 X2 X3 X4 X5 X6 X7 X8) else (if X4 < 1 then (batch_Right.j1 k true X0 X1 X2 X3 X4 X5 X6 X7 X8) else (batch_Right.j1 k (decide (X4 > 3)) X0 X1 X2 X3 X4 X5 X6 X7 X8))))
def batch_Right.j1 : Nat → Bool → Int → Int → Int → Int → Int → ByteArray → ByteArray → ByteArray → List ByteArray → Option (Bool)
 | 0, _, _, _, _, _, _, _, _, _, _ => none
 | k + 1, x55, X0, X1, X2, X3, X4, X5, X6, X7, X8 => if x55 = true then (some false) else (batch_Right.l0 k X8 (X8.length : Int) 0 X0 X1 X2 X3 X4 X5 X6 X7 X8)
def batch_Right.l0 : Nat → List ByteArray → Int → Int → Int → Int → Int → Int → Int → ByteArray → ByteArray → ByteArray → List ByteArray → Option (Bool)
 | 0, _, _, _, _, _, _, _, _, _, _, _, _ => none
 | k + 1, x57, x58, x59, X0, X1, X2, X3, X4, X5, X6, X7, X8 => if x59 < x58 then (if 0 ≤ x59 then (if x59 < (x57.length : Int) then ((label_Right.f (rdOf ByteArray.empty x57 x59)).bind fun t203 => (if t203 = true then (if x59 ≤ (X8.length : Int) then ((slices_Contains_string_string.f k (X8.take (x59 : Int).toNat) (rdOf ByteArray.empty x57 x59)).bind fun t205 => (if t205 = true then (some false) else (batch_Right.l0 k x57 x58 (wrap64 (x59 + 1)) X0 X1 X2 X3 X4 X5 X6 X7 X8))) else (none)) else (some false))) else (none)) else (none)) else (some true)
end
def batch_Right.f (k : Nat) (a0_0 : Int) (a0_1 : Int) (a0_2 : Int) (a0_3 : Int) (a0_4 : Int) (a0_5 : ByteArray) (a0_6 : ByteArray) (a0_7 : ByteArray) (l0_8 : List ByteArray) : Option (Bool) := if a0_0 < 1 then (batch_Right.j0 k true a0_0 a0_1 a0_2 a0_3 a0_4 a0_5 a0_6 a0_7 l0_8) else ((tally_Right.f a0_0).bind fun t198 => (if t198 = true then ((tally_Right.f a0_1).bind fun t199 => (if t199 = true then ((day_Right.f a0_2).bind fun t200 => (if t200 = true then (if (l0_8.length : Int) > 64 then (batch_Right.j0 k true a0_0 a0_1 a0_2 a0_3 a0_4 a0_5 a0_6 a0_7 l0_8) else ((batch_group.f a0_5 a0_6 a0_7).bind fun t201 => (batch_Right.j0 k (!t201) a0_0 a0_1 a0_2 a0_3 a0_4 a0_5 a0_6 a0_7 l0_8))) else (batch_Right.j0 k true a0_0 a0_1 a0_2 a0_3 a0_4 a0_5 a0_6 a0_7 l0_8))) else (batch_Right.j0 k true a0_0 a0_1 a0_2 a0_3 a0_4 a0_5 a0_6 a0_7 l0_8))) else (batch_Right.j0 k true a0_0 a0_1 a0_2 a0_3 a0_4 a0_5 a0_6 a0_7 l0_8)))
theorem batch_Right.mono_l : ∀ k, (∀ y0 y1 y2 y3 y4 y5 y6 y7 y8 y9, LeO (batch_Right.j0 k y0 y1 y2 y3 y4 y5 y6 y7 y8 y9) (batch_Right.j0 (k + 1) y0 y1 y2 y3 y4 y5 y6 y7 y8 y9)) ∧ (∀ y0 y1 y2 y3 y4 y5 y6 y7 y8 y9, LeO (batch_Right.j1 k y0 y1 y2 y3 y4 y5 y6 y7 y8 y9) (batch_Right.j1 (k + 1) y0 y1 y2 y3 y4 y5 y6 y7 y8 y9)) ∧ (∀ y0 y1 y2 y3 y4 y5 y6 y7 y8 y9 y10 y11, LeO (batch_Right.l0 k y0 y1 y2 y3 y4 y5 y6 y7 y8 y9 y10 y11) (batch_Right.l0 (k + 1) y0 y1 y2 y3 y4 y5 y6 y7 y8 y9 y10 y11))
 | 0 => ⟨fun _ _ _ _ _ _ _ _ _ _ r h => by simp [batch_Right.j0] at h, fun _ _ _ _ _ _ _ _ _ _ r h => by simp [batch_Right.j1] at h, fun _ _ _ _ _ _ _ _ _ _ _ _ r h => by simp [batch_Right.l0] at h⟩
 | k + 1 => by
  obtain ⟨ih0, ih1, ih2⟩ := batch_Right.mono_l k; refine ⟨?_, ?_, ?_⟩
  ·intro y0 y1 y2 y3 y4 y5 y6 y7 y8 y9
   unfold batch_Right.j0
   repeat' first
   | (with_reducible exact ih0 _ _ _ _ _ _ _ _ _ _)
   | (with_reducible exact ih1 _ _ _ _ _ _ _ _ _ _)
   | (with_reducible exact ih2 _ _ _ _ _ _ _ _ _ _ _ _)
   | (with_reducible exact slices_Contains_string_string.mono _ _ _)
   | (with_reducible exact LeO.refl _)
   | (with_reducible exact LeO.none _)
   | (with_reducible refine LeO.ite ?_ ?_)
   | (with_reducible refine LeO.bind ?_ (fun _ => ?_))
   | exact ih0 _ _ _ _ _ _ _ _ _ _
   | exact ih1 _ _ _ _ _ _ _ _ _ _
   | exact ih2 _ _ _ _ _ _ _ _ _ _ _ _
   | exact slices_Contains_string_string.mono _ _ _
   | exact LeO.none _
   | refine LeO.ite ?_ ?_
   | refine LeO.bind ?_ (fun _ => ?_)
  ·intro y0 y1 y2 y3 y4 y5 y6 y7 y8 y9
   unfold batch_Right.j1
   repeat' first
   | (with_reducible exact ih0 _ _ _ _ _ _ _ _ _ _)
   | (with_reducible exact ih1 _ _ _ _ _ _ _ _ _ _)
   | (with_reducible exact ih2 _ _ _ _ _ _ _ _ _ _ _ _)
   | (with_reducible exact slices_Contains_string_string.mono _ _ _)
   | (with_reducible exact LeO.refl _)
   | (with_reducible exact LeO.none _)
   | (with_reducible refine LeO.ite ?_ ?_)
   | (with_reducible refine LeO.bind ?_ (fun _ => ?_))
   | exact ih0 _ _ _ _ _ _ _ _ _ _
   | exact ih1 _ _ _ _ _ _ _ _ _ _
   | exact ih2 _ _ _ _ _ _ _ _ _ _ _ _
   | exact slices_Contains_string_string.mono _ _ _
   | exact LeO.none _
   | refine LeO.ite ?_ ?_
   | refine LeO.bind ?_ (fun _ => ?_)
  ·intro y0 y1 y2 y3 y4 y5 y6 y7 y8 y9 y10 y11
   unfold batch_Right.l0
   repeat' first
   | (with_reducible exact ih0 _ _ _ _ _ _ _ _ _ _)
   | (with_reducible exact ih1 _ _ _ _ _ _ _ _ _ _)
   | (with_reducible exact ih2 _ _ _ _ _ _ _ _ _ _ _ _)
   | (with_reducible exact slices_Contains_string_string.mono _ _ _)
   | (with_reducible exact LeO.refl _)
   | (with_reducible exact LeO.none _)
   | (with_reducible refine LeO.ite ?_ ?_)
   | (with_reducible refine LeO.bind ?_ (fun _ => ?_))
   | exact ih0 _ _ _ _ _ _ _ _ _ _
   | exact ih1 _ _ _ _ _ _ _ _ _ _
   | exact ih2 _ _ _ _ _ _ _ _ _ _ _ _
   | exact slices_Contains_string_string.mono _ _ _
   | exact LeO.none _
   | refine LeO.ite ?_ ?_
   | refine LeO.bind ?_ (fun _ => ?_)
set_option maxHeartbeats 8000000 in
set_option maxRecDepth 100000 in
theorem batch_Right.calls (k : Nat) (a0_0 : Int) (a0_1 : Int) (a0_2 : Int) (a0_3 : Int) (a0_4 : Int) (a0_5 : ByteArray) (a0_6 : ByteArray) (a0_7 : ByteArray) (A0_8 : Option Addr) (c0_8 : Nat) (l0_8 : List ByteArray) (r : Bool) (w : World) (hr0_8 : Kd.C Kd.string w A0_8 l0_8.length l0_8) (hc0_8 : l0_8.length ≤ c0_8) (hT : Tabs w) (h : batch_Right.f k a0_0 a0_1 a0_2 a0_3 a0_4 a0_5 a0_6 a0_7 l0_8 = some r) :
  Calls Tryd.prog 14 #[.agg #[.int .i64 a0_0, .int .i64 a0_1, .int .i64 a0_2, .int .i64 a0_3, .int .i64 a0_4, .string a0_5, .string a0_6, .string a0_7, .slice A0_8 l0_8.length c0_8]] w fun e w' => e = .returned (.bool r) ∧ Below w.heap.size w w' := by
 have hu31 := Tryd.underlying31; have hu28 := Tryd.underlying28; have HR0_8 := am hr0_8; have HC0_8 := am hc0_8; clear hr0_8 hc0_8; have HT := am hT; clear hT; have HB := am (Below.refl w.heap.size w); have H : (if a0_0 < 1 then (batch_Right.j0 k true a0_0 a0_1 a0_2 a0_3 a0_4 a0_5 a0_6 a0_7 l0_8) else ((tally_Right.f a0_0).bind fun t198 => (if t198 = true then ((tally_Right.f a0_1).bind fun t199 => (if t199 = true then ((day_Right.f a0_2).bind fun t200 => (if t200 = true then (if (l0_8.length : Int) > 64 then (batch_Right.j0 k true a0_0 a0_1 a0_2 a0_3 a0_4 a0_5 a0_6 a0_7 l0_8) else ((batch_group.f a0_5 a0_6 a0_7).bind fun t201 => (batch_Right.j0 k (!t201) a0_0 a0_1 a0_2 a0_3 a0_4 a0_5 a0_6 a0_7 l0_8))) else (batch_Right.j0 k true a0_0 a0_1 a0_2 a0_3 a0_4 a0_5 a0_6 a0_7 l0_8))) else (batch_Right.j0 k true a0_0 a0_1 a0_2 a0_3 a0_4 a0_5 a0_6 a0_7 l0_8))) else (batch_Right.j0 k true a0_0 a0_1 a0_2 a0_3 a0_4 a0_5 a0_6 a0_7 l0_8)))) = some r := h; clear h; have HC2 := am H; clear H
 go_enter Tryd.func14, Tryd.ntmps14
 go_upto_region 1 with (first | ((with_reducible refine gate_dst (N := 1) rfl ?_); (try (refine gate_guard (by rfl) ?_; dsimp only)); refine box_event ?hg (N := 1) ?hd (cs := #[.int .i64 a0_0, .int .i64 a0_1, .int .i64 a0_2, .int .i64 a0_3, .int .i64 a0_4, .string a0_5, .string a0_6, .string a0_7, .slice A0_8 l0_8.length c0_8]) (t := 31) ?hr ?_; (case hd => rfl); (case hg => rfl); (case hr => first | (go_simp; done) | (go_simp; rfl)); intro gb197 hg w3 hbox hb; have _ := am (below_step (beu HB.out) hb); have _ := am (hbox); have _ := am ((by rw [hg]; exact (below_size (beu HB.out)) : w.heap.size ≤ gb197)); have _ := am ((by rw [hg]; exact (below_size (beu HB.out)) : w.heap.size ≤ gb197)); clear HB; rename_i HB BK197 GW197 GE197; clear hb hbox hg))
 (try simp only [Act.put, sA, sB, sC])
 go_cut [37] (fun v37 wc => ∃ (kq : Nat) (x37_1 : Bool), v37 = .bool x37_1 ∧ Aside0 (batch_Right.j0 kq x37_1 a0_0 a0_1 a0_2 a0_3 a0_4 a0_5 a0_6 a0_7 l0_8 = some r) ∧ Aside0 (kq ≤ k) ∧ Aside0 (wc.heap[gb197]? = some (.cells #[.int .i64 a0_0, .int .i64 a0_1, .int .i64 a0_2, .int .i64 a0_3, .int .i64 a0_4, .string a0_5, .string a0_6, .string a0_7, (.slice A0_8 l0_8.length c0_8)] 31 (0, 0))) ∧ Aside0 (Below w.heap.size w wc))
 case first =>
  have H := HC2.out; clear HC2
  by_cases c4 : a0_0 < 1
  ·rw [if_pos c4] at H
   have c4b0 : decide (a0_0 < 1) = true := decide_eq_true c4; clear c4
   (first | rw [c4b0] | (simp only [i64_w, i32_w]; rw [c4b0]) | skip)
   have H' := am H; clear H; obtain ⟨hcz5_0, hcz5_1, hcz5_2, hcz5_3, hcz5_4, hcz5_5, hcz5_6, hcz5_7, hcz5_8⟩ := cells9 BK197.out; obtain ⟨hfz5_0, hfz5_1, hfz5_2, hfz5_3, hfz5_4, hfz5_5, hfz5_6, hfz5_7, hfz5_8⟩ := frozens9 BK197.out
   go_wp2
   go_meet
   case rel => exact ⟨_, (true), ap3, H', ⟨by first | omega | exact Nat.le_refl _⟩, ⟨by refine bu ?_; exact BK197.out⟩, ⟨beu HB.out⟩⟩
  ·rw [if_neg c4] at H
   have c4b0 : decide (a0_0 < 1) = false := decide_eq_false c4; clear c4
   (first | rw [c4b0] | (simp only [i64_w, i32_w]; rw [c4b0]) | skip)
   replace H := obm H; obtain ⟨t198, A60, H⟩ := H; replace H : (if t198 = true then ((tally_Right.f a0_1).bind fun t199 => (if t199 = true then ((day_Right.f a0_2).bind fun t200 => (if t200 = true then (if (l0_8.length : Int) > 64 then (batch_Right.j0 k true a0_0 a0_1 a0_2 a0_3 a0_4 a0_5 a0_6 a0_7 l0_8) else ((batch_group.f a0_5 a0_6 a0_7).bind fun t201 => (batch_Right.j0 k (!t201) a0_0 a0_1 a0_2 a0_3 a0_4 a0_5 a0_6 a0_7 l0_8))) else (batch_Right.j0 k true a0_0 a0_1 a0_2 a0_3 a0_4 a0_5 a0_6 a0_7 l0_8))) else (batch_Right.j0 k true a0_0 a0_1 a0_2 a0_3 a0_4 a0_5 a0_6 a0_7 l0_8))) else (batch_Right.j0 k true a0_0 a0_1 a0_2 a0_3 a0_4 a0_5 a0_6 a0_7 l0_8)) = some r := H; have A6 := am A60; clear A60
   by_cases c7 : t198 = true
   ·subst c7
    have H1 : ((tally_Right.f a0_1).bind fun t199 => (if t199 = true then ((day_Right.f a0_2).bind fun t200 => (if t200 = true then (if (l0_8.length : Int) > 64 then (batch_Right.j0 k true a0_0 a0_1 a0_2 a0_3 a0_4 a0_5 a0_6 a0_7 l0_8) else ((batch_group.f a0_5 a0_6 a0_7).bind fun t201 => (batch_Right.j0 k (!t201) a0_0 a0_1 a0_2 a0_3 a0_4 a0_5 a0_6 a0_7 l0_8))) else (batch_Right.j0 k true a0_0 a0_1 a0_2 a0_3 a0_4 a0_5 a0_6 a0_7 l0_8))) else (batch_Right.j0 k true a0_0 a0_1 a0_2 a0_3 a0_4 a0_5 a0_6 a0_7 l0_8))) = some r := by rw [if_pos rfl] at H; exact H
    clear H; have H := H1; clear H1; replace H := obm H; obtain ⟨t199, A80, H⟩ := H; replace H : (if t199 = true then ((day_Right.f a0_2).bind fun t200 => (if t200 = true then (if (l0_8.length : Int) > 64 then (batch_Right.j0 k true a0_0 a0_1 a0_2 a0_3 a0_4 a0_5 a0_6 a0_7 l0_8) else ((batch_group.f a0_5 a0_6 a0_7).bind fun t201 => (batch_Right.j0 k (!t201) a0_0 a0_1 a0_2 a0_3 a0_4 a0_5 a0_6 a0_7 l0_8))) else (batch_Right.j0 k true a0_0 a0_1 a0_2 a0_3 a0_4 a0_5 a0_6 a0_7 l0_8))) else (batch_Right.j0 k true a0_0 a0_1 a0_2 a0_3 a0_4 a0_5 a0_6 a0_7 l0_8)) = some r := H; have A8 := am A80; clear A80
    by_cases c9 : t199 = true
    ·subst c9
     have H1 : ((day_Right.f a0_2).bind fun t200 => (if t200 = true then (if (l0_8.length : Int) > 64 then (batch_Right.j0 k true a0_0 a0_1 a0_2 a0_3 a0_4 a0_5 a0_6 a0_7 l0_8) else ((batch_group.f a0_5 a0_6 a0_7).bind fun t201 => (batch_Right.j0 k (!t201) a0_0 a0_1 a0_2 a0_3 a0_4 a0_5 a0_6 a0_7 l0_8))) else (batch_Right.j0 k true a0_0 a0_1 a0_2 a0_3 a0_4 a0_5 a0_6 a0_7 l0_8))) = some r := by rw [if_pos rfl] at H; exact H
     clear H; have H := H1; clear H1; replace H := obm H; obtain ⟨t200, A100, H⟩ := H; replace H : (if t200 = true then (if (l0_8.length : Int) > 64 then (batch_Right.j0 k true a0_0 a0_1 a0_2 a0_3 a0_4 a0_5 a0_6 a0_7 l0_8) else ((batch_group.f a0_5 a0_6 a0_7).bind fun t201 => (batch_Right.j0 k (!t201) a0_0 a0_1 a0_2 a0_3 a0_4 a0_5 a0_6 a0_7 l0_8))) else (batch_Right.j0 k true a0_0 a0_1 a0_2 a0_3 a0_4 a0_5 a0_6 a0_7 l0_8)) = some r := H; have A10 := am A100; clear A100
     by_cases c11 : t200 = true
     ·subst c11
      have H1 : (if (l0_8.length : Int) > 64 then (batch_Right.j0 k true a0_0 a0_1 a0_2 a0_3 a0_4 a0_5 a0_6 a0_7 l0_8) else ((batch_group.f a0_5 a0_6 a0_7).bind fun t201 => (batch_Right.j0 k (!t201) a0_0 a0_1 a0_2 a0_3 a0_4 a0_5 a0_6 a0_7 l0_8))) = some r := by rw [if_pos rfl] at H; exact H
      clear H; have H := H1; clear H1
      by_cases c12 : (l0_8.length : Int) > 64
      ·rw [if_pos c12] at H
       have c12b0 : decide (64 < (l0_8.length : Int)) = true := decide_eq_true c12; have c12b1 : decide (64 < l0_8.length) = true := decide_eq_true (by omega); clear c12; have H' := am H; clear H; obtain ⟨hcz13_0, hcz13_1, hcz13_2, hcz13_3, hcz13_4, hcz13_5, hcz13_6, hcz13_7, hcz13_8⟩ := cells9 BK197.out; obtain ⟨hfz13_0, hfz13_1, hfz13_2, hfz13_3, hfz13_4, hfz13_5, hfz13_6, hfz13_7, hfz13_8⟩ := frozens9 BK197.out
       go_wp2_with (first | (go_at_call 31; (with_reducible refine (tally_Right.calls a0_0 true _ A6.out).mono ?_); rintro e w' ⟨rfl, ⟨nd, rfl⟩⟩) | (go_at_call 31; (with_reducible refine (tally_Right.calls a0_1 true _ A8.out).mono ?_); rintro e w' ⟨rfl, ⟨nd, rfl⟩⟩) | (go_at_call 35; (with_reducible refine (day_Right.calls a0_2 true _ A10.out).mono ?_); rintro e w' ⟨rfl, ⟨nd, rfl⟩⟩))
       go_meet
       case rel => exact ⟨_, (true), ap3, H', ⟨by first | omega | exact Nat.le_refl _⟩, ⟨by refine bu ?_; exact BK197.out⟩, ⟨beu HB.out⟩⟩
      ·rw [if_neg c12] at H
       have c12b0 : decide (64 < (l0_8.length : Int)) = false := decide_eq_false c12; have c12b1 : decide (64 < l0_8.length) = false := decide_eq_false (by omega); clear c12; replace H := obm H; obtain ⟨t201, A140, H⟩ := H; replace H : (batch_Right.j0 k (!t201) a0_0 a0_1 a0_2 a0_3 a0_4 a0_5 a0_6 a0_7 l0_8) = some r := H; have A14 := am A140; clear A140; have H' := am H; clear H; obtain ⟨hcz15_0, hcz15_1, hcz15_2, hcz15_3, hcz15_4, hcz15_5, hcz15_6, hcz15_7, hcz15_8⟩ := cells9 BK197.out; obtain ⟨hfz15_0, hfz15_1, hfz15_2, hfz15_3, hfz15_4, hfz15_5, hfz15_6, hfz15_7, hfz15_8⟩ := frozens9 BK197.out
       go_wp2_with (first | (go_at_call 31; (with_reducible refine (tally_Right.calls a0_0 true _ A6.out).mono ?_); rintro e w' ⟨rfl, ⟨nd, rfl⟩⟩) | (go_at_call 31; (with_reducible refine (tally_Right.calls a0_1 true _ A8.out).mono ?_); rintro e w' ⟨rfl, ⟨nd, rfl⟩⟩) | (go_at_call 35; (with_reducible refine (day_Right.calls a0_2 true _ A10.out).mono ?_); rintro e w' ⟨rfl, ⟨nd, rfl⟩⟩) | (go_at_call 36; (with_reducible refine (batch_group.calls a0_5 a0_6 a0_7 t201 _ ?side1 A14.out).mono ?_); (case side1 => first | (with_reducible exact HT.out) | exact Tabs.below HT.out (beu HB.out)); rintro e w16 ⟨rfl, hb⟩; have _ := am (blk_below (bu BK197.out) hb); have _ := am (below_step (beu HB.out) hb); clear BK197 HB; rename_i BK197 HB; (try clear hb)))
       go_meet
       case rel => exact ⟨_, (!t201), ap3, H', ⟨by first | omega | exact Nat.le_refl _⟩, ⟨by refine bu ?_; exact BK197.out⟩, ⟨beu HB.out⟩⟩
     ·replace c11 := Bool.eq_false_iff.mpr c11
      subst c11
      have H1 : (batch_Right.j0 k true a0_0 a0_1 a0_2 a0_3 a0_4 a0_5 a0_6 a0_7 l0_8) = some r := by rw [if_neg (show ¬ (false = true) by decide)] at H; exact H
      clear H; have H := H1; clear H1; have H' := am H; clear H; obtain ⟨hcz17_0, hcz17_1, hcz17_2, hcz17_3, hcz17_4, hcz17_5, hcz17_6, hcz17_7, hcz17_8⟩ := cells9 BK197.out; obtain ⟨hfz17_0, hfz17_1, hfz17_2, hfz17_3, hfz17_4, hfz17_5, hfz17_6, hfz17_7, hfz17_8⟩ := frozens9 BK197.out
      go_wp2_with (first | (go_at_call 31; (with_reducible refine (tally_Right.calls a0_0 true _ A6.out).mono ?_); rintro e w' ⟨rfl, ⟨nd, rfl⟩⟩) | (go_at_call 31; (with_reducible refine (tally_Right.calls a0_1 true _ A8.out).mono ?_); rintro e w' ⟨rfl, ⟨nd, rfl⟩⟩) | (go_at_call 35; (with_reducible refine (day_Right.calls a0_2 false _ A10.out).mono ?_); rintro e w' ⟨rfl, ⟨nd, rfl⟩⟩))
      go_meet
      case rel => exact ⟨_, (true), ap3, H', ⟨by first | omega | exact Nat.le_refl _⟩, ⟨by refine bu ?_; exact BK197.out⟩, ⟨beu HB.out⟩⟩
    ·replace c9 := Bool.eq_false_iff.mpr c9
     subst c9
     have H1 : (batch_Right.j0 k true a0_0 a0_1 a0_2 a0_3 a0_4 a0_5 a0_6 a0_7 l0_8) = some r := by rw [if_neg (show ¬ (false = true) by decide)] at H; exact H
     clear H; have H := H1; clear H1; have H' := am H; clear H; obtain ⟨hcz18_0, hcz18_1, hcz18_2, hcz18_3, hcz18_4, hcz18_5, hcz18_6, hcz18_7, hcz18_8⟩ := cells9 BK197.out; obtain ⟨hfz18_0, hfz18_1, hfz18_2, hfz18_3, hfz18_4, hfz18_5, hfz18_6, hfz18_7, hfz18_8⟩ := frozens9 BK197.out
     go_wp2_with (first | (go_at_call 31; (with_reducible refine (tally_Right.calls a0_0 true _ A6.out).mono ?_); rintro e w' ⟨rfl, ⟨nd, rfl⟩⟩) | (go_at_call 31; (with_reducible refine (tally_Right.calls a0_1 false _ A8.out).mono ?_); rintro e w' ⟨rfl, ⟨nd, rfl⟩⟩))
     go_meet
     case rel => exact ⟨_, (true), ap3, H', ⟨by first | omega | exact Nat.le_refl _⟩, ⟨by refine bu ?_; exact BK197.out⟩, ⟨beu HB.out⟩⟩
   ·replace c7 := Bool.eq_false_iff.mpr c7
    subst c7
    have H1 : (batch_Right.j0 k true a0_0 a0_1 a0_2 a0_3 a0_4 a0_5 a0_6 a0_7 l0_8) = some r := by rw [if_neg (show ¬ (false = true) by decide)] at H; exact H
    clear H; have H := H1; clear H1; have H' := am H; clear H; obtain ⟨hcz19_0, hcz19_1, hcz19_2, hcz19_3, hcz19_4, hcz19_5, hcz19_6, hcz19_7, hcz19_8⟩ := cells9 BK197.out; obtain ⟨hfz19_0, hfz19_1, hfz19_2, hfz19_3, hfz19_4, hfz19_5, hfz19_6, hfz19_7, hfz19_8⟩ := frozens9 BK197.out
    go_wp2_with (first | (go_at_call 31; (with_reducible refine (tally_Right.calls a0_0 false _ A6.out).mono ?_); rintro e w' ⟨rfl, ⟨nd, rfl⟩⟩))
    go_meet
    case rel => exact ⟨_, (true), ap3, H', ⟨by first | omega | exact Nat.le_refl _⟩, ⟨by refine bu ?_; exact BK197.out⟩, ⟨beu HB.out⟩⟩
 case rest =>
  clear HC2; (try clear c1); (try clear p2); (try clear c4); (try clear c4b0); (try clear c7); (try clear c9); (try clear c11); (try clear c12); (try clear c12b0); (try clear c12b1); (try clear c14); (try clear hcz13_0); (try clear hcz13_1); (try clear hcz13_2); (try clear hcz13_3); (try clear hcz13_4); (try clear hcz13_5); (try clear hcz13_6); (try clear hcz13_7); (try clear hcz13_8); (try clear hcz15_0); (try clear hcz15_1); (try clear hcz15_2); (try clear hcz15_3); (try clear hcz15_4); (try clear hcz15_5); (try clear hcz15_6); (try clear hcz15_7); (try clear hcz15_8); (try clear hcz17_0); (try clear hcz17_1); (try clear hcz17_2); (try clear hcz17_3); (try clear hcz17_4); (try clear hcz17_5); (try clear hcz17_6); (try clear hcz17_7); (try clear hcz17_8); (try clear hcz18_0); (try clear hcz18_1); (try clear hcz18_2); (try clear hcz18_3); (try clear hcz18_4); (try clear hcz18_5); (try clear hcz18_6); (try clear hcz18_7); (try clear hcz18_8); (try clear hcz19_0); (try clear hcz19_1); (try clear hcz19_2); (try clear hcz19_3); (try clear hcz19_4); (try clear hcz19_5); (try clear hcz19_6); (try clear hcz19_7); (try clear hcz19_8); (try clear hcz5_0); (try clear hcz5_1); (try clear hcz5_2); (try clear hcz5_3); (try clear hcz5_4); (try clear hcz5_5); (try clear hcz5_6); (try clear hcz5_7); (try clear hcz5_8); (try clear hfz13_0); (try clear hfz13_1); (try clear hfz13_2); (try clear hfz13_3); (try clear hfz13_4); (try clear hfz13_5); (try clear hfz13_6); (try clear hfz13_7); (try clear hfz13_8); (try clear hfz15_0); (try clear hfz15_1); (try clear hfz15_2); (try clear hfz15_3); (try clear hfz15_4); (try clear hfz15_5); (try clear hfz15_6); (try clear hfz15_7); (try clear hfz15_8); (try clear hfz17_0); (try clear hfz17_1); (try clear hfz17_2); (try clear hfz17_3); (try clear hfz17_4); (try clear hfz17_5); (try clear hfz17_6); (try clear hfz17_7); (try clear hfz17_8); (try clear hfz18_0); (try clear hfz18_1); (try clear hfz18_2); (try clear hfz18_3); (try clear hfz18_4); (try clear hfz18_5); (try clear hfz18_6); (try clear hfz18_7); (try clear hfz18_8); (try clear hfz19_0); (try clear hfz19_1); (try clear hfz19_2); (try clear hfz19_3); (try clear hfz19_4); (try clear hfz19_5); (try clear hfz19_6); (try clear hfz19_7); (try clear hfz19_8); (try clear hfz5_0); (try clear hfz5_1); (try clear hfz5_2); (try clear hfz5_3); (try clear hfz5_4); (try clear hfz5_5); (try clear hfz5_6); (try clear hfz5_7); (try clear hfz5_8); obtain ⟨kq, x37_1, rfl, HA, HJ1, BK197, HB⟩ := hcut
  cases kq with
  | zero => exact absurd HA.out (by simp [batch_Right.j0])
  | succ kj1 =>
   have H := HA.out; clear HA; simp only [batch_Right.j0] at H
   by_cases c20 : x37_1 = true
   ·subst c20
    have H1 : (some false) = some r := by rw [if_pos rfl] at H; exact H
    clear H; have H := H1; clear H1; obtain rfl := Option.some.inj H; simp only [Option.some.injEq, Prod.mk.injEq] at H; obtain ⟨rfl⟩ := H
    go_wp2
    go_ret
    exact ⟨ap4, beu HB.out⟩
   ·replace c20 := Bool.eq_false_iff.mpr c20
    subst c20
    have H1 : (if a0_3 < 1 then (batch_Right.j1 kj1 true a0_0 a0_1 a0_2 a0_3 a0_4 a0_5 a0_6 a0_7 l0_8) else (if a0_3 > 2 then (batch_Right.j1 kj1 true a0_0 a0_1 a0_2 a0_3 a0_4 a0_5 a0_6 a0_7 l0_8) else (if a0_4 < 1 then (batch_Right.j1 kj1 true a0_0 a0_1 a0_2 a0_3 a0_4 a0_5 a0_6 a0_7 l0_8) else (batch_Right.j1 kj1 (decide (a0_4 > 3)) a0_0 a0_1 a0_2 a0_3 a0_4 a0_5 a0_6 a0_7 l0_8)))) = some r := by rw [if_neg (show ¬ (false = true) by decide)] at H; exact H
    clear H; have H := H1; clear H1; have HC21 := am H; clear H
    go_upto_region 3 with (fail)
    go_cut [55] (fun v55 wc => ∃ (kq : Nat) (x55_20 : Bool), v55 = .bool x55_20 ∧ Aside0 (batch_Right.j1 kq x55_20 a0_0 a0_1 a0_2 a0_3 a0_4 a0_5 a0_6 a0_7 l0_8 = some r) ∧ Aside0 (kq ≤ kj1) ∧ Aside0 (wc.heap[gb197]? = some (.cells #[.int .i64 a0_0, .int .i64 a0_1, .int .i64 a0_2, .int .i64 a0_3, .int .i64 a0_4, .string a0_5, .string a0_6, .string a0_7, (.slice A0_8 l0_8.length c0_8)] 31 (0, 0))) ∧ Aside0 (Below w.heap.size w wc))
    case first =>
     have H := HC21.out; clear HC21
     by_cases c22 : a0_3 < 1
     ·rw [if_pos c22] at H
      have c22b0 : decide (a0_3 < 1) = true := decide_eq_true c22; clear c22
      (first | rw [c22b0] | (simp only [i64_w, i32_w]; rw [c22b0]) | skip)
      have H' := am H; clear H; obtain ⟨hcz23_0, hcz23_1, hcz23_2, hcz23_3, hcz23_4, hcz23_5, hcz23_6, hcz23_7, hcz23_8⟩ := cells9 BK197.out; obtain ⟨hfz23_0, hfz23_1, hfz23_2, hfz23_3, hfz23_4, hfz23_5, hfz23_6, hfz23_7, hfz23_8⟩ := frozens9 BK197.out
      go_wp2
      go_meet
      case rel => exact ⟨_, (true), ap3, H', ⟨by have := HJ1.out; first | omega | exact Nat.le_refl _⟩, ⟨by refine bu ?_; exact BK197.out⟩, ⟨beu HB.out⟩⟩
     ·rw [if_neg c22] at H
      have c22b0 : decide (a0_3 < 1) = false := decide_eq_false c22; clear c22
      (first | rw [c22b0] | (simp only [i64_w, i32_w]; rw [c22b0]) | skip)
      by_cases c24 : a0_3 > 2
      ·rw [if_pos c24] at H
       have c24b0 : decide (2 < a0_3) = true := decide_eq_true c24; clear c24; have H' := am H; clear H; obtain ⟨hcz25_0, hcz25_1, hcz25_2, hcz25_3, hcz25_4, hcz25_5, hcz25_6, hcz25_7, hcz25_8⟩ := cells9 BK197.out; obtain ⟨hfz25_0, hfz25_1, hfz25_2, hfz25_3, hfz25_4, hfz25_5, hfz25_6, hfz25_7, hfz25_8⟩ := frozens9 BK197.out
       go_wp2
       go_meet
       case rel => exact ⟨_, (true), ap3, H', ⟨by have := HJ1.out; first | omega | exact Nat.le_refl _⟩, ⟨by refine bu ?_; exact BK197.out⟩, ⟨beu HB.out⟩⟩
      ·rw [if_neg c24] at H
       have c24b0 : decide (2 < a0_3) = false := decide_eq_false c24; clear c24
       by_cases c26 : a0_4 < 1
       ·rw [if_pos c26] at H
        have c26b0 : decide (a0_4 < 1) = true := decide_eq_true c26; clear c26; have H' := am H; clear H; obtain ⟨hcz27_0, hcz27_1, hcz27_2, hcz27_3, hcz27_4, hcz27_5, hcz27_6, hcz27_7, hcz27_8⟩ := cells9 BK197.out; obtain ⟨hfz27_0, hfz27_1, hfz27_2, hfz27_3, hfz27_4, hfz27_5, hfz27_6, hfz27_7, hfz27_8⟩ := frozens9 BK197.out
        go_wp2
        go_meet
        case rel => exact ⟨_, (true), ap3, H', ⟨by have := HJ1.out; first | omega | exact Nat.le_refl _⟩, ⟨by refine bu ?_; exact BK197.out⟩, ⟨beu HB.out⟩⟩
       ·rw [if_neg c26] at H
        have c26b0 : decide (a0_4 < 1) = false := decide_eq_false c26; clear c26; have H' := am H; clear H; obtain ⟨hcz28_0, hcz28_1, hcz28_2, hcz28_3, hcz28_4, hcz28_5, hcz28_6, hcz28_7, hcz28_8⟩ := cells9 BK197.out; obtain ⟨hfz28_0, hfz28_1, hfz28_2, hfz28_3, hfz28_4, hfz28_5, hfz28_6, hfz28_7, hfz28_8⟩ := frozens9 BK197.out
        go_wp2
        go_meet
        case rel => exact ⟨_, (decide (a0_4 > 3)), ap3, H', ⟨by have := HJ1.out; first | omega | exact Nat.le_refl _⟩, ⟨by refine bu ?_; exact BK197.out⟩, ⟨beu HB.out⟩⟩
    case rest =>
     clear HC21; (try clear c1); (try clear c2); (try clear p2); (try clear c4); (try clear c4b0); (try clear c7); (try clear c9); (try clear c11); (try clear c12); (try clear c12b0); (try clear c12b1); (try clear c14); (try clear c20); (try clear c22); (try clear c22b0); (try clear c24); (try clear c24b0); (try clear c26); (try clear c26b0); (try clear hcz13_0); (try clear hcz13_1); (try clear hcz13_2); (try clear hcz13_3); (try clear hcz13_4); (try clear hcz13_5); (try clear hcz13_6); (try clear hcz13_7); (try clear hcz13_8); (try clear hcz15_0); (try clear hcz15_1); (try clear hcz15_2); (try clear hcz15_3); (try clear hcz15_4); (try clear hcz15_5); (try clear hcz15_6); (try clear hcz15_7); (try clear hcz15_8); (try clear hcz17_0); (try clear hcz17_1); (try clear hcz17_2); (try clear hcz17_3); (try clear hcz17_4); (try clear hcz17_5); (try clear hcz17_6); (try clear hcz17_7); (try clear hcz17_8); (try clear hcz18_0); (try clear hcz18_1); (try clear hcz18_2); (try clear hcz18_3); (try clear hcz18_4); (try clear hcz18_5); (try clear hcz18_6); (try clear hcz18_7); (try clear hcz18_8); (try clear hcz19_0); (try clear hcz19_1); (try clear hcz19_2); (try clear hcz19_3); (try clear hcz19_4); (try clear hcz19_5); (try clear hcz19_6); (try clear hcz19_7); (try clear hcz19_8); (try clear hcz23_0); (try clear hcz23_1); (try clear hcz23_2); (try clear hcz23_3); (try clear hcz23_4); (try clear hcz23_5); (try clear hcz23_6); (try clear hcz23_7); (try clear hcz23_8); (try clear hcz25_0); (try clear hcz25_1); (try clear hcz25_2); (try clear hcz25_3); (try clear hcz25_4); (try clear hcz25_5); (try clear hcz25_6); (try clear hcz25_7); (try clear hcz25_8); (try clear hcz27_0); (try clear hcz27_1); (try clear hcz27_2); (try clear hcz27_3); (try clear hcz27_4); (try clear hcz27_5); (try clear hcz27_6); (try clear hcz27_7); (try clear hcz27_8); (try clear hcz28_0); (try clear hcz28_1); (try clear hcz28_2); (try clear hcz28_3); (try clear hcz28_4); (try clear hcz28_5); (try clear hcz28_6); (try clear hcz28_7); (try clear hcz28_8); (try clear hcz5_0); (try clear hcz5_1); (try clear hcz5_2); (try clear hcz5_3); (try clear hcz5_4); (try clear hcz5_5); (try clear hcz5_6); (try clear hcz5_7); (try clear hcz5_8); (try clear hfz13_0); (try clear hfz13_1); (try clear hfz13_2); (try clear hfz13_3); (try clear hfz13_4); (try clear hfz13_5); (try clear hfz13_6); (try clear hfz13_7); (try clear hfz13_8); (try clear hfz15_0); (try clear hfz15_1); (try clear hfz15_2); (try clear hfz15_3); (try clear hfz15_4); (try clear hfz15_5); (try clear hfz15_6); (try clear hfz15_7); (try clear hfz15_8); (try clear hfz17_0); (try clear hfz17_1); (try clear hfz17_2); (try clear hfz17_3); (try clear hfz17_4); (try clear hfz17_5); (try clear hfz17_6); (try clear hfz17_7); (try clear hfz17_8); (try clear hfz18_0); (try clear hfz18_1); (try clear hfz18_2); (try clear hfz18_3); (try clear hfz18_4); (try clear hfz18_5); (try clear hfz18_6); (try clear hfz18_7); (try clear hfz18_8); (try clear hfz19_0); (try clear hfz19_1); (try clear hfz19_2); (try clear hfz19_3); (try clear hfz19_4); (try clear hfz19_5); (try clear hfz19_6); (try clear hfz19_7); (try clear hfz19_8); (try clear hfz23_0); (try clear hfz23_1); (try clear hfz23_2); (try clear hfz23_3); (try clear hfz23_4); (try clear hfz23_5); (try clear hfz23_6); (try clear hfz23_7); (try clear hfz23_8); (try clear hfz25_0); (try clear hfz25_1); (try clear hfz25_2); (try clear hfz25_3); (try clear hfz25_4); (try clear hfz25_5); (try clear hfz25_6); (try clear hfz25_7); (try clear hfz25_8); (try clear hfz27_0); (try clear hfz27_1); (try clear hfz27_2); (try clear hfz27_3); (try clear hfz27_4); (try clear hfz27_5); (try clear hfz27_6); (try clear hfz27_7); (try clear hfz27_8); (try clear hfz28_0); (try clear hfz28_1); (try clear hfz28_2); (try clear hfz28_3); (try clear hfz28_4); (try clear hfz28_5); (try clear hfz28_6); (try clear hfz28_7); (try clear hfz28_8); (try clear hfz5_0); (try clear hfz5_1); (try clear hfz5_2); (try clear hfz5_3)
     (try clear hfz5_4); (try clear hfz5_5); (try clear hfz5_6); (try clear hfz5_7); (try clear hfz5_8); (try clear p2); obtain ⟨kq, x55_20, rfl, HA, HJ20, BK197, HB⟩ := hcut
     cases kq with
     | zero => exact absurd HA.out (by simp [batch_Right.j1])
     | succ kj20 =>
      have H := HA.out; clear HA; simp only [batch_Right.j1] at H
      by_cases c29 : x55_20 = true
      ·subst c29
       have H1 : (some false) = some r := by rw [if_pos rfl] at H; exact H
       clear H; have H := H1; clear H1; obtain rfl := Option.some.inj H; simp only [Option.some.injEq, Prod.mk.injEq] at H; obtain ⟨rfl⟩ := H
       go_wp2
       go_ret
       exact ⟨ap4, beu HB.out⟩
      ·replace c29 := Bool.eq_false_iff.mpr c29
       subst c29
       have H1 : (batch_Right.l0 kj20 l0_8 (l0_8.length : Int) 0 a0_0 a0_1 a0_2 a0_3 a0_4 a0_5 a0_6 a0_7 l0_8) = some r := by rw [if_neg (show ¬ (false = true) by decide)] at H; exact H
       clear H; have H := H1; clear H1; have H' := am H; clear H; obtain ⟨hcz30_0, hcz30_1, hcz30_2, hcz30_3, hcz30_4, hcz30_5, hcz30_6, hcz30_7, hcz30_8⟩ := cells9 BK197.out; obtain ⟨hfz30_0, hfz30_1, hfz30_2, hfz30_3, hfz30_4, hfz30_5, hfz30_6, hfz30_7, hfz30_8⟩ := frozens9 BK197.out
       go_wp2
       go_loopg [59] kj20 (fun kq v59 w' => ∃ (x59_3 : Int), v59 = .int .i64 x59_3 ∧ Aside0 (batch_Right.l0 kq l0_8 (l0_8.length : Int) x59_3 a0_0 a0_1 a0_2 a0_3 a0_4 a0_5 a0_6 a0_7 l0_8 = some r) ∧ Aside0 (kq ≤ kj20) ∧ Aside0 (w'.heap[gb197]? = some (.cells #[.int .i64 a0_0, .int .i64 a0_1, .int .i64 a0_2, .int .i64 a0_3, .int .i64 a0_4, .string a0_5, .string a0_6, .string a0_7, (.slice A0_8 l0_8.length c0_8)] 31 (0, 0))) ∧ Aside0 (Below w.heap.size w w'))
       case atStart => exact ⟨(0), ap3, H', ⟨Nat.le_refl _⟩, ⟨by refine bu ?_; exact BK197.out⟩, ⟨beu HB.out⟩⟩
       case round =>
        clear H'; (try clear c1); (try clear c2); (try clear p2); (try clear c4); (try clear c4b0); (try clear c7); (try clear c9); (try clear c11); (try clear c12); (try clear c12b0); (try clear c12b1); (try clear c14); (try clear c20); (try clear c22); (try clear c22b0); (try clear c24); (try clear c24b0); (try clear c26); (try clear c26b0); (try clear c29); (try clear hcz13_0); (try clear hcz13_1); (try clear hcz13_2); (try clear hcz13_3); (try clear hcz13_4); (try clear hcz13_5); (try clear hcz13_6); (try clear hcz13_7); (try clear hcz13_8); (try clear hcz15_0); (try clear hcz15_1); (try clear hcz15_2); (try clear hcz15_3); (try clear hcz15_4); (try clear hcz15_5); (try clear hcz15_6); (try clear hcz15_7); (try clear hcz15_8); (try clear hcz17_0); (try clear hcz17_1); (try clear hcz17_2); (try clear hcz17_3); (try clear hcz17_4); (try clear hcz17_5); (try clear hcz17_6); (try clear hcz17_7); (try clear hcz17_8); (try clear hcz18_0); (try clear hcz18_1); (try clear hcz18_2); (try clear hcz18_3); (try clear hcz18_4); (try clear hcz18_5); (try clear hcz18_6); (try clear hcz18_7); (try clear hcz18_8); (try clear hcz19_0); (try clear hcz19_1); (try clear hcz19_2); (try clear hcz19_3); (try clear hcz19_4); (try clear hcz19_5); (try clear hcz19_6); (try clear hcz19_7); (try clear hcz19_8); (try clear hcz23_0); (try clear hcz23_1); (try clear hcz23_2); (try clear hcz23_3); (try clear hcz23_4); (try clear hcz23_5); (try clear hcz23_6); (try clear hcz23_7); (try clear hcz23_8); (try clear hcz25_0); (try clear hcz25_1); (try clear hcz25_2); (try clear hcz25_3); (try clear hcz25_4); (try clear hcz25_5); (try clear hcz25_6); (try clear hcz25_7); (try clear hcz25_8); (try clear hcz27_0); (try clear hcz27_1); (try clear hcz27_2); (try clear hcz27_3); (try clear hcz27_4); (try clear hcz27_5); (try clear hcz27_6); (try clear hcz27_7); (try clear hcz27_8); (try clear hcz28_0); (try clear hcz28_1); (try clear hcz28_2); (try clear hcz28_3); (try clear hcz28_4); (try clear hcz28_5); (try clear hcz28_6); (try clear hcz28_7); (try clear hcz28_8); (try clear hcz30_0); (try clear hcz30_1); (try clear hcz30_2); (try clear hcz30_3); (try clear hcz30_4); (try clear hcz30_5); (try clear hcz30_6); (try clear hcz30_7); (try clear hcz30_8); (try clear hcz5_0); (try clear hcz5_1); (try clear hcz5_2); (try clear hcz5_3); (try clear hcz5_4); (try clear hcz5_5); (try clear hcz5_6); (try clear hcz5_7); (try clear hcz5_8); (try clear hfz13_0); (try clear hfz13_1); (try clear hfz13_2); (try clear hfz13_3); (try clear hfz13_4); (try clear hfz13_5); (try clear hfz13_6); (try clear hfz13_7); (try clear hfz13_8); (try clear hfz15_0); (try clear hfz15_1); (try clear hfz15_2); (try clear hfz15_3); (try clear hfz15_4); (try clear hfz15_5); (try clear hfz15_6); (try clear hfz15_7); (try clear hfz15_8); (try clear hfz17_0); (try clear hfz17_1); (try clear hfz17_2); (try clear hfz17_3); (try clear hfz17_4); (try clear hfz17_5); (try clear hfz17_6); (try clear hfz17_7); (try clear hfz17_8); (try clear hfz18_0); (try clear hfz18_1); (try clear hfz18_2); (try clear hfz18_3); (try clear hfz18_4); (try clear hfz18_5); (try clear hfz18_6); (try clear hfz18_7); (try clear hfz18_8); (try clear hfz19_0); (try clear hfz19_1); (try clear hfz19_2); (try clear hfz19_3); (try clear hfz19_4); (try clear hfz19_5); (try clear hfz19_6); (try clear hfz19_7); (try clear hfz19_8); (try clear hfz23_0); (try clear hfz23_1); (try clear hfz23_2); (try clear hfz23_3); (try clear hfz23_4); (try clear hfz23_5); (try clear hfz23_6); (try clear hfz23_7); (try clear hfz23_8); (try clear hfz25_0); (try clear hfz25_1); (try clear hfz25_2); (try clear hfz25_3); (try clear hfz25_4); (try clear hfz25_5); (try clear hfz25_6); (try clear hfz25_7); (try clear hfz25_8); (try clear hfz27_0); (try clear hfz27_1); (try clear hfz27_2); (try clear hfz27_3); (try clear hfz27_4); (try clear hfz27_5); (try clear hfz27_6); (try clear hfz27_7); (try clear hfz27_8); (try clear hfz28_0); (try clear hfz28_1); (try clear hfz28_2)
        (try clear hfz28_3); (try clear hfz28_4); (try clear hfz28_5); (try clear hfz28_6); (try clear hfz28_7); (try clear hfz28_8); (try clear hfz30_0); (try clear hfz30_1); (try clear hfz30_2); (try clear hfz30_3); (try clear hfz30_4); (try clear hfz30_5); (try clear hfz30_6); (try clear hfz30_7); (try clear hfz30_8); (try clear hfz5_0); (try clear hfz5_1); (try clear hfz5_2); (try clear hfz5_3); (try clear hfz5_4); (try clear hfz5_5); (try clear hfz5_6); (try clear hfz5_7); (try clear hfz5_8); (try clear p2); obtain ⟨x59_3, rfl, HA, HK3, BK197, HB⟩ := hrel
        cases gk with
        | zero => exact absurd HA.out (by simp [batch_Right.l0])
        | succ k3 =>
         have H := HA.out; clear HA; simp only [batch_Right.l0] at H
         by_cases c31 : x59_3 < (l0_8.length : Int)
         ·rw [if_pos c31] at H
          have c31b0 : decide (x59_3 < (l0_8.length : Int)) = true := decide_eq_true c31; clear c31
          by_cases c32 : 0 ≤ x59_3
          ·rw [if_pos c32] at H
           have c32b0 : decide (0 ≤ x59_3) = true := decide_eq_true c32; clear c32
           by_cases c33 : x59_3 < (l0_8.length : Int)
           ·rw [if_pos c33] at H
            have c33b0 : decide (x59_3 < (l0_8.length : Int)) = true := decide_eq_true c33; clear c33; replace H := obm H; obtain ⟨t203, A340, H⟩ := H; replace H : (if t203 = true then (if x59_3 ≤ (l0_8.length : Int) then ((slices_Contains_string_string.f k3 (l0_8.take (x59_3 : Int).toNat) (rdOf ByteArray.empty l0_8 x59_3)).bind fun t205 => (if t205 = true then (some false) else (batch_Right.l0 k3 l0_8 (l0_8.length : Int) (wrap64 (x59_3 + 1)) a0_0 a0_1 a0_2 a0_3 a0_4 a0_5 a0_6 a0_7 l0_8))) else (none)) else (some false)) = some r := H; have A34 := am A340; clear A340
            by_cases c35 : t203 = true
            ·subst c35
             have H1 : (if x59_3 ≤ (l0_8.length : Int) then ((slices_Contains_string_string.f k3 (l0_8.take (x59_3 : Int).toNat) (rdOf ByteArray.empty l0_8 x59_3)).bind fun t205 => (if t205 = true then (some false) else (batch_Right.l0 k3 l0_8 (l0_8.length : Int) (wrap64 (x59_3 + 1)) a0_0 a0_1 a0_2 a0_3 a0_4 a0_5 a0_6 a0_7 l0_8))) else (none)) = some r := by rw [if_pos rfl] at H; exact H
             clear H; have H := H1; clear H1; have c36b0 := eq_true (of_decide_eq_true ap2 : 0 ≤ x59_3)
             by_cases c37 : x59_3 ≤ (l0_8.length : Int)
             ·rw [if_pos c37] at H
              have c37b0 := eq_true c37; have c37b1 : decide (x59_3 ≤ (l0_8.length : Int)) = true := decide_eq_true c37; clear c37; replace H := obm H; obtain ⟨t205, A380, H⟩ := H; replace H : (if t205 = true then (some false) else (batch_Right.l0 k3 l0_8 (l0_8.length : Int) (wrap64 (x59_3 + 1)) a0_0 a0_1 a0_2 a0_3 a0_4 a0_5 a0_6 a0_7 l0_8)) = some r := H; have A38 := am A380; clear A380
              by_cases c39 : t205 = true
              ·subst c39
               have H1 : (some false) = some r := by rw [if_pos rfl] at H; exact H
               clear H; have H := H1; clear H1; obtain rfl := Option.some.inj H; simp only [Option.some.injEq, Prod.mk.injEq] at H; obtain ⟨rfl⟩ := H; have p202 : 0 ≤ (x59_3 : Int) := of_decide_eq_true ap2; have q202 : x59_3 < (l0_8.length : Int) := of_decide_eq_true ap2; obtain ⟨ad202, e202, hx202_0⟩ := Kd.at_string HR0_8.out x59_3 p202 q202
               cases e202
               replace hx202_0 := (HB.out.cell (World.block_lt_of_cell? w _ hx202_0)).trans hx202_0; replace p202 := eq_true p202; replace q202 := eq_true q202
               go_wp2_with (first | ((with_reducible refine gate_callee (f := 33) rfl ?_); refine goesL_ (some 65) rfl rfl Tryd.func33 (by kernel_rfl) rfl #[.string (rdOf ByteArray.empty l0_8 x59_3)] rfl ap1 ?_; (with_reducible refine (label_Right.calls (rdOf ByteArray.empty l0_8 x59_3) true _ ?side1 A34.out).mono ?_); (case side1 => first | (with_reducible exact HT.out) | exact Tabs.below HT.out (beu HB.out)); rintro e w40 ⟨rfl, hb⟩; refine ⟨_, rfl, ?_⟩; have _ := am (blk_below (bu BK197.out) hb); have _ := am (below_step (beu HB.out) hb); clear BK197 HB; rename_i BK197 HB; (try clear hb); obtain ⟨hcz41_0, hcz41_1, hcz41_2, hcz41_3, hcz41_4, hcz41_5, hcz41_6, hcz41_7, hcz41_8⟩ := cells9 BK197.out; obtain ⟨hfz41_0, hfz41_1, hfz41_2, hfz41_3, hfz41_4, hfz41_5, hfz41_6, hfz41_7, hfz41_8⟩ := frozens9 BK197.out; obtain ⟨i042, hi042, _, hsz42, _⟩ := info_parts info9; obtain ⟨hcut42, hA42, hC42⟩ := print_take_of (P := Tryd.prog) Value.string ⟨#[]⟩ 29 9 .i64 Tryd.underlying29 hi042 hsz42 (some ad202) c0_8 l0_8 x59_3 (of_decide_eq_true ap2) (of_decide_eq_true ap2) HC0_8.out; have HR204 := am (Kd.C_of_reads (h1 := fun _ => rfl) (hA42 _ (Kd.reads_of_C HR0_8.out))); have HC204 := am hC42; clear hA42 hC42 hi042 hsz42) | (go_at_call 34; rw [show (x59_3 : Int).toNat = (l0_8.take (x59_3 : Int).toNat).length from (by rw [List.length_take]; have z_ := (of_decide_eq_true ap2 : x59_3 ≤ (l0_8.length : Int)); omega)]; (with_reducible refine (slices_Contains_string_string.calls k3 _ _ (l0_8.take (x59_3 : Int).toNat) (rdOf ByteArray.empty l0_8 x59_3) true _ ?side1 ?side2 A38.out).mono ?_); (case side1 => exact cu (Kd.C_below HR204.out HB.out)); (case side2 => exact HC204.out); rintro e w' ⟨rfl, ⟨nd, rfl⟩⟩))
               go_ret
               exact ⟨ap4, beu HB.out⟩
              ·replace c39 := Bool.eq_false_iff.mpr c39
               subst c39
               have H1 : (batch_Right.l0 k3 l0_8 (l0_8.length : Int) (wrap64 (x59_3 + 1)) a0_0 a0_1 a0_2 a0_3 a0_4 a0_5 a0_6 a0_7 l0_8) = some r := by rw [if_neg (show ¬ (false = true) by decide)] at H; exact H
               clear H; have H := H1; clear H1; have H' := am H; clear H; have p202 : 0 ≤ (x59_3 : Int) := of_decide_eq_true ap2; have q202 : x59_3 < (l0_8.length : Int) := of_decide_eq_true ap2; obtain ⟨ad202, e202, hx202_0⟩ := Kd.at_string HR0_8.out x59_3 p202 q202
               cases e202
               replace hx202_0 := (HB.out.cell (World.block_lt_of_cell? w _ hx202_0)).trans hx202_0; replace p202 := eq_true p202; replace q202 := eq_true q202
               go_wp2_with (first | ((with_reducible refine gate_callee (f := 33) rfl ?_); refine goesL_ (some 65) rfl rfl Tryd.func33 (by kernel_rfl) rfl #[.string (rdOf ByteArray.empty l0_8 x59_3)] rfl ap1 ?_; (with_reducible refine (label_Right.calls (rdOf ByteArray.empty l0_8 x59_3) true _ ?side1 A34.out).mono ?_); (case side1 => first | (with_reducible exact HT.out) | exact Tabs.below HT.out (beu HB.out)); rintro e w43 ⟨rfl, hb⟩; refine ⟨_, rfl, ?_⟩; have _ := am (blk_below (bu BK197.out) hb); have _ := am (below_step (beu HB.out) hb); clear BK197 HB; rename_i BK197 HB; (try clear hb); obtain ⟨hcz44_0, hcz44_1, hcz44_2, hcz44_3, hcz44_4, hcz44_5, hcz44_6, hcz44_7, hcz44_8⟩ := cells9 BK197.out; obtain ⟨hfz44_0, hfz44_1, hfz44_2, hfz44_3, hfz44_4, hfz44_5, hfz44_6, hfz44_7, hfz44_8⟩ := frozens9 BK197.out; obtain ⟨i045, hi045, _, hsz45, _⟩ := info_parts info9; obtain ⟨hcut45, hA45, hC45⟩ := print_take_of (P := Tryd.prog) Value.string ⟨#[]⟩ 29 9 .i64 Tryd.underlying29 hi045 hsz45 (some ad202) c0_8 l0_8 x59_3 (of_decide_eq_true ap2) (of_decide_eq_true ap2) HC0_8.out; have HR204 := am (Kd.C_of_reads (h1 := fun _ => rfl) (hA45 _ (Kd.reads_of_C HR0_8.out))); have HC204 := am hC45; clear hA45 hC45 hi045 hsz45) | (go_at_call 34; rw [show (x59_3 : Int).toNat = (l0_8.take (x59_3 : Int).toNat).length from (by rw [List.length_take]; have z_ := (of_decide_eq_true ap2 : x59_3 ≤ (l0_8.length : Int)); omega)]; (with_reducible refine (slices_Contains_string_string.calls k3 _ _ (l0_8.take (x59_3 : Int).toNat) (rdOf ByteArray.empty l0_8 x59_3) false _ ?side1 ?side2 A38.out).mono ?_); (case side1 => exact cu (Kd.C_below HR204.out HB.out)); (case side2 => exact HC204.out); rintro e w' ⟨rfl, ⟨nd, rfl⟩⟩))
               go_roundg k3
               case measure => have := HJ1.out; have := HJ20.out; have := HK3.out; omega
               case rel => exact ⟨(wrap64 (x59_3 + 1)), ap3, H', ⟨by have := HJ1.out; have := HJ20.out; have := HK3.out; omega⟩, ⟨by refine bu ?_; exact BK197.out⟩, ⟨beu HB.out⟩⟩
             ·rw [if_neg c37] at H
              exact absurd H (by simp)
            ·replace c35 := Bool.eq_false_iff.mpr c35
             subst c35
             have H1 : (some false) = some r := by rw [if_neg (show ¬ (false = true) by decide)] at H; exact H
             clear H; have H := H1; clear H1; obtain rfl := Option.some.inj H; simp only [Option.some.injEq, Prod.mk.injEq] at H; obtain ⟨rfl⟩ := H; have p202 : 0 ≤ (x59_3 : Int) := of_decide_eq_true ap2; have q202 : x59_3 < (l0_8.length : Int) := of_decide_eq_true ap2; obtain ⟨ad202, e202, hx202_0⟩ := Kd.at_string HR0_8.out x59_3 p202 q202
             cases e202
             replace hx202_0 := (HB.out.cell (World.block_lt_of_cell? w _ hx202_0)).trans hx202_0; replace p202 := eq_true p202; replace q202 := eq_true q202
             go_wp2_with (first | ((with_reducible refine gate_callee (f := 33) rfl ?_); refine goesL_ (some 65) rfl rfl Tryd.func33 (by kernel_rfl) rfl #[.string (rdOf ByteArray.empty l0_8 x59_3)] rfl ap1 ?_; (with_reducible refine (label_Right.calls (rdOf ByteArray.empty l0_8 x59_3) false _ ?side1 A34.out).mono ?_); (case side1 => first | (with_reducible exact HT.out) | exact Tabs.below HT.out (beu HB.out)); rintro e w46 ⟨rfl, hb⟩; refine ⟨_, rfl, ?_⟩; have _ := am (blk_below (bu BK197.out) hb); have _ := am (below_step (beu HB.out) hb); clear BK197 HB; rename_i BK197 HB; (try clear hb)))
             go_ret
             exact ⟨ap4, beu HB.out⟩
           ·rw [if_neg c33] at H
            exact absurd H (by simp)
          ·rw [if_neg c32] at H
           exact absurd H (by simp)
         ·rw [if_neg c31] at H
          have c31b0 : decide (x59_3 < (l0_8.length : Int)) = false := decide_eq_false c31; clear c31; obtain rfl := Option.some.inj H; simp only [Option.some.injEq, Prod.mk.injEq] at H; obtain ⟨rfl⟩ := H
          go_wp2
          go_ret
          exact ⟨ap4, beu HB.out⟩
def slices_Equal_string_string.l0 : Nat → List ByteArray → List ByteArray → Int → Int → Option (Bool)
 | 0, _, _, _, _ => none
 | k + 1, x0, x1, x12, x13 => if x13 < x12 then (if 0 ≤ x13 then (if x13 < (x0.length : Int) then (if x13 < (x1.length : Int) then (if (rdOf ByteArray.empty x0 x13).toList = (rdOf ByteArray.empty x1 x13).toList then (slices_Equal_string_string.l0 k x0 x1 x12 (wrap64 (x13 + 1))) else (some false)) else (none)) else (none)) else (none)) else (some true)
def slices_Equal_string_string.f (k : Nat) (l0 : List ByteArray) (l1 : List ByteArray) : Option (Bool) := if (l0.length : Int) = (l1.length : Int) then (slices_Equal_string_string.l0 k l0 l1 (l0.length : Int) 0) else (some false)
set_option maxHeartbeats 8000000 in
set_option maxRecDepth 100000 in
theorem slices_Equal_string_string.calls (k : Nat) (A0 : Option Addr) (c0 : Nat) (l0 : List ByteArray) (A1 : Option Addr) (c1 : Nat) (l1 : List ByteArray) (r : Bool) (w : World) (hr0 : Kd.C Kd.string w A0 l0.length l0) (hc0 : l0.length ≤ c0) (hr1 : Kd.C Kd.string w A1 l1.length l1) (hc1 : l1.length ≤ c1) (h : slices_Equal_string_string.f k l0 l1 = some r) :
  Calls Tryd.prog 41 #[.slice A0 l0.length c0, .slice A1 l1.length c1] w fun e w' => e = .returned (.bool r) ∧ Drawn0 w w' := by
 have HR0 := am hr0; have HC0 := am hc0; clear hr0 hc0; have HR1 := am hr1; have HC1 := am hc1; clear hr1 hc1; have H : (if (l0.length : Int) = (l1.length : Int) then (slices_Equal_string_string.l0 k l0 l1 (l0.length : Int) 0) else (some false)) = some r := h; clear h
 by_cases c3 : (l0.length : Int) = (l1.length : Int)
 ·rw [if_pos c3] at H
  have c3b0 : ((l0.length : Int) == (l1.length : Int)) = true := beq_iff_eq.mpr c3; have c3b1 : ((l0.length : Int) != (l1.length : Int)) = false := bne_eq_false_iff_eq.mpr c3
  have c3b2 : (l0.length == l1.length) = true := by first | simpa using c3 | (simp at c3 ⊢; omega)
  clear c3; have H' := am H; clear H
  go_enter Tryd.func41, Tryd.ntmps41
  go_wp2
  repeat (go_quiet (fail); try go_wp2)
  go_loopg [13] k (fun kq v13 w' => ∃ (x13_1 : Int), v13 = .int .i64 x13_1 ∧ Aside0 (slices_Equal_string_string.l0 kq l0 l1 (l0.length : Int) x13_1 = some r) ∧ Aside0 (kq ≤ k) ∧ Drawn0 w w')
  case atStart => exact ⟨(0), ap3, H', ⟨Nat.le_refl _⟩, ap5⟩
  case round =>
   clear H'; (try clear c1); (try clear p2); (try clear c3); (try clear c3b0); (try clear c3b1); (try clear c3b2); obtain ⟨x13_1, rfl, HA, HK1, ⟨m1, rfl⟩⟩ := hrel
   cases gk with
   | zero => exact absurd HA.out (by simp [slices_Equal_string_string.l0])
   | succ k1 =>
    have H := HA.out; clear HA; simp only [slices_Equal_string_string.l0] at H
    by_cases c4 : x13_1 < (l0.length : Int)
    ·rw [if_pos c4] at H
     have c4b0 : decide (x13_1 < (l0.length : Int)) = true := decide_eq_true c4; clear c4
     by_cases c5 : 0 ≤ x13_1
     ·rw [if_pos c5] at H
      have c5b0 : decide (0 ≤ x13_1) = true := decide_eq_true c5; clear c5
      by_cases c6 : x13_1 < (l0.length : Int)
      ·rw [if_pos c6] at H
       have c6b0 : decide (x13_1 < (l0.length : Int)) = true := decide_eq_true c6; clear c6
       by_cases c7 : x13_1 < (l1.length : Int)
       ·rw [if_pos c7] at H
        have c7b0 : decide (x13_1 < (l1.length : Int)) = true := decide_eq_true c7; clear c7
        by_cases c8 : (rdOf ByteArray.empty l0 x13_1).toList = (rdOf ByteArray.empty l1 x13_1).toList
        ·rw [if_pos c8] at H
         have c8b0 : ((rdOf ByteArray.empty l0 x13_1).toList == (rdOf ByteArray.empty l1 x13_1).toList) = true := beq_iff_eq.mpr c8; have c8b1 : ((rdOf ByteArray.empty l0 x13_1).toList != (rdOf ByteArray.empty l1 x13_1).toList) = false := bne_eq_false_iff_eq.mpr c8; clear c8; have H' := am H; clear H; have p206 : 0 ≤ (x13_1 : Int) := of_decide_eq_true ap2; have q206 : x13_1 < (l0.length : Int) := of_decide_eq_true ap2; obtain ⟨ad206, e206, hx206_0⟩ := Kd.at_string HR0.out x13_1 p206 q206
         cases e206
         replace p206 := eq_true p206; replace q206 := eq_true q206; have p207 : 0 ≤ (x13_1 : Int) := of_decide_eq_true ap2; have q207 : x13_1 < (l1.length : Int) := of_decide_eq_true ap2; obtain ⟨ad207, e207, hx207_0⟩ := Kd.at_string HR1.out x13_1 p207 q207
         cases e207
         replace p207 := eq_true p207; replace q207 := eq_true q207
         go_wp2
         repeat (go_quiet (fail); try go_wp2)
         go_roundg k1
         case measure => have := HK1.out; omega
         case rel => exact ⟨(wrap64 (x13_1 + 1)), ap3, H', ⟨by have := HK1.out; omega⟩, ap5⟩
        ·rw [if_neg c8] at H
         have c8b0 : ((rdOf ByteArray.empty l0 x13_1).toList == (rdOf ByteArray.empty l1 x13_1).toList) = false := beq_eq_false_iff_ne.mpr c8; have c8b1 : ((rdOf ByteArray.empty l0 x13_1).toList != (rdOf ByteArray.empty l1 x13_1).toList) = true := bne_iff_ne.mpr c8; obtain rfl := Option.some.inj H; simp only [Option.some.injEq, Prod.mk.injEq] at H; obtain ⟨rfl⟩ := H; have p206 : 0 ≤ (x13_1 : Int) := of_decide_eq_true ap2; have q206 : x13_1 < (l0.length : Int) := of_decide_eq_true ap2; obtain ⟨ad206, e206, hx206_0⟩ := Kd.at_string HR0.out x13_1 p206 q206
         cases e206
         replace p206 := eq_true p206; replace q206 := eq_true q206; have p207 : 0 ≤ (x13_1 : Int) := of_decide_eq_true ap2; have q207 : x13_1 < (l1.length : Int) := of_decide_eq_true ap2; obtain ⟨ad207, e207, hx207_0⟩ := Kd.at_string HR1.out x13_1 p207 q207
         cases e207
         replace p207 := eq_true p207; replace q207 := eq_true q207
         go_wp2
         repeat (go_quiet (fail); try go_wp2)
         go_ret
         exact ⟨ap3, ap5⟩
       ·rw [if_neg c7] at H
        exact absurd H (by simp)
      ·rw [if_neg c6] at H
       exact absurd H (by simp)
     ·rw [if_neg c5] at H
      exact absurd H (by simp)
    ·rw [if_neg c4] at H
     have c4b0 : decide (x13_1 < (l0.length : Int)) = false := decide_eq_false c4; clear c4; obtain rfl := Option.some.inj H; simp only [Option.some.injEq, Prod.mk.injEq] at H; obtain ⟨rfl⟩ := H
     go_wp2
     repeat (go_quiet (fail); try go_wp2)
     go_ret
     exact ⟨ap3, ap5⟩
 ·rw [if_neg c3] at H
  have c3b0 : ((l0.length : Int) == (l1.length : Int)) = false := beq_eq_false_iff_ne.mpr c3; have c3b1 : ((l0.length : Int) != (l1.length : Int)) = true := bne_iff_ne.mpr c3
  have c3b2 : (l0.length == l1.length) = false := by first | simpa using c3 | (simp at c3 ⊢; omega)
  obtain rfl := Option.some.inj H; simp only [Option.some.injEq, Prod.mk.injEq] at H; obtain ⟨rfl⟩ := H
  go_enter Tryd.func41, Tryd.ntmps41
  go_wp2
  repeat (go_quiet (fail); try go_wp2)
  go_ret
  exact ⟨ap3, ap5⟩
def batch_Same.f (k : Nat) (a0_0 : Int) (a0_1 : Int) (a0_2 : Int) (a0_3 : Int) (a0_4 : Int) (a0_5 : ByteArray) (a0_6 : ByteArray) (a0_7 : ByteArray) (l0_8 : List ByteArray) (a1_0 : Int) (a1_1 : Int) (a1_2 : Int) (a1_3 : Int) (a1_4 : Int) (a1_5 : ByteArray) (a1_6 : ByteArray) (a1_7 : ByteArray) (l1_8 : List ByteArray) : Option (Bool) := if a0_0 = a1_0 then (if a0_1 = a1_1 then (if a0_2 = a1_2 then (if a0_3 = a1_3 then (if a0_4 = a1_4 then (if (a0_5.toList == a1_5.toList && (a0_6.toList == a1_6.toList && (a0_7.toList == a1_7.toList))) = true then ((slices_Equal_string_string.f k l0_8 l1_8).bind fun t210 => (some t210)) else (some false)) else (some false)) else (some false)) else (some false)) else (some false)) else (some false)
set_option maxHeartbeats 8000000 in
set_option maxRecDepth 100000 in
theorem batch_Same.calls (k : Nat) (a0_0 : Int) (a0_1 : Int) (a0_2 : Int) (a0_3 : Int) (a0_4 : Int) (a0_5 : ByteArray) (a0_6 : ByteArray) (a0_7 : ByteArray) (A0_8 : Option Addr) (c0_8 : Nat) (l0_8 : List ByteArray) (a1_0 : Int) (a1_1 : Int) (a1_2 : Int) (a1_3 : Int) (a1_4 : Int) (a1_5 : ByteArray) (a1_6 : ByteArray) (a1_7 : ByteArray) (A1_8 : Option Addr) (c1_8 : Nat) (l1_8 : List ByteArray) (r : Bool) (w : World) (hr0_8 : Kd.C Kd.string w A0_8 l0_8.length l0_8) (hc0_8 : l0_8.length ≤ c0_8) (hr1_8 : Kd.C Kd.string w A1_8 l1_8.length l1_8) (hc1_8 : l1_8.length ≤ c1_8) (h : batch_Same.f k a0_0 a0_1 a0_2 a0_3 a0_4 a0_5 a0_6 a0_7 l0_8 a1_0 a1_1 a1_2 a1_3 a1_4 a1_5 a1_6 a1_7 l1_8 = some r) :
  Calls Tryd.prog 18 #[.agg #[.int .i64 a0_0, .int .i64 a0_1, .int .i64 a0_2, .int .i64 a0_3, .int .i64 a0_4, .string a0_5, .string a0_6, .string a0_7, .slice A0_8 l0_8.length c0_8], .agg #[.int .i64 a1_0, .int .i64 a1_1, .int .i64 a1_2, .int .i64 a1_3, .int .i64 a1_4, .string a1_5, .string a1_6, .string a1_7, .slice A1_8 l1_8.length c1_8]] w fun e w' => e = .returned (.bool r) ∧ Below w.heap.size w w' := by
 have hu31 := Tryd.underlying31; have hu28 := Tryd.underlying28; have HR0_8 := am hr0_8; have HC0_8 := am hc0_8; clear hr0_8 hc0_8; have HR1_8 := am hr1_8; have HC1_8 := am hc1_8; clear hr1_8 hc1_8; have HB := am (Below.refl w.heap.size w); have H : (if a0_0 = a1_0 then (if a0_1 = a1_1 then (if a0_2 = a1_2 then (if a0_3 = a1_3 then (if a0_4 = a1_4 then (if (a0_5.toList == a1_5.toList && (a0_6.toList == a1_6.toList && (a0_7.toList == a1_7.toList))) = true then ((slices_Equal_string_string.f k l0_8 l1_8).bind fun t210 => (some t210)) else (some false)) else (some false)) else (some false)) else (some false)) else (some false)) else (some false)) = some r := h; clear h
 by_cases c3 : a0_0 = a1_0
 ·rw [if_pos c3] at H
  have c3b0 : (a0_0 == a1_0) = true := beq_iff_eq.mpr c3; have c3b1 : (a0_0 != a1_0) = false := bne_eq_false_iff_eq.mpr c3; clear c3
  by_cases c4 : a0_1 = a1_1
  ·rw [if_pos c4] at H
   have c4b0 : (a0_1 == a1_1) = true := beq_iff_eq.mpr c4; have c4b1 : (a0_1 != a1_1) = false := bne_eq_false_iff_eq.mpr c4; clear c4
   by_cases c5 : a0_2 = a1_2
   ·rw [if_pos c5] at H
    have c5b0 : (a0_2 == a1_2) = true := beq_iff_eq.mpr c5; have c5b1 : (a0_2 != a1_2) = false := bne_eq_false_iff_eq.mpr c5; clear c5
    by_cases c6 : a0_3 = a1_3
    ·rw [if_pos c6] at H
     have c6b0 : (a0_3 == a1_3) = true := beq_iff_eq.mpr c6; have c6b1 : (a0_3 != a1_3) = false := bne_eq_false_iff_eq.mpr c6; clear c6
     by_cases c7 : a0_4 = a1_4
     ·rw [if_pos c7] at H
      have c7b0 : (a0_4 == a1_4) = true := beq_iff_eq.mpr c7; have c7b1 : (a0_4 != a1_4) = false := bne_eq_false_iff_eq.mpr c7; clear c7
      by_cases c8 : (a0_5.toList == a1_5.toList && (a0_6.toList == a1_6.toList && (a0_7.toList == a1_7.toList))) = true
      ·rw [if_pos c8] at H
       have c8b0 : (a0_5.toList == a1_5.toList && (a0_6.toList == a1_6.toList && (a0_7.toList == a1_7.toList))) = true := c8
       (try (have c8b1 : decide (a0_5.toList = a1_5.toList && (a0_6.toList == a1_6.toList && (a0_7.toList == a1_7.toList))) = true := by simpa using c8))
       (try (have c8b2 : (a0_5.toList == a1_5.toList && (a0_6.toList == a1_6.toList && (a0_7.toList == a1_7.toList))) = true := by simpa using c8))
       clear c8; replace H := obm H; obtain ⟨t210, A90, H⟩ := H; replace H : (some t210) = some r := H; have A9 := am A90; clear A90; obtain rfl := Option.some.inj H; simp only [Option.some.injEq, Prod.mk.injEq] at H; obtain ⟨rfl⟩ := H
       go_enter Tryd.func18, Tryd.ntmps18
       go_wp2_with (first | ((with_reducible refine gate_dst (N := 2) rfl ?_); refine box_event ?hg (N := 2) ?hd (cs := #[.int .i64 a0_0, .int .i64 a0_1, .int .i64 a0_2, .int .i64 a0_3, .int .i64 a0_4, .string a0_5, .string a0_6, .string a0_7, .slice A0_8 l0_8.length c0_8]) (t := 31) ?hr ?_; (case hd => rfl); (case hg => rfl); (case hr => first | (go_simp; done) | (go_simp; rfl)); intro gb208 hg w10 hbox hb; have _ := am (below_step (beu HB.out) hb); have _ := am (hbox); have _ := am ((by rw [hg]; exact (below_size (beu HB.out)) : w.heap.size ≤ gb208)); have _ := am ((by rw [hg]; exact (below_size (beu HB.out)) : w.heap.size ≤ gb208)); clear HB; rename_i HB BK208 GW208 GE208; clear hb hbox hg) | ((with_reducible refine gate_dst (N := 3) rfl ?_); refine box_event ?hg (N := 3) ?hd (cs := #[.int .i64 a1_0, .int .i64 a1_1, .int .i64 a1_2, .int .i64 a1_3, .int .i64 a1_4, .string a1_5, .string a1_6, .string a1_7, .slice A1_8 l1_8.length c1_8]) (t := 31) ?hr ?_; (case hd => rfl); (case hg => rfl); (case hr => first | (go_simp; done) | (go_simp; rfl)); intro gb209 hg w11 hbox hb; have _ := am (blk_below (bu BK208.out) hb); have _ := am (below_step (beu HB.out) hb); have _ := am (hbox); have _ := am ((by rw [hg]; exact (below_size (beu HB.out)) : w.heap.size ≤ gb209)); have _ := am ((by rw [hg]; exact (below_size (beu HB.out)) : w.heap.size ≤ gb209)); have _ := am (nb1 hg BK208.out : gb208 ≠ gb209); have _ := am (nb2 hg BK208.out : gb209 ≠ gb208); clear BK208 HB; rename_i BK208 HB BK209 GW209 GE209 NB208_209 NB209_208; clear hb hbox hg; have := NB208_209.out; have := NB209_208.out; obtain ⟨hcz13_0, hcz13_1, hcz13_2, hcz13_3, hcz13_4, hcz13_5, hcz13_6, hcz13_7, hcz13_8⟩ := cells9 BK208.out; obtain ⟨hfz13_0, hfz13_1, hfz13_2, hfz13_3, hfz13_4, hfz13_5, hfz13_6, hfz13_7, hfz13_8⟩ := frozens9 BK208.out; obtain ⟨_, _, _, _, _, _, _, _, _⟩ := cells9 BK209.out; obtain ⟨_, _, _, _, _, _, _, _, _⟩ := frozens9 BK209.out) | (go_at_call 41; (with_reducible refine (slices_Equal_string_string.calls k _ _ l0_8 _ _ l1_8 t210 _ ?side1 ?side2 ?side3 ?side4 A9.out).mono ?_); (case side1 => exact cu (Kd.C_below HR0_8.out HB.out)); (case side2 => exact HC0_8.out); (case side3 => exact cu (Kd.C_below HR1_8.out HB.out)); (case side4 => exact HC1_8.out); rintro e w' ⟨rfl, ⟨nd, rfl⟩⟩))
       go_ret
       exact ⟨ap4, beu HB.out⟩
      ·rw [if_neg c8] at H
       have c8b0 : (a0_5.toList == a1_5.toList && (a0_6.toList == a1_6.toList && (a0_7.toList == a1_7.toList))) = false := by simpa using c8
       (try (have c8b1 : decide (a0_5.toList = a1_5.toList && (a0_6.toList == a1_6.toList && (a0_7.toList == a1_7.toList))) = false := by simpa using c8))
       (try (have c8b2 : (a0_5.toList == a1_5.toList && (a0_6.toList == a1_6.toList && (a0_7.toList == a1_7.toList))) = false := by simpa using c8))
       (try (have c8b3 : ¬ (a0_5.toList = a1_5.toList && (a0_6.toList == a1_6.toList && (a0_7.toList == a1_7.toList))) := by simpa using c8))
       clear c8; obtain rfl := Option.some.inj H; simp only [Option.some.injEq, Prod.mk.injEq] at H; obtain ⟨rfl⟩ := H
       go_enter Tryd.func18, Tryd.ntmps18
       go_wp2_with (first | ((with_reducible refine gate_dst (N := 2) rfl ?_); refine box_event ?hg (N := 2) ?hd (cs := #[.int .i64 a0_0, .int .i64 a0_1, .int .i64 a0_2, .int .i64 a0_3, .int .i64 a0_4, .string a0_5, .string a0_6, .string a0_7, .slice A0_8 l0_8.length c0_8]) (t := 31) ?hr ?_; (case hd => rfl); (case hg => rfl); (case hr => first | (go_simp; done) | (go_simp; rfl)); intro gb208 hg w15 hbox hb; have _ := am (below_step (beu HB.out) hb); have _ := am (hbox); have _ := am ((by rw [hg]; exact (below_size (beu HB.out)) : w.heap.size ≤ gb208)); have _ := am ((by rw [hg]; exact (below_size (beu HB.out)) : w.heap.size ≤ gb208)); clear HB; rename_i HB BK208 GW208 GE208; clear hb hbox hg) | ((with_reducible refine gate_dst (N := 3) rfl ?_); refine box_event ?hg (N := 3) ?hd (cs := #[.int .i64 a1_0, .int .i64 a1_1, .int .i64 a1_2, .int .i64 a1_3, .int .i64 a1_4, .string a1_5, .string a1_6, .string a1_7, .slice A1_8 l1_8.length c1_8]) (t := 31) ?hr ?_; (case hd => rfl); (case hg => rfl); (case hr => first | (go_simp; done) | (go_simp; rfl)); intro gb209 hg w16 hbox hb; have _ := am (blk_below (bu BK208.out) hb); have _ := am (below_step (beu HB.out) hb); have _ := am (hbox); have _ := am ((by rw [hg]; exact (below_size (beu HB.out)) : w.heap.size ≤ gb209)); have _ := am ((by rw [hg]; exact (below_size (beu HB.out)) : w.heap.size ≤ gb209)); have _ := am (nb1 hg BK208.out : gb208 ≠ gb209); have _ := am (nb2 hg BK208.out : gb209 ≠ gb208); clear BK208 HB; rename_i BK208 HB BK209 GW209 GE209 NB208_209 NB209_208; clear hb hbox hg; have := NB208_209.out; have := NB209_208.out; obtain ⟨hcz18_0, hcz18_1, hcz18_2, hcz18_3, hcz18_4, hcz18_5, hcz18_6, hcz18_7, hcz18_8⟩ := cells9 BK208.out; obtain ⟨hfz18_0, hfz18_1, hfz18_2, hfz18_3, hfz18_4, hfz18_5, hfz18_6, hfz18_7, hfz18_8⟩ := frozens9 BK208.out; obtain ⟨hcz19_0, hcz19_1, hcz19_2, hcz19_3, hcz19_4, hcz19_5, hcz19_6, hcz19_7, hcz19_8⟩ := cells9 BK209.out; obtain ⟨hfz19_0, hfz19_1, hfz19_2, hfz19_3, hfz19_4, hfz19_5, hfz19_6, hfz19_7, hfz19_8⟩ := frozens9 BK209.out))
       go_ret
       exact ⟨ap4, beu HB.out⟩
     ·rw [if_neg c7] at H
      have c7b0 : (a0_4 == a1_4) = false := beq_eq_false_iff_ne.mpr c7; have c7b1 : (a0_4 != a1_4) = true := bne_iff_ne.mpr c7; obtain rfl := Option.some.inj H; simp only [Option.some.injEq, Prod.mk.injEq] at H; obtain ⟨rfl⟩ := H
      go_enter Tryd.func18, Tryd.ntmps18
      go_wp2_with (first | ((with_reducible refine gate_dst (N := 2) rfl ?_); refine box_event ?hg (N := 2) ?hd (cs := #[.int .i64 a0_0, .int .i64 a0_1, .int .i64 a0_2, .int .i64 a0_3, .int .i64 a0_4, .string a0_5, .string a0_6, .string a0_7, .slice A0_8 l0_8.length c0_8]) (t := 31) ?hr ?_; (case hd => rfl); (case hg => rfl); (case hr => first | (go_simp; done) | (go_simp; rfl)); intro gb208 hg w20 hbox hb; have _ := am (below_step (beu HB.out) hb); have _ := am (hbox); have _ := am ((by rw [hg]; exact (below_size (beu HB.out)) : w.heap.size ≤ gb208)); have _ := am ((by rw [hg]; exact (below_size (beu HB.out)) : w.heap.size ≤ gb208)); clear HB; rename_i HB BK208 GW208 GE208; clear hb hbox hg) | ((with_reducible refine gate_dst (N := 3) rfl ?_); refine box_event ?hg (N := 3) ?hd (cs := #[.int .i64 a1_0, .int .i64 a1_1, .int .i64 a1_2, .int .i64 a1_3, .int .i64 a1_4, .string a1_5, .string a1_6, .string a1_7, .slice A1_8 l1_8.length c1_8]) (t := 31) ?hr ?_; (case hd => rfl); (case hg => rfl); (case hr => first | (go_simp; done) | (go_simp; rfl)); intro gb209 hg w21 hbox hb; have _ := am (blk_below (bu BK208.out) hb); have _ := am (below_step (beu HB.out) hb); have _ := am (hbox); have _ := am ((by rw [hg]; exact (below_size (beu HB.out)) : w.heap.size ≤ gb209)); have _ := am ((by rw [hg]; exact (below_size (beu HB.out)) : w.heap.size ≤ gb209)); have _ := am (nb1 hg BK208.out : gb208 ≠ gb209); have _ := am (nb2 hg BK208.out : gb209 ≠ gb208); clear BK208 HB; rename_i BK208 HB BK209 GW209 GE209 NB208_209 NB209_208; clear hb hbox hg; have hnb22 := NB208_209.out; have hnc22 := NB209_208.out; obtain ⟨hcz23_0, hcz23_1, hcz23_2, hcz23_3, hcz23_4, hcz23_5, hcz23_6, hcz23_7, hcz23_8⟩ := cells9 BK208.out; obtain ⟨hfz23_0, hfz23_1, hfz23_2, hfz23_3, hfz23_4, hfz23_5, hfz23_6, hfz23_7, hfz23_8⟩ := frozens9 BK208.out; obtain ⟨hcz24_0, hcz24_1, hcz24_2, hcz24_3, hcz24_4, hcz24_5, hcz24_6, hcz24_7, hcz24_8⟩ := cells9 BK209.out; obtain ⟨hfz24_0, hfz24_1, hfz24_2, hfz24_3, hfz24_4, hfz24_5, hfz24_6, hfz24_7, hfz24_8⟩ := frozens9 BK209.out))
      go_ret
      exact ⟨ap4, beu HB.out⟩
    ·rw [if_neg c6] at H
     have c6b0 : (a0_3 == a1_3) = false := beq_eq_false_iff_ne.mpr c6; have c6b1 : (a0_3 != a1_3) = true := bne_iff_ne.mpr c6; obtain rfl := Option.some.inj H; simp only [Option.some.injEq, Prod.mk.injEq] at H; obtain ⟨rfl⟩ := H
     go_enter Tryd.func18, Tryd.ntmps18
     go_wp2_with (first | ((with_reducible refine gate_dst (N := 2) rfl ?_); refine box_event ?hg (N := 2) ?hd (cs := #[.int .i64 a0_0, .int .i64 a0_1, .int .i64 a0_2, .int .i64 a0_3, .int .i64 a0_4, .string a0_5, .string a0_6, .string a0_7, .slice A0_8 l0_8.length c0_8]) (t := 31) ?hr ?_; (case hd => rfl); (case hg => rfl); (case hr => first | (go_simp; done) | (go_simp; rfl)); intro gb208 hg w25 hbox hb; have _ := am (below_step (beu HB.out) hb); have _ := am (hbox); have _ := am ((by rw [hg]; exact (below_size (beu HB.out)) : w.heap.size ≤ gb208)); have _ := am ((by rw [hg]; exact (below_size (beu HB.out)) : w.heap.size ≤ gb208)); clear HB; rename_i HB BK208 GW208 GE208; clear hb hbox hg) | ((with_reducible refine gate_dst (N := 3) rfl ?_); refine box_event ?hg (N := 3) ?hd (cs := #[.int .i64 a1_0, .int .i64 a1_1, .int .i64 a1_2, .int .i64 a1_3, .int .i64 a1_4, .string a1_5, .string a1_6, .string a1_7, .slice A1_8 l1_8.length c1_8]) (t := 31) ?hr ?_; (case hd => rfl); (case hg => rfl); (case hr => first | (go_simp; done) | (go_simp; rfl)); intro gb209 hg w26 hbox hb; have _ := am (blk_below (bu BK208.out) hb); have _ := am (below_step (beu HB.out) hb); have _ := am (hbox); have _ := am ((by rw [hg]; exact (below_size (beu HB.out)) : w.heap.size ≤ gb209)); have _ := am ((by rw [hg]; exact (below_size (beu HB.out)) : w.heap.size ≤ gb209)); have _ := am (nb1 hg BK208.out : gb208 ≠ gb209); have _ := am (nb2 hg BK208.out : gb209 ≠ gb208); clear BK208 HB; rename_i BK208 HB BK209 GW209 GE209 NB208_209 NB209_208; clear hb hbox hg; have := NB208_209.out; have := NB209_208.out; obtain ⟨hcz28_0, hcz28_1, hcz28_2, hcz28_3, hcz28_4, hcz28_5, hcz28_6, hcz28_7, hcz28_8⟩ := cells9 BK208.out; obtain ⟨hfz28_0, hfz28_1, hfz28_2, hfz28_3, hfz28_4, hfz28_5, hfz28_6, hfz28_7, hfz28_8⟩ := frozens9 BK208.out; obtain ⟨_, _, _, _, _, _, _, _, _⟩ := cells9 BK209.out; obtain ⟨_, _, _, _, _, _, _, _, _⟩ := frozens9 BK209.out))
     go_ret
     exact ⟨ap4, beu HB.out⟩
   ·rw [if_neg c5] at H
    have c5b0 : (a0_2 == a1_2) = false := beq_eq_false_iff_ne.mpr c5; have c5b1 : (a0_2 != a1_2) = true := bne_iff_ne.mpr c5; obtain rfl := Option.some.inj H; simp only [Option.some.injEq, Prod.mk.injEq] at H; obtain ⟨rfl⟩ := H
    go_enter Tryd.func18, Tryd.ntmps18
    go_wp2_with (first | ((with_reducible refine gate_dst (N := 2) rfl ?_); refine box_event ?hg (N := 2) ?hd (cs := #[.int .i64 a0_0, .int .i64 a0_1, .int .i64 a0_2, .int .i64 a0_3, .int .i64 a0_4, .string a0_5, .string a0_6, .string a0_7, .slice A0_8 l0_8.length c0_8]) (t := 31) ?hr ?_; (case hd => rfl); (case hg => rfl); (case hr => first | (go_simp; done) | (go_simp; rfl)); intro gb208 hg w30 hbox hb; have _ := am (below_step (beu HB.out) hb); have _ := am (hbox); have _ := am ((by rw [hg]; exact (below_size (beu HB.out)) : w.heap.size ≤ gb208)); have _ := am ((by rw [hg]; exact (below_size (beu HB.out)) : w.heap.size ≤ gb208)); clear HB; rename_i HB BK208 GW208 GE208; clear hb hbox hg) | ((with_reducible refine gate_dst (N := 3) rfl ?_); refine box_event ?hg (N := 3) ?hd (cs := #[.int .i64 a1_0, .int .i64 a1_1, .int .i64 a1_2, .int .i64 a1_3, .int .i64 a1_4, .string a1_5, .string a1_6, .string a1_7, .slice A1_8 l1_8.length c1_8]) (t := 31) ?hr ?_; (case hd => rfl); (case hg => rfl); (case hr => first | (go_simp; done) | (go_simp; rfl)); intro gb209 hg w31 hbox hb; have _ := am (blk_below (bu BK208.out) hb); have _ := am (below_step (beu HB.out) hb); have _ := am (hbox); have _ := am ((by rw [hg]; exact (below_size (beu HB.out)) : w.heap.size ≤ gb209)); have _ := am ((by rw [hg]; exact (below_size (beu HB.out)) : w.heap.size ≤ gb209)); have _ := am (nb1 hg BK208.out : gb208 ≠ gb209); have _ := am (nb2 hg BK208.out : gb209 ≠ gb208); clear BK208 HB; rename_i BK208 HB BK209 GW209 GE209 NB208_209 NB209_208; clear hb hbox hg; have := NB208_209.out; have := NB209_208.out; obtain ⟨_, _, _, _, _, _, _, _, _⟩ := cells9 BK208.out; obtain ⟨_, _, _, _, _, _, _, _, _⟩ := frozens9 BK208.out; obtain ⟨hcz34_0, hcz34_1, hcz34_2, hcz34_3, hcz34_4, hcz34_5, hcz34_6, hcz34_7, hcz34_8⟩ := cells9 BK209.out; obtain ⟨hfz34_0, hfz34_1, hfz34_2, hfz34_3, hfz34_4, hfz34_5, hfz34_6, hfz34_7, hfz34_8⟩ := frozens9 BK209.out))
    go_ret
    exact ⟨ap4, beu HB.out⟩
  ·rw [if_neg c4] at H
   have c4b0 : (a0_1 == a1_1) = false := beq_eq_false_iff_ne.mpr c4; have c4b1 : (a0_1 != a1_1) = true := bne_iff_ne.mpr c4; obtain rfl := Option.some.inj H; simp only [Option.some.injEq, Prod.mk.injEq] at H; obtain ⟨rfl⟩ := H
   go_enter Tryd.func18, Tryd.ntmps18
   go_wp2_with (first | ((with_reducible refine gate_dst (N := 2) rfl ?_); refine box_event ?hg (N := 2) ?hd (cs := #[.int .i64 a0_0, .int .i64 a0_1, .int .i64 a0_2, .int .i64 a0_3, .int .i64 a0_4, .string a0_5, .string a0_6, .string a0_7, .slice A0_8 l0_8.length c0_8]) (t := 31) ?hr ?_; (case hd => rfl); (case hg => rfl); (case hr => first | (go_simp; done) | (go_simp; rfl)); intro gb208 hg w35 hbox hb; have _ := am (below_step (beu HB.out) hb); have _ := am (hbox); have _ := am ((by rw [hg]; exact (below_size (beu HB.out)) : w.heap.size ≤ gb208)); have _ := am ((by rw [hg]; exact (below_size (beu HB.out)) : w.heap.size ≤ gb208)); clear HB; rename_i HB BK208 GW208 GE208; clear hb hbox hg) | ((with_reducible refine gate_dst (N := 3) rfl ?_); refine box_event ?hg (N := 3) ?hd (cs := #[.int .i64 a1_0, .int .i64 a1_1, .int .i64 a1_2, .int .i64 a1_3, .int .i64 a1_4, .string a1_5, .string a1_6, .string a1_7, .slice A1_8 l1_8.length c1_8]) (t := 31) ?hr ?_; (case hd => rfl); (case hg => rfl); (case hr => first | (go_simp; done) | (go_simp; rfl)); intro gb209 hg w36 hbox hb; have _ := am (blk_below (bu BK208.out) hb); have _ := am (below_step (beu HB.out) hb); have _ := am (hbox); have _ := am ((by rw [hg]; exact (below_size (beu HB.out)) : w.heap.size ≤ gb209)); have _ := am ((by rw [hg]; exact (below_size (beu HB.out)) : w.heap.size ≤ gb209)); have _ := am (nb1 hg BK208.out : gb208 ≠ gb209); have _ := am (nb2 hg BK208.out : gb209 ≠ gb208); clear BK208 HB; rename_i BK208 HB BK209 GW209 GE209 NB208_209 NB209_208; clear hb hbox hg; have := NB208_209.out; have := NB209_208.out; obtain ⟨_, _, _, _, _, _, _, _, _⟩ := cells9 BK208.out; obtain ⟨_, _, _, _, _, _, _, _, _⟩ := frozens9 BK208.out; obtain ⟨hcz39_0, hcz39_1, hcz39_2, hcz39_3, hcz39_4, hcz39_5, hcz39_6, hcz39_7, hcz39_8⟩ := cells9 BK209.out; obtain ⟨hfz39_0, hfz39_1, hfz39_2, hfz39_3, hfz39_4, hfz39_5, hfz39_6, hfz39_7, hfz39_8⟩ := frozens9 BK209.out))
   go_ret
   exact ⟨ap4, beu HB.out⟩
 ·rw [if_neg c3] at H
  have c3b0 : (a0_0 == a1_0) = false := beq_eq_false_iff_ne.mpr c3; have c3b1 : (a0_0 != a1_0) = true := bne_iff_ne.mpr c3; obtain rfl := Option.some.inj H; simp only [Option.some.injEq, Prod.mk.injEq] at H; obtain ⟨rfl⟩ := H
  go_enter Tryd.func18, Tryd.ntmps18
  go_wp2_with (first | ((with_reducible refine gate_dst (N := 2) rfl ?_); refine box_event ?hg (N := 2) ?hd (cs := #[.int .i64 a0_0, .int .i64 a0_1, .int .i64 a0_2, .int .i64 a0_3, .int .i64 a0_4, .string a0_5, .string a0_6, .string a0_7, .slice A0_8 l0_8.length c0_8]) (t := 31) ?hr ?_; (case hd => rfl); (case hg => rfl); (case hr => first | (go_simp; done) | (go_simp; rfl)); intro gb208 hg w40 hbox hb; have _ := am (below_step (beu HB.out) hb); have _ := am (hbox); have _ := am ((by rw [hg]; exact (below_size (beu HB.out)) : w.heap.size ≤ gb208)); have _ := am ((by rw [hg]; exact (below_size (beu HB.out)) : w.heap.size ≤ gb208)); clear HB; rename_i HB BK208 GW208 GE208; clear hb hbox hg) | ((with_reducible refine gate_dst (N := 3) rfl ?_); refine box_event ?hg (N := 3) ?hd (cs := #[.int .i64 a1_0, .int .i64 a1_1, .int .i64 a1_2, .int .i64 a1_3, .int .i64 a1_4, .string a1_5, .string a1_6, .string a1_7, .slice A1_8 l1_8.length c1_8]) (t := 31) ?hr ?_; (case hd => rfl); (case hg => rfl); (case hr => first | (go_simp; done) | (go_simp; rfl)); intro gb209 hg w41 hbox hb; have _ := am (blk_below (bu BK208.out) hb); have _ := am (below_step (beu HB.out) hb); have _ := am (hbox); have _ := am ((by rw [hg]; exact (below_size (beu HB.out)) : w.heap.size ≤ gb209)); have _ := am ((by rw [hg]; exact (below_size (beu HB.out)) : w.heap.size ≤ gb209)); have _ := am (nb1 hg BK208.out : gb208 ≠ gb209); have _ := am (nb2 hg BK208.out : gb209 ≠ gb208); clear BK208 HB; rename_i BK208 HB BK209 GW209 GE209 NB208_209 NB209_208; clear hb hbox hg; have := NB208_209.out; have := NB209_208.out; obtain ⟨_, _, _, _, _, _, _, _, _⟩ := cells9 BK208.out; obtain ⟨_, _, _, _, _, _, _, _, _⟩ := frozens9 BK208.out; obtain ⟨hcz44_0, hcz44_1, hcz44_2, hcz44_3, hcz44_4, hcz44_5, hcz44_6, hcz44_7, hcz44_8⟩ := cells9 BK209.out; obtain ⟨hfz44_0, hfz44_1, hfz44_2, hfz44_3, hfz44_4, hfz44_5, hfz44_6, hfz44_7, hfz44_8⟩ := frozens9 BK209.out))
  go_ret
  exact ⟨ap4, beu HB.out⟩
set_option maxHeartbeats 4000000 in
set_option maxRecDepth 100000 in
theorem slices_Grow_nil (n : Int) (h0 : 0 ≤ n) (hn : n < 8796093022208) (w : World) :
  Calls Tryd.prog 59 #[.slice none 0 0, .int .i64 n] w fun e w' => ∃ v0_ : Value, e = .returned v0_ ∧ Kd.R Kd.string 9 w' w.heap.size (fun _ => True) v0_ [] ∧ Below w.heap.size w w' := by
 have i1 : ¬ n < 0 := by omega
 have i2 : decide (n < 0) = false := decide_eq_false i1
 have hw : wrap64 n = n := by unfold wrap64; omega
 obtain ⟨i0, hi0, hzz⟩ := Option.map_eq_some_iff.1 info9; have hcut0 := cut_to (P := Tryd.prog) 29 9 .i64 Tryd.underlying29 hi0 none 0 0 0 (by omega) (by omega) (by omega)
 have hbt : (Tryd.t9.bytes : Int) = 16 := by kernel_rfl
 have hng : ¬ (281474976710656 < n * 16) := by omega
 have hng2 : ¬ (281474976710656 < n * (Tryd.t9.bytes : Int)) := by rw [hbt]; omega
 have hng3 : ¬ 281474976710656 < Builtin.nextslicecap n.toNat 0 * Tryd.t9.bytes := by
  have hb : Tryd.t9.bytes = 16 := by kernel_rfl
  have : Builtin.nextslicecap n.toNat 0 ≤ n.toNat + 0 := by
   unfold Builtin.nextslicecap
   repeat' split
   all_goals omega
  rw [hb]; omega
 by_cases c : 0 < n
 ·have LM := am hn
  have LZ := am h0; clear hn
  go_enter Tryd.func59, Tryd.ntmps59
  go_wp2_with fail
  go_ret
  refine ⟨_, rfl, ?_, ?_⟩
  ·have g1 := grownCap_ge w n.toNat 0 9
   have g2 := grownCap_le_maxLen w n.toNat 0 9 (by unfold maxLen; have := LM.out; omega); refine Kd.R_of_own (xs := []) (h1 := fun _ => rfl) ⟨rfl, .inr ⟨w.heap.size, _, _, rfl, Nat.le_refl _, heap_alloc_new w _, Nat.zero_le _, g2, ?_, rfl⟩⟩ (fun _ _ => trivial)
   unfold grownCap at g1
   rw [Array.size_append, size_zeroCells, size_zeroCells]; simp
   omega
  ·exact ((Below.refl _ _).alloc (Nat.le_refl _) _).drew
 ·obtain rfl : n = 0 := by omega
  have c2 : decide ((0 : Int) < 0) = false := rfl
  go_enter Tryd.func59, Tryd.ntmps59
  go_wp2_with fail
  go_ret
  exact ⟨_, rfl, Kd.R_nil _ _ _ _ _, Below.refl _ _⟩
def slices_Concat_string_string.f (a0 : List (List ByteArray)) : Option (List ByteArray) := if a0.flatten.length < 8796093022208 then some a0.flatten else none
theorem flat_step (l : List (List ByteArray)) (i : Nat) (h : i < l.length) : (l.take (i + 1)).flatten = (l.take i).flatten ++ l.getD i [] := by
 rw [List.take_succ_eq_append_getElem h, List.flatten_append, List.getD_eq_getElem?_getD, List.getElem?_eq_getElem h]; simp
theorem flat_le (l : List (List ByteArray)) (i : Nat) : (l.take i).flatten.length ≤ l.flatten.length := by
 conv => rhs; rw [← List.take_append_drop i l, List.flatten_append, List.length_append]
 omega
set_option maxHeartbeats 8000000 in
set_option maxRecDepth 100000 in
theorem slices_Concat_string_string.calls (A0 : Option Addr) (c0 : Nat) (l0 : List (List ByteArray)) (r : List ByteArray) (w : World) (hr0 : Kd.C (Kd.slice 9 Kd.string) w A0 l0.length l0) (hc0 : l0.length ≤ c0) (h : slices_Concat_string_string.f l0 = some r) :
  Calls Tryd.prog 45 #[.slice A0 l0.length c0] w fun e w' => ∃ v0_ : Value, e = .returned (v0_) ∧ Kd.R Kd.string 9 w' w.heap.size (fun _ => True) v0_ r ∧ Below w.heap.size w w' := by
 have hl : l0.flatten.length < 8796093022208 := by
  by_cases c : l0.flatten.length < 8796093022208
  ·exact c
  ·rw [slices_Concat_string_string.f, if_neg c] at h; cases h
 obtain rfl : l0.flatten = r := by rw [slices_Concat_string_string.f, if_pos hl] at h; exact Option.some.inj h
 clear h; have hlen : l0.length ≤ 9223372036854775807 := hr0.2.1; have HL := am hl; clear hl; have HC := am hr0; clear hr0
 have elem : ∀ (i : Nat), i < l0.length → ∃ ad A1 c1, A0 = some ad ∧ w.cell? (ad.add i) = some (.slice A1 (l0.getD i []).length c1) ∧ (l0.getD i []).length ≤ c1 ∧ Kd.string.C w A1 (l0.getD i []).length (l0.getD i []) := by
  intro i hi; obtain ⟨ad, c, hA, _, hK, hx⟩ := Kd.C_get HC.out [] (i : Int) (by omega) (by omega); rw [Int.toNat_natCast] at hK hx; obtain ⟨A1, c1, hc, hle, hC1⟩ := hK; have := hx 0 _ (by rw [hc]; rfl); exact ⟨ad, A1, c1, hA, by simpa [Kd.slice] using this, hle, hC1⟩
 have EL := am elem; clear elem
 go_enter Tryd.func45, Tryd.ntmps45
 go_wp2
 go_loopg [3, 11] l0.length (fun g s3 s11 wx => ∃ i : Nat, i + g = l0.length ∧ s3 = .int .i64 (((l0.take i).flatten.length : Nat) : Int) ∧ s11 = .int .i64 (i : Int) ∧ w = wx)
 case atStart => exact ⟨0, by omega, by simp, rfl, rfl⟩
 case round =>
  obtain ⟨i, hig, rfl, rfl, rfl⟩ := hrel
  cases gk with
  | zero =>
   obtain rfl : i = l0.length := by omega
   have hlt : ¬ ((l0.length : Int) < (l0.length : Int)) := by omega
   rw [List.take_length]; generalize hS : l0.flatten.length = S; have hG := am (slices_Grow_nil (S : Int) (by omega) (by have := HL.out; omega))
   go_wp2_with (go_at_call 59; refine (hG.out _).mono ?_; rintro e w1 ⟨v1, rfl, hR1, hB1⟩; have HR1 := am hR1; have HB1 := am hB1; clear hR1 hB1)
   go_loopg [6, 27] l0.length (fun g s6 s27 wx => ∃ (i : Nat) (v : Value), i + g = l0.length ∧ s27 = .int .i64 (i : Int) ∧ s6 = v ∧ Aside0 (Kd.R Kd.string 9 wx w.heap.size (fun _ => True) v (l0.take i).flatten) ∧ Aside0 (Below w.heap.size w wx))
   case atStart => exact ⟨0, v1, by omega, rfl, rfl, HR1, HB1⟩
   case round =>
    clear HR1 HB1; obtain ⟨i, v, hig2, rfl, rfl, HR2, HB2⟩ := hrel
    cases gk with
    | zero =>
     obtain rfl : i = l0.length := by omega
     go_wp2
     go_ret
     exact ⟨_, rfl, by have := HR2.out; rw [List.take_length] at this; exact this, HB2.out⟩
    | succ g =>
     have hi : i < l0.length := by omega
     obtain ⟨ad, A1, c1, rfl, hcell0, hle, hC1⟩ := EL.out i hi; have hstep := flat_step l0 i hi; have hS1 := flat_le l0 (i + 1)
     have hlt : (i : Int) < (l0.length : Int) := by omega
     have hcell := (HB2.out.cell (World.block_lt_of_cell? w _ hcell0)).trans hcell0; have HC1 := am (Kd.C_below hC1 HB2.out); rw [hstep, List.length_append] at hS1; have HS1 := am hS1; have HST := am hstep; clear hcell0 hC1 hS1 hstep; generalize (l0.getD i []) = x at hcell hle HC1 HS1 HST; generalize hT : (l0.take i).flatten = T at HR2 HS1 HST
     go_wp2_with ((with_reducible refine gate_builtin (b := .append) (xs := #[.tmp 31, .tmp 32]) rfl ?_); at_builtin; refine Kd.R_append_rows Kd.string (w0 := w) w.heap.size rfl (.tmp 31) (.tmp 32) 29 9 (.string ⟨#[]⟩) 16 rfl Tryd.underlying29 info9 rfl (by decide) (by omega) _ T x _ _ _ (fun _ => True) (fun _ => False) rfl rfl ?aO ?aR (fun _ _ h => h) (fun _ h => h.elim) ?aF ?aB ?aS ?aL ?_; (case aR => exact HC1.out); (case aB => exact HB2.out); (case aF => exact (fun _ _ => trivial)); (case aO => exact HR2.out); (case aS => exact HB2.out.size); (case aL => have h1_ := HL.out; have h2_ := HS1.out; omega); intro v2 w2 ho hb hg hat; have HO2 := am ho; have HB3 := am hb; clear ho hb hg hat)
     go_roundg g
     case measure => omega
     case rel => exact ⟨i + 1, v2, by omega, rfl, rfl, ⟨by rw [HST.out]; exact HO2.out⟩, HB3⟩
  | succ g =>
   have hi : i < l0.length := by omega
   obtain ⟨ad, A1, c1, rfl, hcell, hle, hC1⟩ := EL.out i hi; have hstep := flat_step l0 i hi; have hS := flat_le l0 i; have hS1 := flat_le l0 (i + 1)
   have hsum : ((l0.take (i + 1)).flatten.length : Int) = ((l0.take i).flatten.length : Int) + ((l0.getD i []).length : Int) := by rw [hstep, List.length_append]; omega
   have hlt : (i : Int) < (l0.length : Int) := by omega
   generalize (l0.getD i []) = x at hcell hle hC1 hsum; generalize hT : (l0.take i).flatten.length = T at hS hsum
   have hneg : ¬ ((T : Int) + (x.length : Int) < 0) := by omega
   have hw : wrap64 ((T : Int) + (x.length : Int)) = (T : Int) + (x.length : Int) := by have := HL.out; unfold wrap64; omega
   clear hstep hS hS1 hC1
   go_wp2
   go_roundg g
   case measure => clear hw; omega
   case rel => exact ⟨i + 1, by clear hw; omega, by rw [hsum], rfl, rfl⟩
def batch_Evict.f (k : Nat) (a0_0 : Int) (a0_1 : Int) (a0_2 : Int) (a0_3 : Int) (a0_4 : Int) (a0_5 : ByteArray) (a0_6 : ByteArray) (a0_7 : ByteArray) (l0_8 : List ByteArray) (a1 : ByteArray) (a2 : Int) : Option (Int × Int × Int × Int × Int × ByteArray × ByteArray × ByteArray × List ByteArray × Int) := (slices_Index_string_string.f k l0_8 a1).bind fun t213 => (if a0_4 = 1 then (if t213 < 0 then (some (a0_0, a0_1, a0_2, a0_3, a0_4, a0_5, a0_6, a0_7, l0_8, 112)) else (if 0 ≤ t213 then (if t213 ≤ (l0_8.length : Int) then (if 0 ≤ (wrap64 (t213 + 1)) then (if (wrap64 (t213 + 1)) ≤ (l0_8.length : Int) then ((slices_Concat_string_string.f (([(l0_8.take (t213 : Int).toNat), (l0_8.drop ((wrap64 (t213 + 1)) : Int).toNat)] : List (List ByteArray)))).bind fun t227 => (some (a0_0, mx (wrap64 (a0_1 - a2)) 0, a0_2, a0_3, a0_4, a0_5, a0_6, a0_7, t227, 0))) else (none)) else (none)) else (none)) else (none))) else (some (a0_0, a0_1, a0_2, a0_3, a0_4, a0_5, a0_6, a0_7, l0_8, 113)))
def batch_Evict.T6 : Bool × List (List Nat × List Nat) := (true, [([], []), ([0], [0]), ([], []), ([1, 2], [1, 2]), ([], []), ([4], [4]), ([], []), ([6], [6]), ([5, 7], [5, 7]), ([3, 8], [3, 8]), ([9], [9]), ([0, 1, 2, 3, 4, 5, 6, 7, 8, 9, 10], []), ([11, 10, 10, 0, 1, 2, 3, 4, 5, 6, 7, 8, 9, 10], [10, 11])])
def batch_Evict.B6 : List Nat := [0, 1, 0, 7, 0, 16, 0, 64, 240, 511, 1023, 2047, 4095]
theorem batch_Evict.tab6 : rtab .any (opsOf Tryd.f22 6) = batch_Evict.T6 := by kernel_rfl
theorem batch_Evict.bits6 : waitsOk batch_Evict.T6.2 batch_Evict.B6 = true := by kernel_rfl
set_option maxHeartbeats 8000000 in
set_option maxRecDepth 100000 in
theorem batch_Evict.calls (k : Nat) (a0_0 : Int) (a0_1 : Int) (a0_2 : Int) (a0_3 : Int) (a0_4 : Int) (a0_5 : ByteArray) (a0_6 : ByteArray) (a0_7 : ByteArray) (P0_8_ : Nat → Prop) (A0_8 : Option Addr) (c0_8 : Nat) (l0_8 : List ByteArray) (a1 : ByteArray) (a2 : Int) (r1 : Int) (r2 : Int) (r3 : Int) (r4 : Int) (r5 : Int) (r6 : ByteArray) (r7 : ByteArray) (r8 : ByteArray) (r9 : List ByteArray) (r10 : Int) (w : World) (hs0_8 : Kd.V Kd.string 9 w w.heap.size (fun k_ => P0_8_ k_) (.slice A0_8 l0_8.length c0_8) l0_8) (h : batch_Evict.f k a0_0 a0_1 a0_2 a0_3 a0_4 a0_5 a0_6 a0_7 l0_8 a1 a2 = some (r1, r2, r3, r4, r5, r6, r7, r8, r9, r10)) :
  Calls Tryd.prog 22 #[.agg #[.int .i64 a0_0, .int .i64 a0_1, .int .i64 a0_2, .int .i64 a0_3, .int .i64 a0_4, .string a0_5, .string a0_6, .string a0_7, .slice A0_8 l0_8.length c0_8], .string a1, .int .i64 a2] w fun e w' => ∃ v8_ : Value, e = .returned (.tuple #[.agg #[.int .i64 r1, .int .i64 r2, .int .i64 r3, .int .i64 r4, .int .i64 r5, .string r6, .string r7, .string r8, v8_], .int .i64 r10]) ∧ Kd.V Kd.string 9 w' w.heap.size (fun k_ => (P0_8_ k_ ∨ w.heap.size ≤ k_)) v8_ r9 ∧ Below w.heap.size w w' := by
 have hu31 := Tryd.underlying31; have HO0_8 := am (show Kd.V Kd.string 9 w w.heap.size (fun k_ => (P0_8_ k_ ∨ w.heap.size ≤ k_)) (.slice A0_8 l0_8.length c0_8) l0_8 from Kd.V_mono hs0_8 (fun k_ hk => .inl hk)); have HB := am (Below.refl w.heap.size w); have H : ((slices_Index_string_string.f k l0_8 a1).bind fun t213 => (if a0_4 = 1 then (if t213 < 0 then (some (a0_0, a0_1, a0_2, a0_3, a0_4, a0_5, a0_6, a0_7, l0_8, 112)) else (if 0 ≤ t213 then (if t213 ≤ (l0_8.length : Int) then (if 0 ≤ (wrap64 (t213 + 1)) then (if (wrap64 (t213 + 1)) ≤ (l0_8.length : Int) then ((slices_Concat_string_string.f (([(l0_8.take (t213 : Int).toNat), (l0_8.drop ((wrap64 (t213 + 1)) : Int).toNat)] : List (List ByteArray)))).bind fun t227 => (some (a0_0, mx (wrap64 (a0_1 - a2)) 0, a0_2, a0_3, a0_4, a0_5, a0_6, a0_7, t227, 0))) else (none)) else (none)) else (none)) else (none))) else (some (a0_0, a0_1, a0_2, a0_3, a0_4, a0_5, a0_6, a0_7, l0_8, 113)))) = some (r1, r2, r3, r4, r5, r6, r7, r8, r9, r10) := h; clear h; replace H := obm H; obtain ⟨t213, A40, H⟩ := H; replace H : (if a0_4 = 1 then (if t213 < 0 then (some (a0_0, a0_1, a0_2, a0_3, a0_4, a0_5, a0_6, a0_7, l0_8, 112)) else (if 0 ≤ t213 then (if t213 ≤ (l0_8.length : Int) then (if 0 ≤ (wrap64 (t213 + 1)) then (if (wrap64 (t213 + 1)) ≤ (l0_8.length : Int) then ((slices_Concat_string_string.f (([(l0_8.take (t213 : Int).toNat), (l0_8.drop ((wrap64 (t213 + 1)) : Int).toNat)] : List (List ByteArray)))).bind fun t227 => (some (a0_0, mx (wrap64 (a0_1 - a2)) 0, a0_2, a0_3, a0_4, a0_5, a0_6, a0_7, t227, 0))) else (none)) else (none)) else (none)) else (none))) else (some (a0_0, a0_1, a0_2, a0_3, a0_4, a0_5, a0_6, a0_7, l0_8, 113))) = some (r1, r2, r3, r4, r5, r6, r7, r8, r9, r10) := H; have A4 := am A40; clear A40
 by_cases c5 : a0_4 = 1
 ·rw [if_pos c5] at H
  have c5b0 : (a0_4 == 1) = true := beq_iff_eq.mpr c5; have c5b1 : (a0_4 != 1) = false := bne_eq_false_iff_eq.mpr c5; clear c5
  by_cases c6 : t213 < 0
  ·rw [if_pos c6] at H
   have c6b0 : decide (t213 < 0) = true := decide_eq_true c6; clear c6; simp only [Option.some.injEq, Prod.mk.injEq] at H; obtain ⟨rfl, rfl, rfl, rfl, rfl, rfl, rfl, rfl, rfl, rfl⟩ := H
   go_enter Tryd.func22, Tryd.ntmps22
   go_wp2_with (first | ((with_reducible refine gate_dst (N := 3) rfl ?_); refine box_event ?hg (N := 3) ?hd (cs := #[.int .i64 a0_0, .int .i64 a0_1, .int .i64 a0_2, .int .i64 a0_3, .int .i64 a0_4, .string a0_5, .string a0_6, .string a0_7, .slice A0_8 l0_8.length c0_8]) (t := 31) ?hr ?_; (case hd => rfl); (case hg => rfl); (case hr => first | (go_simp; done) | (go_simp; rfl)); intro gb211 hg w7 hbox hb; have _ := am (Kd.V_below (Kd.V_elderB (by (with_reducible repeat (first | apply Kd.V_alloc | apply Kd.V_drewN | apply Kd.V_drew)); exact HO0_8.out) gb211 (Nat.le_of_eq hg.symm)) hb); have _ := am (below_step (beu HB.out) hb); have _ := am (hbox); have _ := am ((by rw [hg]; exact (below_size (beu HB.out)) : w.heap.size ≤ gb211)); have _ := am ((by rw [hg]; exact (below_size (beu HB.out)) : w.heap.size ≤ gb211)); clear HO0_8 HB; rename_i HO0_8 HB BK211 GW211 GE211; clear hb hbox hg) | ((with_reducible refine gate_dst (N := 6) rfl ?_); refine box_event ?hg (N := 6) ?hd (cs := #[.int .i64 0, .int .i64 0, .int .i64 0, .int .i64 0, .int .i64 0, .string ⟨#[]⟩, .string ⟨#[]⟩, .string ⟨#[]⟩, .slice none 0 0]) (t := 31) ?hr ?_; (case hd => rfl); (case hg => rfl); (case hr => first | (go_simp; done) | (go_simp; rfl)); intro gb212 hg w8 hbox hb; have _ := am (Kd.V_below (Kd.V_elderB (by (with_reducible repeat (first | apply Kd.V_alloc | apply Kd.V_drewN | apply Kd.V_drew)); exact HO0_8.out) gb212 (Nat.le_of_eq hg.symm)) hb); have _ := am (blk_below (bu BK211.out) hb); have _ := am (below_step (beu HB.out) hb); have _ := am (hbox); have _ := am ((by rw [hg]; exact (below_size (beu HB.out)) : w.heap.size ≤ gb212)); have _ := am ((by rw [hg]; exact (below_size (beu HB.out)) : w.heap.size ≤ gb212)); have _ := am (nb1 hg BK211.out : gb211 ≠ gb212); have _ := am (nb2 hg BK211.out : gb212 ≠ gb211); clear HO0_8 BK211 HB; rename_i HO0_8 BK211 HB BK212 GW212 GE212 NB211_212 NB212_211; clear hb hbox hg; have := NB211_212.out; have := NB212_211.out; obtain ⟨_, _, _, _, _, _, _, _, _⟩ := cells9 BK211.out; obtain ⟨_, _, _, _, _, _, _, _, _⟩ := frozens9 BK211.out) | ((with_reducible refine gate_callee (f := 44) rfl ?_); refine goesL_ (some 12) rfl rfl Tryd.func44 (by kernel_rfl) rfl #[.slice A0_8 l0_8.length c0_8, .string a1] rfl ap1 ?_; (with_reducible refine (slices_Index_string_string.calls k _ _ l0_8 a1 t213 _ ?side1 ?side2 A4.out).mono ?_); (case side1 => repeat (first | exact (Kd.V_reads' HO0_8.out).2.2 | (with_reducible refine Kd.C_alloc ?_ _) | (with_reducible refine Kd.C_drewN ?_ _) | (with_reducible refine Kd.C_drew ?_))); (case side2 => exact (Kd.V_reads' HO0_8.out).2.1); rintro e w' ⟨rfl, ⟨nd, rfl⟩⟩; refine ⟨_, rfl, ?_⟩; (try (rw [drewN_self w8]; generalize hq_ : World.drewN w8 _ = w8; have _ : Aside0 (Kd.V Kd.string 9 w8 w.heap.size (fun k_ => (P0_8_ k_ ∨ w.heap.size ≤ k_) ∧ k_ ≠ gb211 ∧ k_ ≠ gb212) (.slice A0_8 l0_8.length c0_8) l0_8) := ⟨by rw [← hq_]; exact (by (with_reducible repeat (first | apply Kd.V_alloc | apply Kd.V_drewN | apply Kd.V_drew)); exact Kd.V_mono HO0_8.out (fun _ hk => ⟨hk.1.1, ⟨hk.1.2, hk.2⟩⟩))⟩; have _ : Aside0 (w8.heap[gb211]? = some (.cells #[.int .i64 a0_0, .int .i64 a0_1, .int .i64 a0_2, .int .i64 a0_3, .int .i64 a0_4, .string a0_5, .string a0_6, .string a0_7, .slice A0_8 l0_8.length c0_8] 31 (0, 0))) := ⟨by rw [← hq_]; exact (bu BK211.out)⟩; have _ : Aside0 (w8.heap[gb212]? = some (.cells #[.int .i64 0, .int .i64 0, .int .i64 0, .int .i64 0, .int .i64 0, .string ⟨#[]⟩, .string ⟨#[]⟩, .string ⟨#[]⟩, .slice none 0 0] 31 (0, 0))) := ⟨by rw [← hq_]; exact (bu BK212.out)⟩; have _ : Aside0 (Below w.heap.size w w8) := ⟨by rw [← hq_]; exact (beu HB.out)⟩; clear HO0_8 BK211 BK212 HB hq_; rename_i HO0_8 BK211 BK212 HB)); obtain ⟨_, _, _, _, _, _, _, _, _⟩ := cells9 BK211.out; obtain ⟨_, _, _, _, _, _, _, _, _⟩ := frozens9 BK211.out; obtain ⟨_, _, _, _, _, _, _, _, _⟩ := cells9 BK212.out; obtain ⟨_, _, _, _, _, _, _, _, _⟩ := frozens9 BK212.out))
   refine bodyPost_ret (results_ct rfl _ _ gb212 31 #[.int .i64 a0_0, .int .i64 a0_1, .int .i64 a0_2, .int .i64 a0_3, .int .i64 a0_4, .string a0_5, .string a0_6, .string a0_7, .slice A0_8 l0_8.length c0_8] (0, 0) _ rfl (by (with_reducible repeat (first | refine blk_drewN ?_ _ | refine blk_drew ?_ | refine blk_alloc ?_ _)); refine blk_put (cs := #[.int .i64 a0_0, .int .i64 a0_1, .int .i64 a0_2, .int .i64 a0_3, .int .i64 a0_4, .string a0_5, .string a0_6, .string a0_7, .slice none 0 0]) ?_ 8 _ rfl; (with_reducible repeat (first | refine blk_drewN ?_ _ | refine blk_drew ?_ | refine blk_alloc ?_ _)); refine blk_put (cs := #[.int .i64 a0_0, .int .i64 a0_1, .int .i64 a0_2, .int .i64 a0_3, .int .i64 a0_4, .string a0_5, .string a0_6, .string ⟨#[]⟩, .slice none 0 0]) ?_ 7 _ rfl; (with_reducible repeat (first | refine blk_drewN ?_ _ | refine blk_drew ?_ | refine blk_alloc ?_ _)); refine blk_put (cs := #[.int .i64 a0_0, .int .i64 a0_1, .int .i64 a0_2, .int .i64 a0_3, .int .i64 a0_4, .string a0_5, .string ⟨#[]⟩, .string ⟨#[]⟩, .slice none 0 0]) ?_ 6 _ rfl; (with_reducible repeat (first | refine blk_drewN ?_ _ | refine blk_drew ?_ | refine blk_alloc ?_ _)); refine blk_put (cs := #[.int .i64 a0_0, .int .i64 a0_1, .int .i64 a0_2, .int .i64 a0_3, .int .i64 a0_4, .string ⟨#[]⟩, .string ⟨#[]⟩, .string ⟨#[]⟩, .slice none 0 0]) ?_ 5 _ rfl; (with_reducible repeat (first | refine blk_drewN ?_ _ | refine blk_drew ?_ | refine blk_alloc ?_ _)); refine blk_put (cs := #[.int .i64 a0_0, .int .i64 a0_1, .int .i64 a0_2, .int .i64 a0_3, .int .i64 0, .string ⟨#[]⟩, .string ⟨#[]⟩, .string ⟨#[]⟩, .slice none 0 0]) ?_ 4 _ rfl; (with_reducible repeat (first | refine blk_drewN ?_ _ | refine blk_drew ?_ | refine blk_alloc ?_ _)); refine blk_put (cs := #[.int .i64 a0_0, .int .i64 a0_1, .int .i64 a0_2, .int .i64 0, .int .i64 0, .string ⟨#[]⟩, .string ⟨#[]⟩, .string ⟨#[]⟩, .slice none 0 0]) ?_ 3 _ rfl; (with_reducible repeat (first | refine blk_drewN ?_ _ | refine blk_drew ?_ | refine blk_alloc ?_ _)); refine blk_put (cs := #[.int .i64 a0_0, .int .i64 a0_1, .int .i64 0, .int .i64 0, .int .i64 0, .string ⟨#[]⟩, .string ⟨#[]⟩, .string ⟨#[]⟩, .slice none 0 0]) ?_ 2 _ rfl; (with_reducible repeat (first | refine blk_drewN ?_ _ | refine blk_drew ?_ | refine blk_alloc ?_ _)); refine blk_put (cs := #[.int .i64 a0_0, .int .i64 0, .int .i64 0, .int .i64 0, .int .i64 0, .string ⟨#[]⟩, .string ⟨#[]⟩, .string ⟨#[]⟩, .slice none 0 0]) ?_ 1 _ rfl; (with_reducible repeat (first | refine blk_drewN ?_ _ | refine blk_drew ?_ | refine blk_alloc ?_ _)); refine blk_put (cs := #[.int .i64 0, .int .i64 0, .int .i64 0, .int .i64 0, .int .i64 0, .string ⟨#[]⟩, .string ⟨#[]⟩, .string ⟨#[]⟩, .slice none 0 0]) ?_ 0 _ rfl; (with_reducible repeat (first | refine blk_drewN ?_ _ | refine blk_drew ?_ | refine blk_alloc ?_ _)); exact BK212.out) Tryd.underlying31 rfl (by kernel_rfl)) rfl ?_; exact ⟨_, ap4, by (with_reducible repeat (first | apply Kd.V_alloc | apply Kd.V_drewN | apply Kd.V_drew)); exact Kd.V_mono (vf gb212 8 (vf gb212 7 (vf gb212 6 (vf gb212 5 (vf gb212 4 (vf gb212 3 (vf gb212 2 (vf gb212 1 (vf gb212 0 (Kd.V_mono HO0_8.out (fun k_ hk => (⟨hk, by first | exact hk.2 | exact hk.2.2.2 | exact hk.2.2 | exact hk.2.1 | exact hk.2.2.1⟩ : _ ∧ k_ ≠ gb212))) (.int .i64 a0_0)) (.int .i64 a0_1)) (.int .i64 a0_2)) (.int .i64 a0_3)) (.int .i64 a0_4)) (.string a0_5)) (.string a0_6)) (.string a0_7)) (.slice A0_8 l0_8.length c0_8)) (fun _ hk => by first | exact hk.1.1.1 | exact hk.1.1 | exact hk.1), beu HB.out⟩
  ·rw [if_neg c6] at H
   have c6b0 : decide (t213 < 0) = false := decide_eq_false c6; clear c6
   by_cases c13 : 0 ≤ t213
   ·rw [if_pos c13] at H
    have c13b0 := eq_true c13; have c13b1 : decide (0 ≤ t213) = true := decide_eq_true c13; clear c13
    by_cases c14 : t213 ≤ (l0_8.length : Int)
    ·rw [if_pos c14] at H
     have c14b0 := eq_true c14; have c14b1 : decide (t213 ≤ (l0_8.length : Int)) = true := decide_eq_true c14; clear c14; obtain ⟨y214, hy214⟩ : ∃ y_ : List ByteArray, y_ = (l0_8.take (t213 : Int).toNat) := ⟨_, rfl⟩
     replace H : (if 0 ≤ (wrap64 (t213 + 1)) then (if (wrap64 (t213 + 1)) ≤ (l0_8.length : Int) then ((slices_Concat_string_string.f (([y214, (l0_8.drop ((wrap64 (t213 + 1)) : Int).toNat)] : List (List ByteArray)))).bind fun t227 => (some (a0_0, mx (wrap64 (a0_1 - a2)) 0, a0_2, a0_3, a0_4, a0_5, a0_6, a0_7, t227, 0))) else (none)) else (none)) = some (r1, r2, r3, r4, r5, r6, r7, r8, r9, r10) := by first | (rw [hy214]; with_reducible exact H) | (have H2_ := (Option.bind_some _ _).symm.trans H; rw [hy214]; with_reducible exact H2_) | (have H2_ := (Option.bind_some _ _).symm.trans H; with_reducible exact H2_) | with_reducible exact H | (rw [hy214]; exact H) | exact H
     have Ny214 := am hy214; clear hy214; obtain ⟨ji15, hji15⟩ : ∃ j_ : Int, (wrap64 (t213 + 1)) = j_ := ⟨_, rfl⟩
     replace H : (if 0 ≤ (ji15) then (if (ji15) ≤ (l0_8.length : Int) then ((slices_Concat_string_string.f (([y214, (l0_8.drop ((ji15) : Int).toNat)] : List (List ByteArray)))).bind fun t227 => (some (a0_0, mx (wrap64 (a0_1 - a2)) 0, a0_2, a0_3, a0_4, a0_5, a0_6, a0_7, t227, 0))) else (none)) else (none)) = some (r1, r2, r3, r4, r5, r6, r7, r8, r9, r10) := by first | (rw [hji15] at H; exact H) | (simp only [hji15] at H ⊢; exact H)
     (try rw [hji15] at A4)
     have hji15w : (IntKind.i64.wrap (t213 + 1)) = ji15 := (i64_w _).trans hji15
     by_cases c16 : 0 ≤ (ji15)
     ·rw [if_pos c16] at H
      have c16b0 := eq_true c16; have c16b1 : decide (0 ≤ (ji15)) = true := decide_eq_true c16; clear c16
      by_cases c17 : (ji15) ≤ (l0_8.length : Int)
      ·rw [if_pos c17] at H
       have c17b0 := eq_true c17; have c17b1 : decide ((ji15) ≤ (l0_8.length : Int)) = true := decide_eq_true c17; clear c17; obtain ⟨y219, hy219⟩ : ∃ y_ : List ByteArray, y_ = (l0_8.drop ((ji15) : Int).toNat) := ⟨_, rfl⟩
       replace H : ((slices_Concat_string_string.f (([y214, y219] : List (List ByteArray)))).bind fun t227 => (some (a0_0, mx (wrap64 (a0_1 - a2)) 0, a0_2, a0_3, a0_4, a0_5, a0_6, a0_7, t227, 0))) = some (r1, r2, r3, r4, r5, r6, r7, r8, r9, r10) := by first | (rw [hy219]; with_reducible exact H) | (have H2_ := (Option.bind_some _ _).symm.trans H; rw [hy219]; with_reducible exact H2_) | (have H2_ := (Option.bind_some _ _).symm.trans H; with_reducible exact H2_) | with_reducible exact H | (rw [hy219]; exact H) | exact H
       have Ny219 := am hy219; clear hy219; obtain ⟨y224, hy224⟩ : ∃ y_ : List (List ByteArray), y_ = (([y214, y219] : List (List ByteArray))) := ⟨_, rfl⟩
       replace H : ((slices_Concat_string_string.f y224).bind fun t227 => (some (a0_0, mx (wrap64 (a0_1 - a2)) 0, a0_2, a0_3, a0_4, a0_5, a0_6, a0_7, t227, 0))) = some (r1, r2, r3, r4, r5, r6, r7, r8, r9, r10) := by first | (rw [hy224]; with_reducible exact H) | (have H2_ := (Option.bind_some _ _).symm.trans H; rw [hy224]; with_reducible exact H2_) | (have H2_ := (Option.bind_some _ _).symm.trans H; with_reducible exact H2_) | with_reducible exact H | (rw [hy224]; exact H) | exact H
       have Ny224 := am hy224; clear hy224; replace H := obm H; obtain ⟨t227, A180, H⟩ := H; replace H : (some (a0_0, mx (wrap64 (a0_1 - a2)) 0, a0_2, a0_3, a0_4, a0_5, a0_6, a0_7, t227, 0)) = some (r1, r2, r3, r4, r5, r6, r7, r8, r9, r10) := H; have A18 := am A180; clear A180; obtain ⟨ji19, hji19⟩ : ∃ j_ : Int, (mx (wrap64 (a0_1 - a2)) 0) = j_ := ⟨_, rfl⟩
       replace H : (some (a0_0, ji19, a0_2, a0_3, a0_4, a0_5, a0_6, a0_7, t227, 0)) = some (r1, r2, r3, r4, r5, r6, r7, r8, r9, r10) := by first | (rw [hji19] at H; exact H) | (simp only [hji19] at H ⊢; exact H)
       (try rw [hji19] at A4)
       (try rw [hji19] at A18)
       (try (have hji19l : 0 ≤ ji19 := by (rw [← hji19]; unfold mx; (repeat' split) <;> omega)))
       (try (have hji19m : 0 ≤ ji19 := by omega))
       have hji19_ : (if (wrap64 (a0_1 - a2)) < 0 then 0 else (wrap64 (a0_1 - a2))) = ji19 := hji19; simp only [Option.some.injEq, Prod.mk.injEq] at H; obtain ⟨rfl, rfl, rfl, rfl, rfl, rfl, rfl, rfl, rfl, rfl⟩ := H
       go_enter Tryd.func22, Tryd.ntmps22
       try go_wp2_with (first | ((with_reducible refine gate_dst (N := 3) rfl ?_); refine box_event ?hg (N := 3) ?hd (cs := #[.int .i64 a0_0, .int .i64 a0_1, .int .i64 a0_2, .int .i64 a0_3, .int .i64 a0_4, .string a0_5, .string a0_6, .string a0_7, .slice A0_8 l0_8.length c0_8]) (t := 31) ?hr ?_; (case hd => rfl); (case hg => rfl); (case hr => first | (go_simp; done) | (go_simp; rfl)); intro gb211 hg w20 hbox hb; have _ := am (Kd.V_below (Kd.V_elderB (by (with_reducible repeat (first | apply Kd.V_alloc | apply Kd.V_drewN | apply Kd.V_drew)); exact HO0_8.out) gb211 (Nat.le_of_eq hg.symm)) hb); have _ := am (below_step (beu HB.out) hb); have _ := am (hbox); have _ := am ((by rw [hg]; exact (below_size (beu HB.out)) : w.heap.size ≤ gb211)); have _ := am ((by rw [hg]; exact (below_size (beu HB.out)) : w.heap.size ≤ gb211)); clear HO0_8 HB; rename_i HO0_8 HB BK211 GW211 GE211; clear hb hbox hg) | ((with_reducible refine gate_dst (N := 6) rfl ?_); refine box_event ?hg (N := 6) ?hd (cs := #[.int .i64 0, .int .i64 0, .int .i64 0, .int .i64 0, .int .i64 0, .string ⟨#[]⟩, .string ⟨#[]⟩, .string ⟨#[]⟩, .slice none 0 0]) (t := 31) ?hr ?_; (case hd => rfl); (case hg => rfl); (case hr => first | (go_simp; done) | (go_simp; rfl)); intro gb212 hg w21 hbox hb; have _ := am (Kd.V_below (Kd.V_elderB (by (with_reducible repeat (first | apply Kd.V_alloc | apply Kd.V_drewN | apply Kd.V_drew)); exact HO0_8.out) gb212 (Nat.le_of_eq hg.symm)) hb); have _ := am (blk_below (bu BK211.out) hb); have _ := am (below_step (beu HB.out) hb); have _ := am (hbox); have _ := am ((by rw [hg]; exact (below_size (beu HB.out)) : w.heap.size ≤ gb212)); have _ := am ((by rw [hg]; exact (below_size (beu HB.out)) : w.heap.size ≤ gb212)); have _ := am (nb1 hg BK211.out : gb211 ≠ gb212); have _ := am (nb2 hg BK211.out : gb212 ≠ gb211); clear HO0_8 BK211 HB; rename_i HO0_8 BK211 HB BK212 GW212 GE212 NB211_212 NB212_211; clear hb hbox hg; have hnb22 := NB211_212.out; have hnc22 := NB212_211.out; obtain ⟨hcz23_0, hcz23_1, hcz23_2, hcz23_3, hcz23_4, hcz23_5, hcz23_6, hcz23_7, hcz23_8⟩ := cells9 BK211.out; obtain ⟨hfz23_0, hfz23_1, hfz23_2, hfz23_3, hfz23_4, hfz23_5, hfz23_6, hfz23_7, hfz23_8⟩ := frozens9 BK211.out) | ((with_reducible refine gate_callee (f := 44) rfl ?_); refine goesL_ (some 12) rfl rfl Tryd.func44 (by kernel_rfl) rfl #[.slice A0_8 l0_8.length c0_8, .string a1] rfl ap1 ?_; (with_reducible refine (slices_Index_string_string.calls k _ _ l0_8 a1 t213 _ ?side1 ?side2 A4.out).mono ?_); (case side1 => repeat (first | exact (Kd.V_reads' HO0_8.out).2.2 | (with_reducible refine Kd.C_alloc ?_ _) | (with_reducible refine Kd.C_drewN ?_ _) | (with_reducible refine Kd.C_drew ?_))); (case side2 => exact (Kd.V_reads' HO0_8.out).2.1); rintro e w' ⟨rfl, ⟨nd, rfl⟩⟩; refine ⟨_, rfl, ?_⟩; (try (rw [drewN_self w21]; generalize hq_ : World.drewN w21 _ = w21; have _ : Aside0 (Kd.V Kd.string 9 w21 w.heap.size (fun k_ => (P0_8_ k_ ∨ w.heap.size ≤ k_) ∧ k_ ≠ gb211 ∧ k_ ≠ gb212) (.slice A0_8 l0_8.length c0_8) l0_8) := ⟨by rw [← hq_]; exact (by (with_reducible repeat (first | apply Kd.V_alloc | apply Kd.V_drewN | apply Kd.V_drew)); exact Kd.V_mono HO0_8.out (fun _ hk => ⟨hk.1.1, ⟨hk.1.2, hk.2⟩⟩))⟩; have _ : Aside0 (w21.heap[gb211]? = some (.cells #[.int .i64 a0_0, .int .i64 a0_1, .int .i64 a0_2, .int .i64 a0_3, .int .i64 a0_4, .string a0_5, .string a0_6, .string a0_7, .slice A0_8 l0_8.length c0_8] 31 (0, 0))) := ⟨by rw [← hq_]; exact (bu BK211.out)⟩; have _ : Aside0 (w21.heap[gb212]? = some (.cells #[.int .i64 0, .int .i64 0, .int .i64 0, .int .i64 0, .int .i64 0, .string ⟨#[]⟩, .string ⟨#[]⟩, .string ⟨#[]⟩, .slice none 0 0] 31 (0, 0))) := ⟨by rw [← hq_]; exact (bu BK212.out)⟩; have _ : Aside0 (Below w.heap.size w w21) := ⟨by rw [← hq_]; exact (beu HB.out)⟩; clear HO0_8 BK211 BK212 HB hq_; rename_i HO0_8 BK211 BK212 HB)); obtain ⟨hcz24_0, hcz24_1, hcz24_2, hcz24_3, hcz24_4, hcz24_5, hcz24_6, hcz24_7, hcz24_8⟩ := cells9 BK211.out; obtain ⟨hfz24_0, hfz24_1, hfz24_2, hfz24_3, hfz24_4, hfz24_5, hfz24_6, hfz24_7, hfz24_8⟩ := frozens9 BK211.out))
       have n0_ := am (Kd.V_drew HO0_8.out); have n1_ := am (blk_drew BK211.out); have n2_ := am (blk_drew BK212.out); have n3_ := am (below_drew1 HB.out); clear HO0_8 BK211 BK212 HB; have HO0_8 := n0_; have BK211 := n1_; have BK212 := n2_; have HB := n3_; clear n0_ n1_ n2_ n3_; have q26 : (t213 : Int) ≤ ((l0_8.length : Int) : Int) := of_decide_eq_true ap2; obtain ⟨i026, hi026, _, hsz26, _⟩ := info_parts info9; have hroom26 : l0_8.length ≤ c0_8 := (Kd.V_reads' HO0_8.out).2.1; have hC26 : Kd.F Kd.string _ _ A0_8 l0_8.length l0_8 := (Kd.V_at (base := w.heap.size) HO0_8.out).2.2; have hcut26 := cut_to (P := Tryd.prog) 29 9 .i64 Tryd.underlying29 hi026 A0_8 l0_8.length c0_8 t213 (of_decide_eq_true ap2) q26 hroom26; have hr26 := Kd.F_take (m := (t213 : Int).toNat) hC26 (by omega); have hy26 : y214.length = (t213 : Int).toNat := (by rw [Ny214.out, List.length_take]; omega); rw [← Ny214.out] at hr26; rw [← hy26] at hcut26; have HO218 := am (show Kd.V Kd.string 9 _ w.heap.size _ (.slice A0_8 y214.length c0_8) y214 from Kd.V_mk (by omega) hr26); have HC218 := am (show y214.length ≤ c0_8 from by omega); clear hr26 hC26 hroom26 hi026 hsz26; have KY26 := am hy26; clear hy26; replace q26 := eq_true q26; have q27 : ((ji15) : Int) ≤ ((l0_8.length : Int) : Int) := of_decide_eq_true ap2; obtain ⟨i027, hi027, _, hsz27, _⟩ := info_parts info9; have hroom27 : l0_8.length ≤ c0_8 := (Kd.V_reads' HO0_8.out).2.1; have hC27 : Kd.F Kd.string _ _ A0_8 l0_8.length l0_8 := (Kd.V_at (base := w.heap.size) HO0_8.out).2.2; have q027 : (0 : Int) ≤ ((ji15) : Int) := of_decide_eq_true ap2; have hcut27 := cut_from (P := Tryd.prog) 29 9 .i64 Tryd.underlying29 hi027 1 hsz27 A0_8 l0_8.length c0_8 (ji15) q027 q27; have hr27 := Kd.F_cut (m := ((ji15) : Int).toNat) (c := c0_8) hC27 (by omega) hroom27; obtain ⟨A27, hA27⟩ : ∃ A1, A1 = (if c0_8 = ((ji15) : Int).toNat then A0_8 else (A0_8 : Option Addr).map (·.add (((ji15) : Int).toNat * 1))) := ⟨_, rfl⟩; obtain ⟨c27, hc27⟩ : ∃ c1, c1 = c0_8 - ((ji15) : Int).toNat := ⟨_, rfl⟩; have hy27 : y219.length = l0_8.length - ((ji15) : Int).toNat := (by rw [Ny219.out, List.length_drop] <;> omega); rw [show (l0_8).drop ((ji15) : Int).toNat = y219 from Ny219.out.symm] at hr27; replace hr27 : Kd.F Kd.string _ _ A27 y219.length y219 := (by rw [hA27]; exact hr27); rw [← hy27, ← hA27, ← hc27] at hcut27; have HO223 := am (show Kd.V Kd.string 9 _ w.heap.size _ (.slice A27 y219.length c27) y219 from Kd.V_mk (by rw [hy27, hc27]; exact Nat.sub_le_sub_right hroom27 _) hr27); have HC223 := am (show y219.length ≤ c27 from by rw [hy27, hc27]; exact Nat.sub_le_sub_right hroom27 _); clear hr27 hC27 hroom27 hi027 hsz27 hc27; have KY27 := am hy27; have KA27 := am hA27; clear hy27 hA27; replace q27 := eq_true q27
       refine start_ (n := 13) (S := fun w' => w'.cell? ⟨gb211, 0, none⟩ = some (.int .i64 a0_0) ∧ w'.cell? ⟨gb211, 1, none⟩ = some (.int .i64 a0_1) ∧ w'.cell? ⟨gb211, 2, none⟩ = some (.int .i64 a0_2) ∧ w'.cell? ⟨gb211, 3, none⟩ = some (.int .i64 a0_3) ∧ w'.cell? ⟨gb211, 4, none⟩ = some (.int .i64 a0_4) ∧ w'.cell? ⟨gb211, 5, none⟩ = some (.string a0_5) ∧ w'.cell? ⟨gb211, 6, none⟩ = some (.string a0_6) ∧ w'.cell? ⟨gb211, 7, none⟩ = some (.string a0_7) ∧ w'.cell? ⟨gb211, 8, none⟩ = some (.slice A0_8 l0_8.length c0_8)) (ds := [12]) #[false, false, false, false, false, false, false, false, false, false, false, false, false] (by kernel_rfl) rfl rfl ⟨(blk_cell BK211.out 0).trans rfl, (blk_cell BK211.out 1).trans rfl, (blk_cell BK211.out 2).trans rfl, (blk_cell BK211.out 3).trans rfl, (blk_cell BK211.out 4).trans rfl, (blk_cell BK211.out 5).trans rfl, (blk_cell BK211.out 6).trans rfl, (blk_cell BK211.out 7).trans rfl, (blk_cell BK211.out 8).trans rfl⟩ (fun hHeld => ?_); refine with_tabW batch_Evict.tab6 batch_Evict.bits6 (fun HT_ HW_ => ?_)
       generalize w21.drew = w25 at HO0_8 BK211 BK212 HB HO218 HO223 hHeld ⊢; refine pure_ (i := 0) (N := some 22) (v := ?_) (a' := ?_) (bs 13 1) rfl rfl (ak HT_.out) (fun _ _ _ h => h) (Or.inl ⟨by rfl, ?_⟩) ?_ ?_; rotate_left
       ·intro w'
        go_simp
        with_reducible rfl
       rotate_left
       ·simp only [Act.put, sA, sB, sC, i64_w, i32_w]
        rfl
       refine pure_ (i := 2) (N := some 24) (v := ?_) (a' := ?_) (bs 13 5) rfl rfl (ak HT_.out) (fun _ _ _ h => h) (Or.inl ⟨by rfl, ?_⟩) ?_ ?_; rotate_left
       ·intro w'
        go_simp
        with_reducible rfl
       rotate_left
       ·simp only [Act.put, sA, sB, sC, i64_w, i32_w]
        rfl
       refine pure_ (i := 4) (N := some 26) (v := ?_) (a' := ?_) (bs 13 21) rfl rfl (ak HT_.out) (fun _ _ _ h => h) (Or.inl ⟨by rfl, ?_⟩) ?_ ?_; rotate_left
       ·intro w'
        go_simp
        with_reducible rfl
       rotate_left
       ·simp only [Act.put, sA, sB, sC, i64_w, i32_w]
        rfl
       refine pure_ (i := 6) (N := some 28) (v := ?_) (a' := ?_) (bs 13 85) rfl rfl (ak HT_.out) (fun _ _ _ h => h) (Or.inl ⟨by rfl, ?_⟩) ?_ ?_; rotate_left
       ·intro w'
        go_simp
        with_reducible rfl
       rotate_left
       ·simp only [Act.put, sA, sB, sC, i64_w, i32_w]
        rfl
       refine pure_ (i := 7) (N := some 29) (v := ?_) (a' := ?_) (bs 13 213) rfl rfl (ak HT_.out) (fun _ _ _ h => h) (Or.inl ⟨by rfl, ?_⟩) ?_ ?_; rotate_left
       ·intro w'
        go_simp
        with_reducible rfl
       rotate_left
       ·simp only [Act.put, sA, sB, sC, i64_w, i32_w]
        rfl
       refine take_ (i := 1) (N := some 23) (v := ?_) (a' := ?_) (bs 13 215) rfl rfl (take_ofW HT_.out HW_.out (by kernel_rfl)) (fun _ _ _ h => h) (Or.inl ⟨by rfl, ?_⟩) hHeld ?_ ?_; rotate_left
       ·rintro w' ⟨s0, s1, s2, s3, s4, s5, s6, s7, s8⟩
        go_simp
        with_reducible rfl
       rotate_left
       ·simp only [Act.put, sA, sB, sC, i64_w, i32_w]
        rfl
       refine pure_ (i := 3) (N := some 25) (v := ?_) (a' := ?_) (bs 13 223) rfl rfl (ak HT_.out) (fun _ _ _ h => h) (Or.inl ⟨by rfl, ?_⟩) ?_ ?_; rotate_left
       ·intro w'
        go_simp
        with_reducible rfl
       rotate_left
       ·simp only [Act.put, sA, sB, sC, i64_w, i32_w]
        rfl
       refine take_ (i := 5) (N := some 27) (v := ?_) (a' := ?_) (bs 13 255) rfl rfl (take_ofW HT_.out HW_.out (by kernel_rfl)) (fun _ _ _ h => h) (Or.inl ⟨by rfl, ?_⟩) hHeld ?_ ?_; rotate_left
       ·rintro w' ⟨s0, s1, s2, s3, s4, s5, s6, s7, s8⟩
        go_simp
        with_reducible rfl
       rotate_left
       ·simp only [Act.put, sA, sB, sC, i64_w, i32_w]
        rfl
       refine pure_ (i := 8) (N := some 30) (v := ?_) (a' := ?_) (bs 13 511) rfl rfl (ak HT_.out) (fun _ _ _ h => h) (Or.inl ⟨by rfl, ?_⟩) ?_ ?_; rotate_left
       ·intro w'
        go_simp
        with_reducible rfl
       rotate_left
       ·simp only [Act.put, sA, sB, sC, i64_w, i32_w]
        rfl
       refine one_ (i := 9) (N := some 31) (bs 13 1023) rfl rfl (one_of HT_.out (by kernel_rfl)) (by decide) (fun K hK => ?_)
       refine Kd.N_lit_step (Kd.slice 9 Kd.string) _ 29 ?hg (N' := 31) ?hd (xs := ([y214, y219] : List (List ByteArray))) (inner := [.slice A0_8 y214.length c0_8, .slice A27 y219.length c27]) (ok := (fun k_ => (P0_8_ k_ ∨ w.heap.size ≤ k_) ∧ k_ ≠ gb211 ∧ k_ ≠ gb212)) (okp := (fun k_ => (P0_8_ k_ ∨ w.heap.size ≤ k_) ∧ k_ ≠ gb211 ∧ k_ ≠ gb212)) ?hr ?hp (fun _ hk => hk) ((show ∀ k_, w25.heap.size ≤ k_ → (fun k_ => (P0_8_ k_ ∨ w.heap.size ≤ k_) ∧ k_ ≠ gb211 ∧ k_ ≠ gb212) k_ from fun k_ hk => ⟨(.inr (Nat.le_trans (below_size (beu HB.out)) hk)), Kd.freshB (bu BK211.out) k_ hk, Kd.freshB (bu BK212.out) k_ hk⟩) _ (Nat.le_refl _)) (Below.refl _ _) (Nat.le_refl _) (by simp) ?_; (case hd => rfl); (case hg => rfl); (case hr => first | (go_simp; done) | (go_simp; rfl)); (case hp => first | exact (Reps.one (show Kd.FK (Kd.slice 9 Kd.string) _ _ y214 [.slice A0_8 y214.length c0_8] from (Kd.FK_slice_mk (Kd.V_reads' (Kd.V_mono (ok' := (fun k_ => (P0_8_ k_ ∨ w.heap.size ≤ k_) ∧ k_ ≠ gb211 ∧ k_ ≠ gb212)) (HO218.out) (fun k_ hk => (by first | exact ⟨hk.1.1, ⟨hk.1.2, hk.2⟩⟩ | exact hk)))).2.1 (Kd.V_F (Kd.V_mono (ok' := (fun k_ => (P0_8_ k_ ∨ w.heap.size ≤ k_) ∧ k_ ≠ gb211 ∧ k_ ≠ gb212)) (HO218.out) (fun k_ hk => (by first | exact ⟨hk.1.1, ⟨hk.1.2, hk.2⟩⟩ | exact hk)))))) (Reps.one (show Kd.FK (Kd.slice 9 Kd.string) _ _ y219 [.slice A27 y219.length c27] from (Kd.FK_slice_mk (Kd.V_reads' (Kd.V_mono (ok' := (fun k_ => (P0_8_ k_ ∨ w.heap.size ≤ k_) ∧ k_ ≠ gb211 ∧ k_ ≠ gb212)) (HO223.out) (fun k_ hk => (by first | exact ⟨hk.1.1, ⟨hk.1.2, hk.2⟩⟩ | exact hk)))).2.1 (Kd.V_F (Kd.V_mono (ok' := (fun k_ => (P0_8_ k_ ∨ w.heap.size ≤ k_) ∧ k_ ≠ gb211 ∧ k_ ≠ gb212)) (HO223.out) (fun k_ hk => (by first | exact ⟨hk.1.1, ⟨hk.1.2, hk.2⟩⟩ | exact hk)))))) (Reps.none _ _))) | exact (Reps.one (show Kd.FK (Kd.slice 9 Kd.string) _ _ y214 [.slice A0_8 y214.length c0_8] from (Kd.FK_slice_mk (Kd.V_reads' (Kd.V_mono (ok' := (fun k_ => (P0_8_ k_ ∨ w.heap.size ≤ k_) ∧ k_ ≠ gb211 ∧ k_ ≠ gb212)) (HO218.out) (fun k_ hk => (by first | exact ⟨hk.1.1, ⟨hk.1.2, hk.2⟩⟩ | exact hk)))).2.1 (Kd.V_F (Kd.V_mono (ok' := (fun k_ => (P0_8_ k_ ∨ w.heap.size ≤ k_) ∧ k_ ≠ gb211 ∧ k_ ≠ gb212)) (Kd.V_drewN HO218.out _) (fun k_ hk => (by first | exact ⟨hk.1.1, ⟨hk.1.2, hk.2⟩⟩ | exact hk)))))) (Reps.one (show Kd.FK (Kd.slice 9 Kd.string) _ _ y219 [.slice A27 y219.length c27] from (Kd.FK_slice_mk (Kd.V_reads' (Kd.V_mono (ok' := (fun k_ => (P0_8_ k_ ∨ w.heap.size ≤ k_) ∧ k_ ≠ gb211 ∧ k_ ≠ gb212)) (HO223.out) (fun k_ hk => (by first | exact ⟨hk.1.1, ⟨hk.1.2, hk.2⟩⟩ | exact hk)))).2.1 (Kd.V_F (Kd.V_mono (ok' := (fun k_ => (P0_8_ k_ ∨ w.heap.size ≤ k_) ∧ k_ ≠ gb211 ∧ k_ ≠ gb212)) (Kd.V_drewN HO223.out _) (fun k_ hk => (by first | exact ⟨hk.1.1, ⟨hk.1.2, hk.2⟩⟩ | exact hk)))))) (Reps.none _ _))))
       intro v225 w28 ho29 hb hg_ hnew_; clear hg_ hnew_
       (first | rw [← Ny224.out] at ho29 | (simp only [Int.reduceToNat] at ho29; rw [← Ny224.out] at ho29))
       have n0_ := am (Kd.V_elder' (by (with_reducible repeat (first | apply Kd.V_alloc | apply Kd.V_drewN | apply Kd.V_drew)); exact HO0_8.out) (Kd.N_base ho29) hb); have n1_ := am (Kd.V_elder' (by (with_reducible repeat (first | apply Kd.V_alloc | apply Kd.V_drewN | apply Kd.V_drew)); exact HO218.out) (Kd.N_base ho29) hb); have n2_ := am (Kd.V_elder' (by (with_reducible repeat (first | apply Kd.V_alloc | apply Kd.V_drewN | apply Kd.V_drew)); exact HO223.out) (Kd.N_base ho29) hb); have n3_ := am (Kd.N_lower ho29 (below_size (beu HB.out))); have n4_ := am (blk_below (bu BK211.out) hb); have n5_ := am (blk_below (bu BK212.out) hb); have n6_ := am (below_step (beu HB.out) hb); clear HO0_8 HO218 HO223 BK211 BK212 HB; have HO0_8 := n0_; have HO218 := n1_; have HO223 := n2_; have HO226 := n3_; have BK211 := n4_; have BK212 := n5_; have HB := n6_; clear n0_ n1_ n2_ n3_ n4_ n5_ n6_ hb ho29; obtain ⟨Ao30, co30, eo30⟩ := Kd.N_slice HO226.out
       (first | subst eo30 | (injection eo30 with f1_ f2_ f3_; have f4_ := f1_.symm; have f5_ := f3_.symm; clear f1_ f2_ f3_; subst f4_; subst f5_))
       refine hK.out _ _ ⟨(blk_cell BK211.out 0).trans rfl, (blk_cell BK211.out 1).trans rfl, (blk_cell BK211.out 2).trans rfl, (blk_cell BK211.out 3).trans rfl, (blk_cell BK211.out 4).trans rfl, (blk_cell BK211.out 5).trans rfl, (blk_cell BK211.out 6).trans rfl, (blk_cell BK211.out 7).trans rfl, (blk_cell BK211.out 8).trans rfl⟩ (fun hHeld => ?_); clear hK K; refine norm_ (a' := ?_) ?_ ?_; rotate_left
       ·show Act.put _ (some 31) _ = _
        simp only [Act.put, sA, sB, sC, i64_w, i32_w]
        rfl
       refine one_ (i := 10) (N := some 32) (bs 13 2047) rfl rfl (one_of HT_.out (by kernel_rfl)) (by decide) (fun K hK => ?_); refine goes_ Tryd.func45 (by kernel_rfl) rfl #[.slice Ao30 y224.length co30] (by rfl) rfl rfl ap1 ?_; with_reducible refine (slices_Concat_string_string.calls _ _ y224 t227 _ ?side1 ?side2 A18.out).mono ?_
       (case side1 => repeat (first | exact (Kd.N_reads' HO226.out).2.2 | (with_reducible refine Kd.C_alloc ?_ _) | (with_reducible refine Kd.C_drewN ?_ _) | (with_reducible refine Kd.C_drew ?_)))
       (case side2 => exact (Kd.N_reads' HO226.out).2.1)
       rintro e w31 ⟨v228, rfl, ho0, hb⟩; refine ⟨_, rfl, ?_⟩; have n0_ := am (Kd.V_elder' (by (with_reducible repeat (first | apply Kd.V_alloc | apply Kd.V_drewN | apply Kd.V_drew)); exact HO0_8.out) (Kd.R_base ho0) hb); have n1_ := am (Kd.V_elder' (by (with_reducible repeat (first | apply Kd.V_alloc | apply Kd.V_drewN | apply Kd.V_drew)); exact HO218.out) (Kd.R_base ho0) hb); have n2_ := am (Kd.V_elder' (by (with_reducible repeat (first | apply Kd.V_alloc | apply Kd.V_drewN | apply Kd.V_drew)); exact HO223.out) (Kd.R_base ho0) hb); have n3_ := am (Kd.N_elder' (by (with_reducible repeat (first | apply Kd.N_alloc | apply Kd.N_drewN | apply Kd.N_drew)); exact HO226.out) (Kd.R_base ho0) hb); have n4_ := am (Kd.R_lower (Kd.R_newM (M := fun k_ => (w.heap.size ≤ k_)) ho0 (below_size (beu HB.out)) (fun k_ h_ => h_)) (below_size (beu HB.out))); have n5_ := am (blk_below (bu BK211.out) hb); have n6_ := am (blk_below (bu BK212.out) hb); have n7_ := am (below_step (beu HB.out) hb); clear HO0_8 HO218 HO223 HO226 BK211 BK212 HB; have HO0_8 := n0_; have HO218 := n1_; have HO223 := n2_; have HO226 := n3_; have HO229 := n4_; have BK211 := n5_; have BK212 := n6_; have HB := n7_; clear n0_ n1_ n2_ n3_ n4_ n5_ n6_ n7_
       (try clear hb)
       (try clear hb2)
       (try clear hk)
       (try clear hi)
       (try clear ho0)
       obtain ⟨Ao32, co32, eo32⟩ := Kd.R_slice HO229.out
       (first | subst eo32 | (injection eo32 with f1_ f2_ f3_; have f4_ := f1_.symm; have f5_ := f3_.symm; clear f1_ f2_ f3_; subst f4_; subst f5_))
       refine hK.out _ _ ⟨(blk_cell BK211.out 0).trans rfl, (blk_cell BK211.out 1).trans rfl, (blk_cell BK211.out 2).trans rfl, (blk_cell BK211.out 3).trans rfl, (blk_cell BK211.out 4).trans rfl, (blk_cell BK211.out 5).trans rfl, (blk_cell BK211.out 6).trans rfl, (blk_cell BK211.out 7).trans rfl, (blk_cell BK211.out 8).trans rfl⟩ (fun hHeld => ?_); clear hK K; refine norm_ (a' := ?_) ?_ ?_; rotate_left
       ·show Act.put _ (some 32) _ = _
        simp only [Act.put, sA, sB, sC, i64_w, i32_w]
        rfl
       refine pure_ (i := 11) (N := some 33) (v := ?_) (a' := ?_) (bs 13 4095) rfl rfl (ak HT_.out) (fun _ _ _ h => h) (Or.inl ⟨by rfl, ?_⟩) ?_ ?_; rotate_left
       ·intro w'
        go_simp
        with_reducible rfl
       rotate_left
       ·simp only [Act.put, sA, sB, sC, i64_w, i32_w]
        rfl
       refine last_ (i := 12) (N := none) (bs 13 8191) rfl rfl (one_of HT_.out (by kernel_rfl)) (by decide) (fun K hK => ?_); have hs33 : w31.cell? ⟨gb211, 8, none⟩ = some (.slice A0_8 l0_8.length c0_8) := (blk_cell BK211.out 8).trans rfl; have hfs33 := blk_frozen BK211.out 8; have hns33_1 := NB212_211.out; have hms33_1 := NB211_212.out; refine skip_ (w1 := ?_) (by rfl) rfl ?_ ?_; rotate_left
       ·go_simp
        rfl
       refine hK.out _ _ ?_; clear hK K; refine done_ (done_of HT_.out (by kernel_rfl)) ?_; obtain ⟨hcz34_0, hcz34_1, hcz34_2, hcz34_3, hcz34_4, hcz34_5, hcz34_6, hcz34_7, hcz34_8⟩ := cells9 BK211.out; obtain ⟨hfz34_0, hfz34_1, hfz34_2, hfz34_3, hfz34_4, hfz34_5, hfz34_6, hfz34_7, hfz34_8⟩ := frozens9 BK211.out; obtain ⟨_, _, _, _, _, _, _, _, _⟩ := cells9 BK212.out; obtain ⟨_, _, _, _, _, _, _, _, _⟩ := frozens9 BK212.out
       try go_wp2
       refine bodyPost_ret (results_ct rfl _ _ gb212 31 #[.int .i64 a0_0, .int .i64 ji19, .int .i64 a0_2, .int .i64 a0_3, .int .i64 a0_4, .string a0_5, .string a0_6, .string a0_7, .slice Ao32 t227.length co32] (0, 0) _ rfl (by (with_reducible repeat (first | refine blk_drewN ?_ _ | refine blk_drew ?_ | refine blk_alloc ?_ _)); refine blk_put (cs := #[.int .i64 a0_0, .int .i64 ji19, .int .i64 a0_2, .int .i64 a0_3, .int .i64 a0_4, .string a0_5, .string a0_6, .string a0_7, .slice none 0 0]) ?_ 8 _ rfl; (with_reducible repeat (first | refine blk_drewN ?_ _ | refine blk_drew ?_ | refine blk_alloc ?_ _)); refine blk_put (cs := #[.int .i64 a0_0, .int .i64 ji19, .int .i64 a0_2, .int .i64 a0_3, .int .i64 a0_4, .string a0_5, .string a0_6, .string ⟨#[]⟩, .slice none 0 0]) ?_ 7 _ rfl; (with_reducible repeat (first | refine blk_drewN ?_ _ | refine blk_drew ?_ | refine blk_alloc ?_ _)); refine blk_put (cs := #[.int .i64 a0_0, .int .i64 ji19, .int .i64 a0_2, .int .i64 a0_3, .int .i64 a0_4, .string a0_5, .string ⟨#[]⟩, .string ⟨#[]⟩, .slice none 0 0]) ?_ 6 _ rfl; (with_reducible repeat (first | refine blk_drewN ?_ _ | refine blk_drew ?_ | refine blk_alloc ?_ _)); refine blk_put (cs := #[.int .i64 a0_0, .int .i64 ji19, .int .i64 a0_2, .int .i64 a0_3, .int .i64 a0_4, .string ⟨#[]⟩, .string ⟨#[]⟩, .string ⟨#[]⟩, .slice none 0 0]) ?_ 5 _ rfl; (with_reducible repeat (first | refine blk_drewN ?_ _ | refine blk_drew ?_ | refine blk_alloc ?_ _)); refine blk_put (cs := #[.int .i64 a0_0, .int .i64 ji19, .int .i64 a0_2, .int .i64 a0_3, .int .i64 0, .string ⟨#[]⟩, .string ⟨#[]⟩, .string ⟨#[]⟩, .slice none 0 0]) ?_ 4 _ rfl; (with_reducible repeat (first | refine blk_drewN ?_ _ | refine blk_drew ?_ | refine blk_alloc ?_ _)); refine blk_put (cs := #[.int .i64 a0_0, .int .i64 ji19, .int .i64 a0_2, .int .i64 0, .int .i64 0, .string ⟨#[]⟩, .string ⟨#[]⟩, .string ⟨#[]⟩, .slice none 0 0]) ?_ 3 _ rfl; (with_reducible repeat (first | refine blk_drewN ?_ _ | refine blk_drew ?_ | refine blk_alloc ?_ _)); refine blk_put (cs := #[.int .i64 a0_0, .int .i64 ji19, .int .i64 0, .int .i64 0, .int .i64 0, .string ⟨#[]⟩, .string ⟨#[]⟩, .string ⟨#[]⟩, .slice none 0 0]) ?_ 2 _ rfl; (with_reducible repeat (first | refine blk_drewN ?_ _ | refine blk_drew ?_ | refine blk_alloc ?_ _)); refine blk_put (cs := #[.int .i64 a0_0, .int .i64 0, .int .i64 0, .int .i64 0, .int .i64 0, .string ⟨#[]⟩, .string ⟨#[]⟩, .string ⟨#[]⟩, .slice none 0 0]) ?_ 1 _ rfl; (with_reducible repeat (first | refine blk_drewN ?_ _ | refine blk_drew ?_ | refine blk_alloc ?_ _)); refine blk_put (cs := #[.int .i64 0, .int .i64 0, .int .i64 0, .int .i64 0, .int .i64 0, .string ⟨#[]⟩, .string ⟨#[]⟩, .string ⟨#[]⟩, .slice none 0 0]) ?_ 0 _ rfl; (with_reducible repeat (first | refine blk_drewN ?_ _ | refine blk_drew ?_ | refine blk_alloc ?_ _)); refine blk_far ?_ NB212_211.out _; (with_reducible repeat (first | refine blk_drewN ?_ _ | refine blk_drew ?_ | refine blk_alloc ?_ _)); refine blk_far ?_ NB212_211.out _; (with_reducible repeat (first | refine blk_drewN ?_ _ | refine blk_drew ?_ | refine blk_alloc ?_ _)); exact BK212.out) Tryd.underlying31 rfl (by kernel_rfl)) rfl ?_; exact ⟨_, by first | rfl | (simp [errW_none, errW_some] <;> rfl) | (simp only [← hji15, ← hji19]; first | rfl | (simp [errW_none, errW_some] <;> rfl)) | (simp [*, errW_none, errW_some] <;> rfl), Kd.V_mono (Kd.R_V (ru (Kd.R_mono (rf gb212 8 (rf gb212 7 (rf gb212 6 (rf gb212 5 (rf gb212 4 (rf gb212 3 (rf gb212 2 (rf gb212 1 (rf gb212 0 (Kd.R_far (p := ⟨gb211, 1, none⟩) (Kd.R_far (p := ⟨gb211, 8, none⟩) (Kd.R_types (Kd.R_types HO229.out BK211.out (by decide)) BK212.out (by decide)) (fun _ hk => hk.1.2) (.slice Ao32 t227.length co32)) (fun _ hk => hk.1.2) (.int .i64 ji19)) (.int .i64 a0_0)) (.int .i64 ji19)) (.int .i64 a0_2)) (.int .i64 a0_3)) (.int .i64 a0_4)) (.string a0_5)) (.string a0_6)) (.string a0_7)) (.slice Ao32 t227.length co32)) (fun _ hk => by first | exact hk.1.1.1 | exact hk.1.1 | exact hk.1)))) (fun k_ hk => by first | exact ⟨(.inr (hk.1)), hk.2⟩ | exact (.inr (hk))), beu HB.out⟩
      ·rw [if_neg c17] at H
       exact absurd H (by simp)
     ·rw [if_neg c16] at H
      exact absurd H (by simp)
    ·rw [if_neg c14] at H
     exact absurd H (by simp)
   ·rw [if_neg c13] at H
    exact absurd H (by simp)
 ·rw [if_neg c5] at H
  have c5b0 : (a0_4 == 1) = false := beq_eq_false_iff_ne.mpr c5; have c5b1 : (a0_4 != 1) = true := bne_iff_ne.mpr c5; simp only [Option.some.injEq, Prod.mk.injEq] at H; obtain ⟨rfl, rfl, rfl, rfl, rfl, rfl, rfl, rfl, rfl, rfl⟩ := H
  go_enter Tryd.func22, Tryd.ntmps22
  go_wp2_with (first | ((with_reducible refine gate_dst (N := 3) rfl ?_); refine box_event ?hg (N := 3) ?hd (cs := #[.int .i64 a0_0, .int .i64 a0_1, .int .i64 a0_2, .int .i64 a0_3, .int .i64 a0_4, .string a0_5, .string a0_6, .string a0_7, .slice A0_8 l0_8.length c0_8]) (t := 31) ?hr ?_; (case hd => rfl); (case hg => rfl); (case hr => first | (go_simp; done) | (go_simp; rfl)); intro gb211 hg w36 hbox hb; have _ := am (Kd.V_below (Kd.V_elderB (by (with_reducible repeat (first | apply Kd.V_alloc | apply Kd.V_drewN | apply Kd.V_drew)); exact HO0_8.out) gb211 (Nat.le_of_eq hg.symm)) hb); have _ := am (below_step (beu HB.out) hb); have _ := am (hbox); have _ := am ((by rw [hg]; exact (below_size (beu HB.out)) : w.heap.size ≤ gb211)); have _ := am ((by rw [hg]; exact (below_size (beu HB.out)) : w.heap.size ≤ gb211)); clear HO0_8 HB; rename_i HO0_8 HB BK211 GW211 GE211; clear hb hbox hg) | ((with_reducible refine gate_dst (N := 6) rfl ?_); refine box_event ?hg (N := 6) ?hd (cs := #[.int .i64 0, .int .i64 0, .int .i64 0, .int .i64 0, .int .i64 0, .string ⟨#[]⟩, .string ⟨#[]⟩, .string ⟨#[]⟩, .slice none 0 0]) (t := 31) ?hr ?_; (case hd => rfl); (case hg => rfl); (case hr => first | (go_simp; done) | (go_simp; rfl)); intro gb212 hg w37 hbox hb; have _ := am (Kd.V_below (Kd.V_elderB (by (with_reducible repeat (first | apply Kd.V_alloc | apply Kd.V_drewN | apply Kd.V_drew)); exact HO0_8.out) gb212 (Nat.le_of_eq hg.symm)) hb); have _ := am (blk_below (bu BK211.out) hb); have _ := am (below_step (beu HB.out) hb); have _ := am (hbox); have _ := am ((by rw [hg]; exact (below_size (beu HB.out)) : w.heap.size ≤ gb212)); have _ := am ((by rw [hg]; exact (below_size (beu HB.out)) : w.heap.size ≤ gb212)); have _ := am (nb1 hg BK211.out : gb211 ≠ gb212); have _ := am (nb2 hg BK211.out : gb212 ≠ gb211); clear HO0_8 BK211 HB; rename_i HO0_8 BK211 HB BK212 GW212 GE212 NB211_212 NB212_211; clear hb hbox hg; have := NB211_212.out; have := NB212_211.out; obtain ⟨hcz39_0, hcz39_1, hcz39_2, hcz39_3, hcz39_4, hcz39_5, hcz39_6, hcz39_7, hcz39_8⟩ := cells9 BK211.out; obtain ⟨hfz39_0, hfz39_1, hfz39_2, hfz39_3, hfz39_4, hfz39_5, hfz39_6, hfz39_7, hfz39_8⟩ := frozens9 BK211.out) | ((with_reducible refine gate_callee (f := 44) rfl ?_); refine goesL_ (some 12) rfl rfl Tryd.func44 (by kernel_rfl) rfl #[.slice A0_8 l0_8.length c0_8, .string a1] rfl ap1 ?_; (with_reducible refine (slices_Index_string_string.calls k _ _ l0_8 a1 t213 _ ?side1 ?side2 A4.out).mono ?_); (case side1 => repeat (first | exact (Kd.V_reads' HO0_8.out).2.2 | (with_reducible refine Kd.C_alloc ?_ _) | (with_reducible refine Kd.C_drewN ?_ _) | (with_reducible refine Kd.C_drew ?_))); (case side2 => exact (Kd.V_reads' HO0_8.out).2.1); rintro e w' ⟨rfl, ⟨nd, rfl⟩⟩; refine ⟨_, rfl, ?_⟩; (try (rw [drewN_self w37]; generalize hq_ : World.drewN w37 _ = w37; have _ : Aside0 (Kd.V Kd.string 9 w37 w.heap.size (fun k_ => (P0_8_ k_ ∨ w.heap.size ≤ k_) ∧ k_ ≠ gb211 ∧ k_ ≠ gb212) (.slice A0_8 l0_8.length c0_8) l0_8) := ⟨by rw [← hq_]; exact (by (with_reducible repeat (first | apply Kd.V_alloc | apply Kd.V_drewN | apply Kd.V_drew)); exact Kd.V_mono HO0_8.out (fun _ hk => ⟨hk.1.1, ⟨hk.1.2, hk.2⟩⟩))⟩; have _ : Aside0 (w37.heap[gb211]? = some (.cells #[.int .i64 a0_0, .int .i64 a0_1, .int .i64 a0_2, .int .i64 a0_3, .int .i64 a0_4, .string a0_5, .string a0_6, .string a0_7, .slice A0_8 l0_8.length c0_8] 31 (0, 0))) := ⟨by rw [← hq_]; exact (bu BK211.out)⟩; have _ : Aside0 (w37.heap[gb212]? = some (.cells #[.int .i64 0, .int .i64 0, .int .i64 0, .int .i64 0, .int .i64 0, .string ⟨#[]⟩, .string ⟨#[]⟩, .string ⟨#[]⟩, .slice none 0 0] 31 (0, 0))) := ⟨by rw [← hq_]; exact (bu BK212.out)⟩; have _ : Aside0 (Below w.heap.size w w37) := ⟨by rw [← hq_]; exact (beu HB.out)⟩; clear HO0_8 BK211 BK212 HB hq_; rename_i HO0_8 BK211 BK212 HB)); obtain ⟨_, _, _, _, _, _, _, _, _⟩ := cells9 BK211.out; obtain ⟨_, _, _, _, _, _, _, _, _⟩ := frozens9 BK211.out; obtain ⟨hcz41_0, hcz41_1, hcz41_2, hcz41_3, hcz41_4, hcz41_5, hcz41_6, hcz41_7, hcz41_8⟩ := cells9 BK212.out; obtain ⟨hfz41_0, hfz41_1, hfz41_2, hfz41_3, hfz41_4, hfz41_5, hfz41_6, hfz41_7, hfz41_8⟩ := frozens9 BK212.out))
  refine bodyPost_ret (results_ct rfl _ _ gb212 31 #[.int .i64 a0_0, .int .i64 a0_1, .int .i64 a0_2, .int .i64 a0_3, .int .i64 a0_4, .string a0_5, .string a0_6, .string a0_7, .slice A0_8 l0_8.length c0_8] (0, 0) _ rfl (by (with_reducible repeat (first | refine blk_drewN ?_ _ | refine blk_drew ?_ | refine blk_alloc ?_ _)); refine blk_put (cs := #[.int .i64 a0_0, .int .i64 a0_1, .int .i64 a0_2, .int .i64 a0_3, .int .i64 a0_4, .string a0_5, .string a0_6, .string a0_7, .slice none 0 0]) ?_ 8 _ rfl; (with_reducible repeat (first | refine blk_drewN ?_ _ | refine blk_drew ?_ | refine blk_alloc ?_ _)); refine blk_put (cs := #[.int .i64 a0_0, .int .i64 a0_1, .int .i64 a0_2, .int .i64 a0_3, .int .i64 a0_4, .string a0_5, .string a0_6, .string ⟨#[]⟩, .slice none 0 0]) ?_ 7 _ rfl; (with_reducible repeat (first | refine blk_drewN ?_ _ | refine blk_drew ?_ | refine blk_alloc ?_ _)); refine blk_put (cs := #[.int .i64 a0_0, .int .i64 a0_1, .int .i64 a0_2, .int .i64 a0_3, .int .i64 a0_4, .string a0_5, .string ⟨#[]⟩, .string ⟨#[]⟩, .slice none 0 0]) ?_ 6 _ rfl; (with_reducible repeat (first | refine blk_drewN ?_ _ | refine blk_drew ?_ | refine blk_alloc ?_ _)); refine blk_put (cs := #[.int .i64 a0_0, .int .i64 a0_1, .int .i64 a0_2, .int .i64 a0_3, .int .i64 a0_4, .string ⟨#[]⟩, .string ⟨#[]⟩, .string ⟨#[]⟩, .slice none 0 0]) ?_ 5 _ rfl; (with_reducible repeat (first | refine blk_drewN ?_ _ | refine blk_drew ?_ | refine blk_alloc ?_ _)); refine blk_put (cs := #[.int .i64 a0_0, .int .i64 a0_1, .int .i64 a0_2, .int .i64 a0_3, .int .i64 0, .string ⟨#[]⟩, .string ⟨#[]⟩, .string ⟨#[]⟩, .slice none 0 0]) ?_ 4 _ rfl; (with_reducible repeat (first | refine blk_drewN ?_ _ | refine blk_drew ?_ | refine blk_alloc ?_ _)); refine blk_put (cs := #[.int .i64 a0_0, .int .i64 a0_1, .int .i64 a0_2, .int .i64 0, .int .i64 0, .string ⟨#[]⟩, .string ⟨#[]⟩, .string ⟨#[]⟩, .slice none 0 0]) ?_ 3 _ rfl; (with_reducible repeat (first | refine blk_drewN ?_ _ | refine blk_drew ?_ | refine blk_alloc ?_ _)); refine blk_put (cs := #[.int .i64 a0_0, .int .i64 a0_1, .int .i64 0, .int .i64 0, .int .i64 0, .string ⟨#[]⟩, .string ⟨#[]⟩, .string ⟨#[]⟩, .slice none 0 0]) ?_ 2 _ rfl; (with_reducible repeat (first | refine blk_drewN ?_ _ | refine blk_drew ?_ | refine blk_alloc ?_ _)); refine blk_put (cs := #[.int .i64 a0_0, .int .i64 0, .int .i64 0, .int .i64 0, .int .i64 0, .string ⟨#[]⟩, .string ⟨#[]⟩, .string ⟨#[]⟩, .slice none 0 0]) ?_ 1 _ rfl; (with_reducible repeat (first | refine blk_drewN ?_ _ | refine blk_drew ?_ | refine blk_alloc ?_ _)); refine blk_put (cs := #[.int .i64 0, .int .i64 0, .int .i64 0, .int .i64 0, .int .i64 0, .string ⟨#[]⟩, .string ⟨#[]⟩, .string ⟨#[]⟩, .slice none 0 0]) ?_ 0 _ rfl; (with_reducible repeat (first | refine blk_drewN ?_ _ | refine blk_drew ?_ | refine blk_alloc ?_ _)); exact BK212.out) Tryd.underlying31 rfl (by kernel_rfl)) rfl ?_; exact ⟨_, ap4, by (with_reducible repeat (first | apply Kd.V_alloc | apply Kd.V_drewN | apply Kd.V_drew)); exact Kd.V_mono (vf gb212 8 (vf gb212 7 (vf gb212 6 (vf gb212 5 (vf gb212 4 (vf gb212 3 (vf gb212 2 (vf gb212 1 (vf gb212 0 (Kd.V_mono HO0_8.out (fun k_ hk => (⟨hk, by first | exact hk.2 | exact hk.2.2.2 | exact hk.2.2 | exact hk.2.1 | exact hk.2.2.1⟩ : _ ∧ k_ ≠ gb212))) (.int .i64 a0_0)) (.int .i64 a0_1)) (.int .i64 a0_2)) (.int .i64 a0_3)) (.int .i64 a0_4)) (.string a0_5)) (.string a0_6)) (.string a0_7)) (.slice A0_8 l0_8.length c0_8)) (fun _ hk => by first | exact hk.1.1.1 | exact hk.1.1 | exact hk.1), beu HB.out⟩
end Go.Proofs.YtapfpdjcbeiibaaDoor.PAll
