
import Derived.Test.YtapfpdjcbeiibaaDoorQBatchBytesPBytx0
import Derived.Test.YtapfpdjcbeiibaaDoorQBatchBytesPBytx2
import Derived.Test.YtapfpdjcbeiibaaDoorQBatchBytesPBytx3
namespace Go.Proofs.YtapfpdjcbeiibaaDoor.PByt
open Go.RowKit Go.Proofs.YtapfpdjcbeiibaaDoorW.PrintWords Go.Proofs.YtapfpdjcbeiibaaDoorW.PrintLast Go.Proofs.YtapfpdjcbeiibaaDoorW.PrintMore
attribute [local go_sem] max2_int max_two
set_option linter.unusedVariables false
set_option linter.unusedSimpArgs false
mutual
def batch_Right.j0 : Nat → Bool → Int → Int → Int → Int → Int → ByteArray → ByteArray → ByteArray → List ByteArray → Option (Bool)
 | 0, _, _, _, _, _, _, _, _, _, _ => none
 | k + 1, x37, X0, X1, X2, X3, X4, X5, X6, X7, X8 => if x37 = true then (some false) else (if X3 < 1 then (batch_Right.j1 k true X0 X1 X2 X3 X4 X5 X6 X7 X8) else (if X3 > 2 then (batch_Right.j1 k true X0 X1 X2 X3 X4 X5 X6 X7 X8) else (if X4 < 1 then (batch_Right.j1 k true X0 X1 X2 X3 X4 X5 X6 X7 X8) else (batch_Right.j1 k (decide (X4 > 3)) X0 X1 X2 X3 X4 X5 X6 X7 X8))))
def batch_Right.j1 : Nat → Bool → Int → Int → Int → Int → Int → ByteArray → ByteArray → ByteArray → List ByteArray → Option (Bool)
 | 0, _, _, _, _, _, _, _, _, _, _ => none
 | k + 1, x55, X0, X1, X2, X3, X4, X5, X6, X7, X8 => if x55 = true then (some false) else (batch_Right.l0 k X8 (X8.length : Int) 0 X0 X1 X2 X3 X4 X5 X6 X7 X8)
def batch_Right.l0 : Nat → List ByteArray → Int → Int → Int → Int → Int → Int → Int → ByteArray → ByteArray → ByteArray → List ByteArray → Option (Bool)
 | 0, _, _, _, _, _, _, _, _, _, _, _, _ => none
 | k + 1, x57, x58, x59, X0, X1, X2, X3, X4, X5, X6, X7, X8 => if x59 < x58 then (if 0 ≤ x59 then (if x59 < (x57.length : Int) then ((label_Right.f (rdOf ByteArray.empty x57 x59)).bind fun t232 => (if t232 = true then (if x59 ≤ (X8.length : Int) then ((slices_Contains_string_string.f k (X8.take (x59 : Int).toNat) (rdOf ByteArray.empty x57 x59)).bind fun t234 => (if t234 = true then (some false) else (batch_Right.l0 k x57 x58 (wrap64 (x59 + 1)) X0 X1 X2 X3 X4 X5 X6 X7 X8))) else (none)) else (some false))) else (none)) else (none)) else (some true)
end
def batch_Right.f (k : Nat) (a0_0 : Int) (a0_1 : Int) (a0_2 : Int) (a0_3 : Int) (a0_4 : Int) (a0_5 : ByteArray) (a0_6 : ByteArray) (a0_7 : ByteArray) (l0_8 : List ByteArray) : Option (Bool) := if a0_0 < 1 then (batch_Right.j0 k true a0_0 a0_1 a0_2 a0_3 a0_4 a0_5 a0_6 a0_7 l0_8) else ((tally_Right.f a0_0).bind fun t227 => (if t227 = true then ((tally_Right.f a0_1).bind fun t228 => (if t228 = true then ((day_Right.f a0_2).bind fun t229 => (if t229 = true then (if (l0_8.length : Int) > 64 then (batch_Right.j0 k true a0_0 a0_1 a0_2 a0_3 a0_4 a0_5 a0_6 a0_7 l0_8) else ((batch_group.f a0_5 a0_6 a0_7).bind fun t230 => (batch_Right.j0 k (!t230) a0_0 a0_1 a0_2 a0_3 a0_4 a0_5 a0_6 a0_7 l0_8))) else (batch_Right.j0 k true a0_0 a0_1 a0_2 a0_3 a0_4 a0_5 a0_6 a0_7 l0_8))) else (batch_Right.j0 k true a0_0 a0_1 a0_2 a0_3 a0_4 a0_5 a0_6 a0_7 l0_8))) else (batch_Right.j0 k true a0_0 a0_1 a0_2 a0_3 a0_4 a0_5 a0_6 a0_7 l0_8)))
theorem batch_Right.mono_l : ∀ k, (∀ y0 y1 y2 y3 y4 y5 y6 y7 y8 y9, LeO (batch_Right.j0 k y0 y1 y2 y3 y4 y5 y6 y7 y8 y9) (batch_Right.j0 (k + 1) y0 y1 y2 y3 y4 y5 y6 y7 y8 y9)) ∧ (∀ y0 y1 y2 y3 y4 y5 y6 y7 y8 y9, LeO (batch_Right.j1 k y0 y1 y2 y3 y4 y5 y6 y7 y8 y9) (batch_Right.j1 (k + 1) y0 y1 y2 y3 y4 y5 y6 y7 y8 y9)) ∧ (∀ y0 y1 y2 y3 y4 y5 y6 y7 y8 y9 y10 y11, LeO (batch_Right.l0 k y0 y1 y2 y3 y4 y5 y6 y7 y8 y9 y10 y11) (batch_Right.l0 (k + 1) y0 y1 y2 y3 y4 y5 y6 y7 y8 y9 y10 y11))
 | 0 => ⟨fun _ _ _ _ _ _ _ _ _ _ r h => by simp [batch_Right.j0] at h, fun _ _ _ _ _ _ _ _ _ _ r h => by simp [batch_Right.j1] at h, fun _ _ _ _ _ _ _ _ _ _ _ _ r h => by simp [batch_Right.l0] at h⟩
 | k + 1 => by
  obtain ⟨ih0, ih1, ih2⟩ := batch_Right.mono_l k; refine ⟨?_, ?_, ?_⟩
  ·intro y0 y1 y2 y3 y4 y5 y6 y7 y8 y9
   unfold batch_Right.j0
   repeat' first
   | (with_reducible exact ih0 _ _ _ _ _ _ _ _ _ _)
   | (with_reducible exact ih1 _ _ _ _ _ _ _ _ _ _)
   | (with_reducible exact ih2 _ _ _ _ _ _ _ _ _ _ _ _)
   | (with_reducible exact slices_Contains_string_string.mono _ _ _)
   | (with_reducible exact LeO.refl _)
   | (with_reducible exact LeO.none _)
   | (with_reducible refine LeO.ite ?_ ?_)
   | (with_reducible refine LeO.bind ?_ (fun _ => ?_))
   | exact ih0 _ _ _ _ _ _ _ _ _ _
   | exact ih1 _ _ _ _ _ _ _ _ _ _
   | exact ih2 _ _ _ _ _ _ _ _ _ _ _ _
   | exact slices_Contains_string_string.mono _ _ _
   | exact LeO.none _
   | refine LeO.ite ?_ ?_
   | refine LeO.bind ?_ (fun _ => ?_)
  ·intro y0 y1 y2 y3 y4 y5 y6 y7 y8 y9
   unfold batch_Right.j1
   repeat' first
   | (with_reducible exact ih0 _ _ _ _ _ _ _ _ _ _)
   | (with_reducible exact ih1 _ _ _ _ _ _ _ _ _ _)
   | (with_reducible exact ih2 _ _ _ _ _ _ _ _ _ _ _ _)
   | (with_reducible exact slices_Contains_string_string.mono _ _ _)
   | (with_reducible exact LeO.refl _)
   | (with_reducible exact LeO.none _)
   | (with_reducible refine LeO.ite ?_ ?_)
   | (with_reducible refine LeO.bind ?_ (fun _ => ?_))
   | exact ih0 _ _ _ _ _ _ _ _ _ _
   | exact ih1 _ _ _ _ _ _ _ _ _ _
   | exact ih2 _ _ _ _ _ _ _ _ _ _ _ _
   | exact slices_Contains_string_string.mono _ _ _
   | exact LeO.none _
   | refine LeO.ite ?_ ?_
   | refine LeO.bind ?_ (fun _ => ?_)
  ·intro y0 y1 y2 y3 y4 y5 y6 y7 y8 y9 y10 y11
   unfold batch_Right.l0
   repeat' first
   | (with_reducible exact ih0 _ _ _ _ _ _ _ _ _ _)
   | (with_reducible exact ih1 _ _ _ _ _ _ _ _ _ _)
   | (with_reducible exact ih2 _ _ _ _ _ _ _ _ _ _ _ _)
   | (with_reducible exact slices_Contains_string_string.mono _ _ _)
   | (with_reducible exact LeO.refl _)
   | (with_reducible exact LeO.none _)
   | (with_reducible refine LeO.ite ?_ ?_)
   | (with_reducible refine LeO.bind ?_ (fun _ => ?_))
   | exact ih0 _ _ _ _ _ _ _ _ _ _
   | exact ih1 _ _ _ _ _ _ _ _ _ _
   | exact ih2 _ _ _ _ _ _ _ _ _ _ _ _
   | exact slices_Contains_string_string.mono _ _ _
   | exact LeO.none _
   | refine LeO.ite ?_ ?_
   | refine LeO.bind ?_ (fun _ => ?_)
set_option maxHeartbeats 8000000 in
set_option maxRecDepth 100000 in
theorem batch_Right.calls (k : Nat) (a0_0 : Int) (a0_1 : Int) (a0_2 : Int) (a0_3 : Int) (a0_4 : Int) (a0_5 : ByteArray) (a0_6 : ByteArray) (a0_7 : ByteArray) (A0_8 : Option Addr) (c0_8 : Nat) (l0_8 : List ByteArray) (r : Bool) (w : World) (hr0_8 : Kd.C Kd.string w A0_8 l0_8.length l0_8) (hc0_8 : l0_8.length ≤ c0_8) (hT : Tabs w) (h : batch_Right.f k a0_0 a0_1 a0_2 a0_3 a0_4 a0_5 a0_6 a0_7 l0_8 = some r) :
  Calls Tryd.prog 14 #[.agg #[.int .i64 a0_0, .int .i64 a0_1, .int .i64 a0_2, .int .i64 a0_3, .int .i64 a0_4, .string a0_5, .string a0_6, .string a0_7, .slice A0_8 l0_8.length c0_8]] w fun e w' => e = .returned (.bool r) ∧ Below w.heap.size w w' := by
 have hu31 := Tryd.underlying31; have hu28 := Tryd.underlying28; have HR0_8 := am hr0_8; have HC0_8 := am hc0_8; clear hr0_8 hc0_8; have HT := am hT; clear hT; have HB := am (Below.refl w.heap.size w); have H : (if a0_0 < 1 then (batch_Right.j0 k true a0_0 a0_1 a0_2 a0_3 a0_4 a0_5 a0_6 a0_7 l0_8) else ((tally_Right.f a0_0).bind fun t227 => (if t227 = true then ((tally_Right.f a0_1).bind fun t228 => (if t228 = true then ((day_Right.f a0_2).bind fun t229 => (if t229 = true then (if (l0_8.length : Int) > 64 then (batch_Right.j0 k true a0_0 a0_1 a0_2 a0_3 a0_4 a0_5 a0_6 a0_7 l0_8) else ((batch_group.f a0_5 a0_6 a0_7).bind fun t230 => (batch_Right.j0 k (!t230) a0_0 a0_1 a0_2 a0_3 a0_4 a0_5 a0_6 a0_7 l0_8))) else (batch_Right.j0 k true a0_0 a0_1 a0_2 a0_3 a0_4 a0_5 a0_6 a0_7 l0_8))) else (batch_Right.j0 k true a0_0 a0_1 a0_2 a0_3 a0_4 a0_5 a0_6 a0_7 l0_8))) else (batch_Right.j0 k true a0_0 a0_1 a0_2 a0_3 a0_4 a0_5 a0_6 a0_7 l0_8)))) = some r := h; clear h; have HC2 := am H; clear H
 go_enter Tryd.func14, Tryd.ntmps14
 go_upto_region 1 with (first | ((with_reducible refine gate_dst (N := 1) rfl ?_); (try (refine gate_guard (by rfl) ?_; dsimp only)); refine box_event ?hg (N := 1) ?hd (cs := #[.int .i64 a0_0, .int .i64 a0_1, .int .i64 a0_2, .int .i64 a0_3, .int .i64 a0_4, .string a0_5, .string a0_6, .string a0_7, .slice A0_8 l0_8.length c0_8]) (t := 31) ?hr ?_; (case hd => rfl); (case hg => rfl); (case hr => first | (go_simp; done) | (go_simp; rfl)); intro gb226 hg w3 hbox hb; have _ := am (below_step (beu HB.out) hb); have _ := am (hbox); have _ := am ((by rw [hg]; exact (below_size (beu HB.out)) : w.heap.size ≤ gb226)); have _ := am ((by rw [hg]; exact (below_size (beu HB.out)) : w.heap.size ≤ gb226)); clear HB; rename_i HB BK226 GW226 GE226; clear hb hbox hg))
 (try simp only [Act.put, sA, sB, sC])
 go_cut [37] (fun v37 wc => ∃ (kq : Nat) (x37_1 : Bool), v37 = .bool x37_1 ∧ Aside0 (batch_Right.j0 kq x37_1 a0_0 a0_1 a0_2 a0_3 a0_4 a0_5 a0_6 a0_7 l0_8 = some r) ∧ Aside0 (kq ≤ k) ∧ Aside0 (wc.heap[gb226]? = some (.cells #[.int .i64 a0_0, .int .i64 a0_1, .int .i64 a0_2, .int .i64 a0_3, .int .i64 a0_4, .string a0_5, .string a0_6, .string a0_7, (.slice A0_8 l0_8.length c0_8)] 31 (0, 0))) ∧ Aside0 (Below w.heap.size w wc))
 case first =>
  have H := HC2.out; clear HC2
  by_cases c4 : a0_0 < 1
  ·rw [if_pos c4] at H
   have c4b0 : decide (a0_0 < 1) = true := decide_eq_true c4; clear c4
   (first | rw [c4b0] | (simp only [i64_w, i32_w]; rw [c4b0]) | skip)
   have H' := am H; clear H; obtain ⟨hcz5_0, hcz5_1, hcz5_2, hcz5_3, hcz5_4, hcz5_5, hcz5_6, hcz5_7, hcz5_8⟩ := cells9 BK226.out; obtain ⟨hfz5_0, hfz5_1, hfz5_2, hfz5_3, hfz5_4, hfz5_5, hfz5_6, hfz5_7, hfz5_8⟩ := frozens9 BK226.out
   go_wp2
   go_meet
   case rel => exact ⟨_, (true), ap3, H', ⟨by first | omega | exact Nat.le_refl _⟩, ⟨by refine bu ?_; exact BK226.out⟩, ⟨beu HB.out⟩⟩
  ·rw [if_neg c4] at H
   have c4b0 : decide (a0_0 < 1) = false := decide_eq_false c4; clear c4
   (first | rw [c4b0] | (simp only [i64_w, i32_w]; rw [c4b0]) | skip)
   replace H := obm H; obtain ⟨t227, A60, H⟩ := H; replace H : (if t227 = true then ((tally_Right.f a0_1).bind fun t228 => (if t228 = true then ((day_Right.f a0_2).bind fun t229 => (if t229 = true then (if (l0_8.length : Int) > 64 then (batch_Right.j0 k true a0_0 a0_1 a0_2 a0_3 a0_4 a0_5 a0_6 a0_7 l0_8) else ((batch_group.f a0_5 a0_6 a0_7).bind fun t230 => (batch_Right.j0 k (!t230) a0_0 a0_1 a0_2 a0_3 a0_4 a0_5 a0_6 a0_7 l0_8))) else (batch_Right.j0 k true a0_0 a0_1 a0_2 a0_3 a0_4 a0_5 a0_6 a0_7 l0_8))) else (batch_Right.j0 k true a0_0 a0_1 a0_2 a0_3 a0_4 a0_5 a0_6 a0_7 l0_8))) else (batch_Right.j0 k true a0_0 a0_1 a0_2 a0_3 a0_4 a0_5 a0_6 a0_7 l0_8)) = some r := H; have A6 := am A60; clear A60
   by_cases c7 : t227 = true
   ·subst c7
    have H1 : ((tally_Right.f a0_1).bind fun t228 => (if t228 = true then ((day_Right.f a0_2).bind fun t229 => (if t229 = true then (if (l0_8.length : Int) > 64 then (batch_Right.j0 k true a0_0 a0_1 a0_2 a0_3 a0_4 a0_5 a0_6 a0_7 l0_8) else ((batch_group.f a0_5 a0_6 a0_7).bind fun t230 => (batch_Right.j0 k (!t230) a0_0 a0_1 a0_2 a0_3 a0_4 a0_5 a0_6 a0_7 l0_8))) else (batch_Right.j0 k true a0_0 a0_1 a0_2 a0_3 a0_4 a0_5 a0_6 a0_7 l0_8))) else (batch_Right.j0 k true a0_0 a0_1 a0_2 a0_3 a0_4 a0_5 a0_6 a0_7 l0_8))) = some r := by rw [if_pos rfl] at H; exact H
    clear H; have H := H1; clear H1; replace H := obm H; obtain ⟨t228, A80, H⟩ := H; replace H : (if t228 = true then ((day_Right.f a0_2).bind fun t229 => (if t229 = true then (if (l0_8.length : Int) > 64 then (batch_Right.j0 k true a0_0 a0_1 a0_2 a0_3 a0_4 a0_5 a0_6 a0_7 l0_8) else ((batch_group.f a0_5 a0_6 a0_7).bind fun t230 => (batch_Right.j0 k (!t230) a0_0 a0_1 a0_2 a0_3 a0_4 a0_5 a0_6 a0_7 l0_8))) else (batch_Right.j0 k true a0_0 a0_1 a0_2 a0_3 a0_4 a0_5 a0_6 a0_7 l0_8))) else (batch_Right.j0 k true a0_0 a0_1 a0_2 a0_3 a0_4 a0_5 a0_6 a0_7 l0_8)) = some r := H; have A8 := am A80; clear A80
    by_cases c9 : t228 = true
    ·subst c9
     have H1 : ((day_Right.f a0_2).bind fun t229 => (if t229 = true then (if (l0_8.length : Int) > 64 then (batch_Right.j0 k true a0_0 a0_1 a0_2 a0_3 a0_4 a0_5 a0_6 a0_7 l0_8) else ((batch_group.f a0_5 a0_6 a0_7).bind fun t230 => (batch_Right.j0 k (!t230) a0_0 a0_1 a0_2 a0_3 a0_4 a0_5 a0_6 a0_7 l0_8))) else (batch_Right.j0 k true a0_0 a0_1 a0_2 a0_3 a0_4 a0_5 a0_6 a0_7 l0_8))) = some r := by rw [if_pos rfl] at H; exact H
     clear H; have H := H1; clear H1; replace H := obm H; obtain ⟨t229, A100, H⟩ := H; replace H : (if t229 = true then (if (l0_8.length : Int) > 64 then (batch_Right.j0 k true a0_0 a0_1 a0_2 a0_3 a0_4 a0_5 a0_6 a0_7 l0_8) else ((batch_group.f a0_5 a0_6 a0_7).bind fun t230 => (batch_Right.j0 k (!t230) a0_0 a0_1 a0_2 a0_3 a0_4 a0_5 a0_6 a0_7 l0_8))) else (batch_Right.j0 k true a0_0 a0_1 a0_2 a0_3 a0_4 a0_5 a0_6 a0_7 l0_8)) = some r := H; have A10 := am A100; clear A100
     by_cases c11 : t229 = true
     ·subst c11
      have H1 : (if (l0_8.length : Int) > 64 then (batch_Right.j0 k true a0_0 a0_1 a0_2 a0_3 a0_4 a0_5 a0_6 a0_7 l0_8) else ((batch_group.f a0_5 a0_6 a0_7).bind fun t230 => (batch_Right.j0 k (!t230) a0_0 a0_1 a0_2 a0_3 a0_4 a0_5 a0_6 a0_7 l0_8))) = some r := by rw [if_pos rfl] at H; exact H
      clear H; have H := H1; clear H1
      by_cases c12 : (l0_8.length : Int) > 64
      ·rw [if_pos c12] at H
       have c12b0 : decide (64 < (l0_8.length : Int)) = true := decide_eq_true c12; have c12b1 : decide (64 < l0_8.length) = true := decide_eq_true (by omega); clear c12; have H' := am H; clear H; obtain ⟨hcz13_0, hcz13_1, hcz13_2, hcz13_3, hcz13_4, hcz13_5, hcz13_6, hcz13_7, hcz13_8⟩ := cells9 BK226.out; obtain ⟨hfz13_0, hfz13_1, hfz13_2, hfz13_3, hfz13_4, hfz13_5, hfz13_6, hfz13_7, hfz13_8⟩ := frozens9 BK226.out
       go_wp2_with (first | (go_at_call 31; (with_reducible refine (tally_Right.calls a0_0 true _ A6.out).mono ?_); rintro e w' ⟨rfl, ⟨nd, rfl⟩⟩) | (go_at_call 31; (with_reducible refine (tally_Right.calls a0_1 true _ A8.out).mono ?_); rintro e w' ⟨rfl, ⟨nd, rfl⟩⟩) | (go_at_call 35; (with_reducible refine (day_Right.calls a0_2 true _ A10.out).mono ?_); rintro e w' ⟨rfl, ⟨nd, rfl⟩⟩))
       go_meet
       case rel => exact ⟨_, (true), ap3, H', ⟨by first | omega | exact Nat.le_refl _⟩, ⟨by refine bu ?_; exact BK226.out⟩, ⟨beu HB.out⟩⟩
      ·rw [if_neg c12] at H
       have c12b0 : decide (64 < (l0_8.length : Int)) = false := decide_eq_false c12; have c12b1 : decide (64 < l0_8.length) = false := decide_eq_false (by omega); clear c12; replace H := obm H; obtain ⟨t230, A140, H⟩ := H; replace H : (batch_Right.j0 k (!t230) a0_0 a0_1 a0_2 a0_3 a0_4 a0_5 a0_6 a0_7 l0_8) = some r := H; have A14 := am A140; clear A140; have H' := am H; clear H; obtain ⟨hcz15_0, hcz15_1, hcz15_2, hcz15_3, hcz15_4, hcz15_5, hcz15_6, hcz15_7, hcz15_8⟩ := cells9 BK226.out; obtain ⟨hfz15_0, hfz15_1, hfz15_2, hfz15_3, hfz15_4, hfz15_5, hfz15_6, hfz15_7, hfz15_8⟩ := frozens9 BK226.out
       go_wp2_with (first | (go_at_call 31; (with_reducible refine (tally_Right.calls a0_0 true _ A6.out).mono ?_); rintro e w' ⟨rfl, ⟨nd, rfl⟩⟩) | (go_at_call 31; (with_reducible refine (tally_Right.calls a0_1 true _ A8.out).mono ?_); rintro e w' ⟨rfl, ⟨nd, rfl⟩⟩) | (go_at_call 35; (with_reducible refine (day_Right.calls a0_2 true _ A10.out).mono ?_); rintro e w' ⟨rfl, ⟨nd, rfl⟩⟩) | (go_at_call 36; (with_reducible refine (batch_group.calls a0_5 a0_6 a0_7 t230 _ ?side1 A14.out).mono ?_); (case side1 => first | exact HT.out | exact Tabs.below HT.out (beu HB.out)); rintro e w16 ⟨rfl, hb⟩; have _ := am (blk_below (bu BK226.out) hb); have _ := am (below_step (beu HB.out) hb); clear BK226 HB; rename_i BK226 HB; (try clear hb)))
       go_meet
       case rel => exact ⟨_, (!t230), ap3, H', ⟨by first | omega | exact Nat.le_refl _⟩, ⟨by refine bu ?_; exact BK226.out⟩, ⟨beu HB.out⟩⟩
     ·replace c11 := Bool.eq_false_iff.mpr c11
      subst c11
      have H1 : (batch_Right.j0 k true a0_0 a0_1 a0_2 a0_3 a0_4 a0_5 a0_6 a0_7 l0_8) = some r := by rw [if_neg (show ¬ (false = true) by decide)] at H; exact H
      clear H; have H := H1; clear H1; have H' := am H; clear H; obtain ⟨hcz17_0, hcz17_1, hcz17_2, hcz17_3, hcz17_4, hcz17_5, hcz17_6, hcz17_7, hcz17_8⟩ := cells9 BK226.out; obtain ⟨hfz17_0, hfz17_1, hfz17_2, hfz17_3, hfz17_4, hfz17_5, hfz17_6, hfz17_7, hfz17_8⟩ := frozens9 BK226.out
      go_wp2_with (first | (go_at_call 31; (with_reducible refine (tally_Right.calls a0_0 true _ A6.out).mono ?_); rintro e w' ⟨rfl, ⟨nd, rfl⟩⟩) | (go_at_call 31; (with_reducible refine (tally_Right.calls a0_1 true _ A8.out).mono ?_); rintro e w' ⟨rfl, ⟨nd, rfl⟩⟩) | (go_at_call 35; (with_reducible refine (day_Right.calls a0_2 false _ A10.out).mono ?_); rintro e w' ⟨rfl, ⟨nd, rfl⟩⟩))
      go_meet
      case rel => exact ⟨_, (true), ap3, H', ⟨by first | omega | exact Nat.le_refl _⟩, ⟨by refine bu ?_; exact BK226.out⟩, ⟨beu HB.out⟩⟩
    ·replace c9 := Bool.eq_false_iff.mpr c9
     subst c9
     have H1 : (batch_Right.j0 k true a0_0 a0_1 a0_2 a0_3 a0_4 a0_5 a0_6 a0_7 l0_8) = some r := by rw [if_neg (show ¬ (false = true) by decide)] at H; exact H
     clear H; have H := H1; clear H1; have H' := am H; clear H; obtain ⟨hcz18_0, hcz18_1, hcz18_2, hcz18_3, hcz18_4, hcz18_5, hcz18_6, hcz18_7, hcz18_8⟩ := cells9 BK226.out; obtain ⟨hfz18_0, hfz18_1, hfz18_2, hfz18_3, hfz18_4, hfz18_5, hfz18_6, hfz18_7, hfz18_8⟩ := frozens9 BK226.out
     go_wp2_with (first | (go_at_call 31; (with_reducible refine (tally_Right.calls a0_0 true _ A6.out).mono ?_); rintro e w' ⟨rfl, ⟨nd, rfl⟩⟩) | (go_at_call 31; (with_reducible refine (tally_Right.calls a0_1 false _ A8.out).mono ?_); rintro e w' ⟨rfl, ⟨nd, rfl⟩⟩))
     go_meet
     case rel => exact ⟨_, (true), ap3, H', ⟨by first | omega | exact Nat.le_refl _⟩, ⟨by refine bu ?_; exact BK226.out⟩, ⟨beu HB.out⟩⟩
   ·replace c7 := Bool.eq_false_iff.mpr c7
    subst c7
    have H1 : (batch_Right.j0 k true a0_0 a0_1 a0_2 a0_3 a0_4 a0_5 a0_6 a0_7 l0_8) = some r := by rw [if_neg (show ¬ (false = true) by decide)] at H; exact H
    clear H; have H := H1; clear H1; have H' := am H; clear H; obtain ⟨hcz19_0, hcz19_1, hcz19_2, hcz19_3, hcz19_4, hcz19_5, hcz19_6, hcz19_7, hcz19_8⟩ := cells9 BK226.out; obtain ⟨hfz19_0, hfz19_1, hfz19_2, hfz19_3, hfz19_4, hfz19_5, hfz19_6, hfz19_7, hfz19_8⟩ := frozens9 BK226.out
    go_wp2_with (first | (go_at_call 31; (with_reducible refine (tally_Right.calls a0_0 false _ A6.out).mono ?_); rintro e w' ⟨rfl, ⟨nd, rfl⟩⟩))
    go_meet
    case rel => exact ⟨_, (true), ap3, H', ⟨by first | omega | exact Nat.le_refl _⟩, ⟨by refine bu ?_; exact BK226.out⟩, ⟨beu HB.out⟩⟩
 case rest =>
  clear HC2; (try clear c1); (try clear p2); (try clear c4); (try clear c4b0); (try clear c7); (try clear c9); (try clear c11); (try clear c12); (try clear c12b0); (try clear c12b1); (try clear c14); (try clear hcz13_0); (try clear hcz13_1); (try clear hcz13_2); (try clear hcz13_3); (try clear hcz13_4); (try clear hcz13_5); (try clear hcz13_6); (try clear hcz13_7); (try clear hcz13_8); (try clear hcz15_0); (try clear hcz15_1); (try clear hcz15_2); (try clear hcz15_3); (try clear hcz15_4); (try clear hcz15_5); (try clear hcz15_6); (try clear hcz15_7); (try clear hcz15_8); (try clear hcz17_0); (try clear hcz17_1); (try clear hcz17_2); (try clear hcz17_3); (try clear hcz17_4); (try clear hcz17_5); (try clear hcz17_6); (try clear hcz17_7); (try clear hcz17_8); (try clear hcz18_0); (try clear hcz18_1); (try clear hcz18_2); (try clear hcz18_3); (try clear hcz18_4); (try clear hcz18_5); (try clear hcz18_6); (try clear hcz18_7); (try clear hcz18_8); (try clear hcz19_0); (try clear hcz19_1); (try clear hcz19_2); (try clear hcz19_3); (try clear hcz19_4); (try clear hcz19_5); (try clear hcz19_6); (try clear hcz19_7); (try clear hcz19_8); (try clear hcz5_0); (try clear hcz5_1); (try clear hcz5_2); (try clear hcz5_3); (try clear hcz5_4); (try clear hcz5_5); (try clear hcz5_6); (try clear hcz5_7); (try clear hcz5_8); (try clear hfz13_0); (try clear hfz13_1); (try clear hfz13_2); (try clear hfz13_3); (try clear hfz13_4); (try clear hfz13_5); (try clear hfz13_6); (try clear hfz13_7); (try clear hfz13_8); (try clear hfz15_0); (try clear hfz15_1); (try clear hfz15_2); (try clear hfz15_3); (try clear hfz15_4); (try clear hfz15_5); (try clear hfz15_6); (try clear hfz15_7); (try clear hfz15_8); (try clear hfz17_0); (try clear hfz17_1); (try clear hfz17_2); (try clear hfz17_3); (try clear hfz17_4); (try clear hfz17_5); (try clear hfz17_6); (try clear hfz17_7); (try clear hfz17_8); (try clear hfz18_0); (try clear hfz18_1); (try clear hfz18_2); (try clear hfz18_3); (try clear hfz18_4); (try clear hfz18_5); (try clear hfz18_6); (try clear hfz18_7); (try clear hfz18_8); (try clear hfz19_0); (try clear hfz19_1); (try clear hfz19_2); (try clear hfz19_3); (try clear hfz19_4); (try clear hfz19_5); (try clear hfz19_6); (try clear hfz19_7); (try clear hfz19_8); (try clear hfz5_0); (try clear hfz5_1); (try clear hfz5_2); (try clear hfz5_3); (try clear hfz5_4); (try clear hfz5_5); (try clear hfz5_6); (try clear hfz5_7); (try clear hfz5_8); obtain ⟨kq, x37_1, rfl, HA, HJ1, BK226, HB⟩ := hcut
  cases kq with
  | zero => exact absurd HA.out (by simp [batch_Right.j0])
  | succ kj1 =>
   have H := HA.out; clear HA; simp only [batch_Right.j0] at H
   by_cases c20 : x37_1 = true
   ·subst c20
    have H1 : (some false) = some r := by rw [if_pos rfl] at H; exact H
    clear H; have H := H1; clear H1; obtain rfl := Option.some.inj H; simp only [Option.some.injEq, Prod.mk.injEq] at H; obtain ⟨rfl⟩ := H
    go_wp2
    go_ret
    exact ⟨ap4, beu HB.out⟩
   ·replace c20 := Bool.eq_false_iff.mpr c20
    subst c20
    have H1 : (if a0_3 < 1 then (batch_Right.j1 kj1 true a0_0 a0_1 a0_2 a0_3 a0_4 a0_5 a0_6 a0_7 l0_8) else (if a0_3 > 2 then (batch_Right.j1 kj1 true a0_0 a0_1 a0_2 a0_3 a0_4 a0_5 a0_6 a0_7 l0_8) else (if a0_4 < 1 then (batch_Right.j1 kj1 true a0_0 a0_1 a0_2 a0_3 a0_4 a0_5 a0_6 a0_7 l0_8) else (batch_Right.j1 kj1 (decide (a0_4 > 3)) a0_0 a0_1 a0_2 a0_3 a0_4 a0_5 a0_6 a0_7 l0_8)))) = some r := by rw [if_neg (show ¬ (false = true) by decide)] at H; exact H
    clear H; have H := H1; clear H1; have HC21 := am H; clear H
    go_upto_region 3 with (fail)
    go_cut [55] (fun v55 wc => ∃ (kq : Nat) (x55_20 : Bool), v55 = .bool x55_20 ∧ Aside0 (batch_Right.j1 kq x55_20 a0_0 a0_1 a0_2 a0_3 a0_4 a0_5 a0_6 a0_7 l0_8 = some r) ∧ Aside0 (kq ≤ kj1) ∧ Aside0 (wc.heap[gb226]? = some (.cells #[.int .i64 a0_0, .int .i64 a0_1, .int .i64 a0_2, .int .i64 a0_3, .int .i64 a0_4, .string a0_5, .string a0_6, .string a0_7, (.slice A0_8 l0_8.length c0_8)] 31 (0, 0))) ∧ Aside0 (Below w.heap.size w wc))
    case first =>
     have H := HC21.out; clear HC21
     by_cases c22 : a0_3 < 1
     ·rw [if_pos c22] at H
      have c22b0 : decide (a0_3 < 1) = true := decide_eq_true c22; clear c22
      (first | rw [c22b0] | (simp only [i64_w, i32_w]; rw [c22b0]) | skip)
      have H' := am H; clear H; obtain ⟨hcz23_0, hcz23_1, hcz23_2, hcz23_3, hcz23_4, hcz23_5, hcz23_6, hcz23_7, hcz23_8⟩ := cells9 BK226.out; obtain ⟨hfz23_0, hfz23_1, hfz23_2, hfz23_3, hfz23_4, hfz23_5, hfz23_6, hfz23_7, hfz23_8⟩ := frozens9 BK226.out
      go_wp2
      go_meet
      case rel => exact ⟨_, (true), ap3, H', ⟨by have := HJ1.out; first | omega | exact Nat.le_refl _⟩, ⟨by refine bu ?_; exact BK226.out⟩, ⟨beu HB.out⟩⟩
     ·rw [if_neg c22] at H
      have c22b0 : decide (a0_3 < 1) = false := decide_eq_false c22; clear c22
      (first | rw [c22b0] | (simp only [i64_w, i32_w]; rw [c22b0]) | skip)
      by_cases c24 : a0_3 > 2
      ·rw [if_pos c24] at H
       have c24b0 : decide (2 < a0_3) = true := decide_eq_true c24; clear c24; have H' := am H; clear H; obtain ⟨hcz25_0, hcz25_1, hcz25_2, hcz25_3, hcz25_4, hcz25_5, hcz25_6, hcz25_7, hcz25_8⟩ := cells9 BK226.out; obtain ⟨hfz25_0, hfz25_1, hfz25_2, hfz25_3, hfz25_4, hfz25_5, hfz25_6, hfz25_7, hfz25_8⟩ := frozens9 BK226.out
       go_wp2
       go_meet
       case rel => exact ⟨_, (true), ap3, H', ⟨by have := HJ1.out; first | omega | exact Nat.le_refl _⟩, ⟨by refine bu ?_; exact BK226.out⟩, ⟨beu HB.out⟩⟩
      ·rw [if_neg c24] at H
       have c24b0 : decide (2 < a0_3) = false := decide_eq_false c24; clear c24
       by_cases c26 : a0_4 < 1
       ·rw [if_pos c26] at H
        have c26b0 : decide (a0_4 < 1) = true := decide_eq_true c26; clear c26; have H' := am H; clear H; obtain ⟨hcz27_0, hcz27_1, hcz27_2, hcz27_3, hcz27_4, hcz27_5, hcz27_6, hcz27_7, hcz27_8⟩ := cells9 BK226.out; obtain ⟨hfz27_0, hfz27_1, hfz27_2, hfz27_3, hfz27_4, hfz27_5, hfz27_6, hfz27_7, hfz27_8⟩ := frozens9 BK226.out
        go_wp2
        go_meet
        case rel => exact ⟨_, (true), ap3, H', ⟨by have := HJ1.out; first | omega | exact Nat.le_refl _⟩, ⟨by refine bu ?_; exact BK226.out⟩, ⟨beu HB.out⟩⟩
       ·rw [if_neg c26] at H
        have c26b0 : decide (a0_4 < 1) = false := decide_eq_false c26; clear c26; have H' := am H; clear H; obtain ⟨hcz28_0, hcz28_1, hcz28_2, hcz28_3, hcz28_4, hcz28_5, hcz28_6, hcz28_7, hcz28_8⟩ := cells9 BK226.out; obtain ⟨hfz28_0, hfz28_1, hfz28_2, hfz28_3, hfz28_4, hfz28_5, hfz28_6, hfz28_7, hfz28_8⟩ := frozens9 BK226.out
        go_wp2
        go_meet
        case rel => exact ⟨_, (decide (a0_4 > 3)), ap3, H', ⟨by have := HJ1.out; first | omega | exact Nat.le_refl _⟩, ⟨by refine bu ?_; exact BK226.out⟩, ⟨beu HB.out⟩⟩
    case rest =>
     clear HC21; (try clear c1); (try clear c2); (try clear p2); (try clear c4); (try clear c4b0); (try clear c7); (try clear c9); (try clear c11); (try clear c12); (try clear c12b0); (try clear c12b1); (try clear c14); (try clear c20); (try clear c22); (try clear c22b0); (try clear c24); (try clear c24b0); (try clear c26); (try clear c26b0); (try clear hcz13_0); (try clear hcz13_1); (try clear hcz13_2); (try clear hcz13_3); (try clear hcz13_4); (try clear hcz13_5); (try clear hcz13_6); (try clear hcz13_7); (try clear hcz13_8); (try clear hcz15_0); (try clear hcz15_1); (try clear hcz15_2); (try clear hcz15_3); (try clear hcz15_4); (try clear hcz15_5); (try clear hcz15_6); (try clear hcz15_7); (try clear hcz15_8); (try clear hcz17_0); (try clear hcz17_1); (try clear hcz17_2); (try clear hcz17_3); (try clear hcz17_4); (try clear hcz17_5); (try clear hcz17_6); (try clear hcz17_7); (try clear hcz17_8); (try clear hcz18_0); (try clear hcz18_1); (try clear hcz18_2); (try clear hcz18_3); (try clear hcz18_4); (try clear hcz18_5); (try clear hcz18_6); (try clear hcz18_7); (try clear hcz18_8); (try clear hcz19_0); (try clear hcz19_1); (try clear hcz19_2); (try clear hcz19_3); (try clear hcz19_4); (try clear hcz19_5); (try clear hcz19_6); (try clear hcz19_7); (try clear hcz19_8); (try clear hcz23_0); (try clear hcz23_1); (try clear hcz23_2); (try clear hcz23_3); (try clear hcz23_4); (try clear hcz23_5); (try clear hcz23_6); (try clear hcz23_7); (try clear hcz23_8); (try clear hcz25_0); (try clear hcz25_1); (try clear hcz25_2); (try clear hcz25_3); (try clear hcz25_4); (try clear hcz25_5); (try clear hcz25_6); (try clear hcz25_7); (try clear hcz25_8); (try clear hcz27_0); (try clear hcz27_1); (try clear hcz27_2); (try clear hcz27_3); (try clear hcz27_4); (try clear hcz27_5); (try clear hcz27_6); (try clear hcz27_7); (try clear hcz27_8); (try clear hcz28_0); (try clear hcz28_1); (try clear hcz28_2); (try clear hcz28_3); (try clear hcz28_4); (try clear hcz28_5); (try clear hcz28_6); (try clear hcz28_7); (try clear hcz28_8); (try clear hcz5_0); (try clear hcz5_1); (try clear hcz5_2); (try clear hcz5_3); (try clear hcz5_4); (try clear hcz5_5); (try clear hcz5_6); (try clear hcz5_7); (try clear hcz5_8); (try clear hfz13_0); (try clear hfz13_1); (try clear hfz13_2); (try clear hfz13_3); (try clear hfz13_4); (try clear hfz13_5); (try clear hfz13_6); (try clear hfz13_7); (try clear hfz13_8); (try clear hfz15_0); (try clear hfz15_1); (try clear hfz15_2); (try clear hfz15_3); (try clear hfz15_4); (try clear hfz15_5); (try clear hfz15_6); (try clear hfz15_7); (try clear hfz15_8); (try clear hfz17_0); (try clear hfz17_1); (try clear hfz17_2); (try clear hfz17_3); (try clear hfz17_4); (try clear hfz17_5); (try clear hfz17_6); (try clear hfz17_7); (try clear hfz17_8); (try clear hfz18_0); (try clear hfz18_1); (try clear hfz18_2); (try clear hfz18_3); (try clear hfz18_4); (try clear hfz18_5); (try clear hfz18_6); (try clear hfz18_7); (try clear hfz18_8); (try clear hfz19_0); (try clear hfz19_1); (try clear hfz19_2); (try clear hfz19_3); (try clear hfz19_4); (try clear hfz19_5); (try clear hfz19_6); (try clear hfz19_7); (try clear hfz19_8); (try clear hfz23_0); (try clear hfz23_1); (try clear hfz23_2); (try clear hfz23_3); (try clear hfz23_4); (try clear hfz23_5); (try clear hfz23_6); (try clear hfz23_7); (try clear hfz23_8); (try clear hfz25_0); (try clear hfz25_1); (try clear hfz25_2); (try clear hfz25_3); (try clear hfz25_4); (try clear hfz25_5); (try clear hfz25_6); (try clear hfz25_7); (try clear hfz25_8); (try clear hfz27_0); (try clear hfz27_1); (try clear hfz27_2); (try clear hfz27_3); (try clear hfz27_4); (try clear hfz27_5); (try clear hfz27_6); (try clear hfz27_7); (try clear hfz27_8); (try clear hfz28_0); (try clear hfz28_1); (try clear hfz28_2); (try clear hfz28_3); (try clear hfz28_4); (try clear hfz28_5); (try clear hfz28_6); (try clear hfz28_7); (try clear hfz28_8); (try clear hfz5_0); (try clear hfz5_1); (try clear hfz5_2); (try clear hfz5_3)
     (try clear hfz5_4); (try clear hfz5_5); (try clear hfz5_6); (try clear hfz5_7); (try clear hfz5_8); (try clear p2); obtain ⟨kq, x55_20, rfl, HA, HJ20, BK226, HB⟩ := hcut
     cases kq with
     | zero => exact absurd HA.out (by simp [batch_Right.j1])
     | succ kj20 =>
      have H := HA.out; clear HA; simp only [batch_Right.j1] at H
      by_cases c29 : x55_20 = true
      ·subst c29
       have H1 : (some false) = some r := by rw [if_pos rfl] at H; exact H
       clear H; have H := H1; clear H1; obtain rfl := Option.some.inj H; simp only [Option.some.injEq, Prod.mk.injEq] at H; obtain ⟨rfl⟩ := H
       go_wp2
       go_ret
       exact ⟨ap4, beu HB.out⟩
      ·replace c29 := Bool.eq_false_iff.mpr c29
       subst c29
       have H1 : (batch_Right.l0 kj20 l0_8 (l0_8.length : Int) 0 a0_0 a0_1 a0_2 a0_3 a0_4 a0_5 a0_6 a0_7 l0_8) = some r := by rw [if_neg (show ¬ (false = true) by decide)] at H; exact H
       clear H; have H := H1; clear H1; have H' := am H; clear H; obtain ⟨hcz30_0, hcz30_1, hcz30_2, hcz30_3, hcz30_4, hcz30_5, hcz30_6, hcz30_7, hcz30_8⟩ := cells9 BK226.out; obtain ⟨hfz30_0, hfz30_1, hfz30_2, hfz30_3, hfz30_4, hfz30_5, hfz30_6, hfz30_7, hfz30_8⟩ := frozens9 BK226.out
       go_wp2
       go_loopg [59] kj20 (fun kq v59 w' => ∃ (x59_3 : Int), v59 = .int .i64 x59_3 ∧ Aside0 (batch_Right.l0 kq l0_8 (l0_8.length : Int) x59_3 a0_0 a0_1 a0_2 a0_3 a0_4 a0_5 a0_6 a0_7 l0_8 = some r) ∧ Aside0 (kq ≤ kj20) ∧ Aside0 (w'.heap[gb226]? = some (.cells #[.int .i64 a0_0, .int .i64 a0_1, .int .i64 a0_2, .int .i64 a0_3, .int .i64 a0_4, .string a0_5, .string a0_6, .string a0_7, (.slice A0_8 l0_8.length c0_8)] 31 (0, 0))) ∧ Aside0 (Below w.heap.size w w'))
       case atStart => exact ⟨(0), ap3, H', ⟨Nat.le_refl _⟩, ⟨by refine bu ?_; exact BK226.out⟩, ⟨beu HB.out⟩⟩
       case round =>
        clear H'; (try clear c1); (try clear c2); (try clear p2); (try clear c4); (try clear c4b0); (try clear c7); (try clear c9); (try clear c11); (try clear c12); (try clear c12b0); (try clear c12b1); (try clear c14); (try clear c20); (try clear c22); (try clear c22b0); (try clear c24); (try clear c24b0); (try clear c26); (try clear c26b0); (try clear c29); (try clear hcz13_0); (try clear hcz13_1); (try clear hcz13_2); (try clear hcz13_3); (try clear hcz13_4); (try clear hcz13_5); (try clear hcz13_6); (try clear hcz13_7); (try clear hcz13_8); (try clear hcz15_0); (try clear hcz15_1); (try clear hcz15_2); (try clear hcz15_3); (try clear hcz15_4); (try clear hcz15_5); (try clear hcz15_6); (try clear hcz15_7); (try clear hcz15_8); (try clear hcz17_0); (try clear hcz17_1); (try clear hcz17_2); (try clear hcz17_3); (try clear hcz17_4); (try clear hcz17_5); (try clear hcz17_6); (try clear hcz17_7); (try clear hcz17_8); (try clear hcz18_0); (try clear hcz18_1); (try clear hcz18_2); (try clear hcz18_3); (try clear hcz18_4); (try clear hcz18_5); (try clear hcz18_6); (try clear hcz18_7); (try clear hcz18_8); (try clear hcz19_0); (try clear hcz19_1); (try clear hcz19_2); (try clear hcz19_3); (try clear hcz19_4); (try clear hcz19_5); (try clear hcz19_6); (try clear hcz19_7); (try clear hcz19_8); (try clear hcz23_0); (try clear hcz23_1); (try clear hcz23_2); (try clear hcz23_3); (try clear hcz23_4); (try clear hcz23_5); (try clear hcz23_6); (try clear hcz23_7); (try clear hcz23_8); (try clear hcz25_0); (try clear hcz25_1); (try clear hcz25_2); (try clear hcz25_3); (try clear hcz25_4); (try clear hcz25_5); (try clear hcz25_6); (try clear hcz25_7); (try clear hcz25_8); (try clear hcz27_0); (try clear hcz27_1); (try clear hcz27_2); (try clear hcz27_3); (try clear hcz27_4); (try clear hcz27_5); (try clear hcz27_6); (try clear hcz27_7); (try clear hcz27_8); (try clear hcz28_0); (try clear hcz28_1); (try clear hcz28_2); (try clear hcz28_3); (try clear hcz28_4); (try clear hcz28_5); (try clear hcz28_6); (try clear hcz28_7); (try clear hcz28_8); (try clear hcz30_0); (try clear hcz30_1); (try clear hcz30_2); (try clear hcz30_3); (try clear hcz30_4); (try clear hcz30_5); (try clear hcz30_6); (try clear hcz30_7); (try clear hcz30_8); (try clear hcz5_0); (try clear hcz5_1); (try clear hcz5_2); (try clear hcz5_3); (try clear hcz5_4); (try clear hcz5_5); (try clear hcz5_6); (try clear hcz5_7); (try clear hcz5_8); (try clear hfz13_0); (try clear hfz13_1); (try clear hfz13_2); (try clear hfz13_3); (try clear hfz13_4); (try clear hfz13_5); (try clear hfz13_6); (try clear hfz13_7); (try clear hfz13_8); (try clear hfz15_0); (try clear hfz15_1); (try clear hfz15_2); (try clear hfz15_3); (try clear hfz15_4); (try clear hfz15_5); (try clear hfz15_6); (try clear hfz15_7); (try clear hfz15_8); (try clear hfz17_0); (try clear hfz17_1); (try clear hfz17_2); (try clear hfz17_3); (try clear hfz17_4); (try clear hfz17_5); (try clear hfz17_6); (try clear hfz17_7); (try clear hfz17_8); (try clear hfz18_0); (try clear hfz18_1); (try clear hfz18_2); (try clear hfz18_3); (try clear hfz18_4); (try clear hfz18_5); (try clear hfz18_6); (try clear hfz18_7); (try clear hfz18_8); (try clear hfz19_0); (try clear hfz19_1); (try clear hfz19_2); (try clear hfz19_3); (try clear hfz19_4); (try clear hfz19_5); (try clear hfz19_6); (try clear hfz19_7); (try clear hfz19_8); (try clear hfz23_0); (try clear hfz23_1); (try clear hfz23_2); (try clear hfz23_3); (try clear hfz23_4); (try clear hfz23_5); (try clear hfz23_6); (try clear hfz23_7); (try clear hfz23_8); (try clear hfz25_0); (try clear hfz25_1); (try clear hfz25_2); (try clear hfz25_3); (try clear hfz25_4); (try clear hfz25_5); (try clear hfz25_6); (try clear hfz25_7); (try clear hfz25_8); (try clear hfz27_0); (try clear hfz27_1); (try clear hfz27_2); (try clear hfz27_3); (try clear hfz27_4); (try clear hfz27_5); (try clear hfz27_6); (try clear hfz27_7); (try clear hfz27_8); (try clear hfz28_0); (try clear hfz28_1); (try clear hfz28_2)
        (try clear hfz28_3); (try clear hfz28_4); (try clear hfz28_5); (try clear hfz28_6); (try clear hfz28_7); (try clear hfz28_8); (try clear hfz30_0); (try clear hfz30_1); (try clear hfz30_2); (try clear hfz30_3); (try clear hfz30_4); (try clear hfz30_5); (try clear hfz30_6); (try clear hfz30_7); (try clear hfz30_8); (try clear hfz5_0); (try clear hfz5_1); (try clear hfz5_2); (try clear hfz5_3); (try clear hfz5_4); (try clear hfz5_5); (try clear hfz5_6); (try clear hfz5_7); (try clear hfz5_8); (try clear p2); obtain ⟨x59_3, rfl, HA, HK3, BK226, HB⟩ := hrel
        cases gk with
        | zero => exact absurd HA.out (by simp [batch_Right.l0])
        | succ k3 =>
         have H := HA.out; clear HA; simp only [batch_Right.l0] at H
         by_cases c31 : x59_3 < (l0_8.length : Int)
         ·rw [if_pos c31] at H
          have c31b0 : decide (x59_3 < (l0_8.length : Int)) = true := decide_eq_true c31; clear c31
          by_cases c32 : 0 ≤ x59_3
          ·rw [if_pos c32] at H
           have c32b0 : decide (0 ≤ x59_3) = true := decide_eq_true c32; clear c32
           by_cases c33 : x59_3 < (l0_8.length : Int)
           ·rw [if_pos c33] at H
            have c33b0 : decide (x59_3 < (l0_8.length : Int)) = true := decide_eq_true c33; clear c33; replace H := obm H; obtain ⟨t232, A340, H⟩ := H; replace H : (if t232 = true then (if x59_3 ≤ (l0_8.length : Int) then ((slices_Contains_string_string.f k3 (l0_8.take (x59_3 : Int).toNat) (rdOf ByteArray.empty l0_8 x59_3)).bind fun t234 => (if t234 = true then (some false) else (batch_Right.l0 k3 l0_8 (l0_8.length : Int) (wrap64 (x59_3 + 1)) a0_0 a0_1 a0_2 a0_3 a0_4 a0_5 a0_6 a0_7 l0_8))) else (none)) else (some false)) = some r := H; have A34 := am A340; clear A340
            by_cases c35 : t232 = true
            ·subst c35
             have H1 : (if x59_3 ≤ (l0_8.length : Int) then ((slices_Contains_string_string.f k3 (l0_8.take (x59_3 : Int).toNat) (rdOf ByteArray.empty l0_8 x59_3)).bind fun t234 => (if t234 = true then (some false) else (batch_Right.l0 k3 l0_8 (l0_8.length : Int) (wrap64 (x59_3 + 1)) a0_0 a0_1 a0_2 a0_3 a0_4 a0_5 a0_6 a0_7 l0_8))) else (none)) = some r := by rw [if_pos rfl] at H; exact H
             clear H; have H := H1; clear H1; have c36b0 := eq_true (of_decide_eq_true ap2 : 0 ≤ x59_3)
             by_cases c37 : x59_3 ≤ (l0_8.length : Int)
             ·rw [if_pos c37] at H
              have c37b0 := eq_true c37; have c37b1 : decide (x59_3 ≤ (l0_8.length : Int)) = true := decide_eq_true c37; clear c37; replace H := obm H; obtain ⟨t234, A380, H⟩ := H; replace H : (if t234 = true then (some false) else (batch_Right.l0 k3 l0_8 (l0_8.length : Int) (wrap64 (x59_3 + 1)) a0_0 a0_1 a0_2 a0_3 a0_4 a0_5 a0_6 a0_7 l0_8)) = some r := H; have A38 := am A380; clear A380
              by_cases c39 : t234 = true
              ·subst c39
               have H1 : (some false) = some r := by rw [if_pos rfl] at H; exact H
               clear H; have H := H1; clear H1; obtain rfl := Option.some.inj H; simp only [Option.some.injEq, Prod.mk.injEq] at H; obtain ⟨rfl⟩ := H; have p231 : 0 ≤ (x59_3 : Int) := of_decide_eq_true ap2; have q231 : x59_3 < (l0_8.length : Int) := of_decide_eq_true ap2; obtain ⟨ad231, e231, hx231_0⟩ := Kd.at_string HR0_8.out x59_3 p231 q231
               cases e231
               replace hx231_0 := (HB.out.cell (World.block_lt_of_cell? w _ hx231_0)).trans hx231_0; replace p231 := eq_true p231; replace q231 := eq_true q231
               go_wp2_with (first | ((with_reducible refine gate_callee (f := 33) rfl ?_); refine goesL_ (some 65) rfl rfl Tryd.func33 (by kernel_rfl) rfl #[.string (rdOf ByteArray.empty l0_8 x59_3)] rfl ap1 ?_; (with_reducible refine (label_Right.calls (rdOf ByteArray.empty l0_8 x59_3) true _ ?side1 A34.out).mono ?_); (case side1 => first | exact HT.out | exact Tabs.below HT.out (beu HB.out)); rintro e w40 ⟨rfl, hb⟩; refine ⟨_, rfl, ?_⟩; have _ := am (blk_below (bu BK226.out) hb); have _ := am (below_step (beu HB.out) hb); clear BK226 HB; rename_i BK226 HB; (try clear hb); obtain ⟨_, _, _, _, _, _, _, _, _⟩ := cells9 BK226.out; obtain ⟨_, _, _, _, _, _, _, _, _⟩ := frozens9 BK226.out; obtain ⟨i042, hi042, _, hsz42, _⟩ := info_parts info9; obtain ⟨hcut42, hA42, hC42⟩ := print_take_of (P := Tryd.prog) Value.string ⟨#[]⟩ 29 9 .i64 Tryd.underlying29 hi042 hsz42 (some ad231) c0_8 l0_8 x59_3 (of_decide_eq_true ap2) (of_decide_eq_true ap2) HC0_8.out; have HR233 := am (Kd.C_of_reads (h1 := fun _ => rfl) (hA42 _ (Kd.reads_of_C HR0_8.out))); have HC233 := am hC42; clear hA42 hC42 hi042 hsz42) | (go_at_call 34; rw [show (x59_3 : Int).toNat = (l0_8.take (x59_3 : Int).toNat).length from (by rw [List.length_take]; have z_ := (of_decide_eq_true ap2 : x59_3 ≤ (l0_8.length : Int)); omega)]; (with_reducible refine (slices_Contains_string_string.calls k3 _ _ (l0_8.take (x59_3 : Int).toNat) (rdOf ByteArray.empty l0_8 x59_3) true _ ?side1 ?side2 A38.out).mono ?_); (case side1 => exact cu (Kd.C_below HR233.out HB.out)); (case side2 => exact HC233.out); rintro e w' ⟨rfl, ⟨nd, rfl⟩⟩))
               go_ret
               exact ⟨ap4, beu HB.out⟩
              ·replace c39 := Bool.eq_false_iff.mpr c39
               subst c39
               have H1 : (batch_Right.l0 k3 l0_8 (l0_8.length : Int) (wrap64 (x59_3 + 1)) a0_0 a0_1 a0_2 a0_3 a0_4 a0_5 a0_6 a0_7 l0_8) = some r := by rw [if_neg (show ¬ (false = true) by decide)] at H; exact H
               clear H; have H := H1; clear H1; have H' := am H; clear H; have p231 : 0 ≤ (x59_3 : Int) := of_decide_eq_true ap2; have q231 : x59_3 < (l0_8.length : Int) := of_decide_eq_true ap2; obtain ⟨ad231, e231, hx231_0⟩ := Kd.at_string HR0_8.out x59_3 p231 q231
               cases e231
               replace hx231_0 := (HB.out.cell (World.block_lt_of_cell? w _ hx231_0)).trans hx231_0; replace p231 := eq_true p231; replace q231 := eq_true q231
               go_wp2_with (first | ((with_reducible refine gate_callee (f := 33) rfl ?_); refine goesL_ (some 65) rfl rfl Tryd.func33 (by kernel_rfl) rfl #[.string (rdOf ByteArray.empty l0_8 x59_3)] rfl ap1 ?_; (with_reducible refine (label_Right.calls (rdOf ByteArray.empty l0_8 x59_3) true _ ?side1 A34.out).mono ?_); (case side1 => first | exact HT.out | exact Tabs.below HT.out (beu HB.out)); rintro e w43 ⟨rfl, hb⟩; refine ⟨_, rfl, ?_⟩; have _ := am (blk_below (bu BK226.out) hb); have _ := am (below_step (beu HB.out) hb); clear BK226 HB; rename_i BK226 HB; (try clear hb); obtain ⟨_, _, _, _, _, _, _, _, _⟩ := cells9 BK226.out; obtain ⟨_, _, _, _, _, _, _, _, _⟩ := frozens9 BK226.out; obtain ⟨i045, hi045, _, hsz45, _⟩ := info_parts info9; obtain ⟨hcut45, hA45, hC45⟩ := print_take_of (P := Tryd.prog) Value.string ⟨#[]⟩ 29 9 .i64 Tryd.underlying29 hi045 hsz45 (some ad231) c0_8 l0_8 x59_3 (of_decide_eq_true ap2) (of_decide_eq_true ap2) HC0_8.out; have HR233 := am (Kd.C_of_reads (h1 := fun _ => rfl) (hA45 _ (Kd.reads_of_C HR0_8.out))); have HC233 := am hC45; clear hA45 hC45 hi045 hsz45) | (go_at_call 34; rw [show (x59_3 : Int).toNat = (l0_8.take (x59_3 : Int).toNat).length from (by rw [List.length_take]; have z_ := (of_decide_eq_true ap2 : x59_3 ≤ (l0_8.length : Int)); omega)]; (with_reducible refine (slices_Contains_string_string.calls k3 _ _ (l0_8.take (x59_3 : Int).toNat) (rdOf ByteArray.empty l0_8 x59_3) false _ ?side1 ?side2 A38.out).mono ?_); (case side1 => exact cu (Kd.C_below HR233.out HB.out)); (case side2 => exact HC233.out); rintro e w' ⟨rfl, ⟨nd, rfl⟩⟩))
               go_roundg k3
               case measure => have := HJ1.out; have := HJ20.out; have := HK3.out; omega
               case rel => exact ⟨(wrap64 (x59_3 + 1)), ap3, H', ⟨by have := HJ1.out; have := HJ20.out; have := HK3.out; omega⟩, ⟨by refine bu ?_; exact BK226.out⟩, ⟨beu HB.out⟩⟩
             ·rw [if_neg c37] at H
              exact absurd H (by simp)
            ·replace c35 := Bool.eq_false_iff.mpr c35
             subst c35
             have H1 : (some false) = some r := by rw [if_neg (show ¬ (false = true) by decide)] at H; exact H
             clear H; have H := H1; clear H1; obtain rfl := Option.some.inj H; simp only [Option.some.injEq, Prod.mk.injEq] at H; obtain ⟨rfl⟩ := H; have p231 : 0 ≤ (x59_3 : Int) := of_decide_eq_true ap2; have q231 : x59_3 < (l0_8.length : Int) := of_decide_eq_true ap2; obtain ⟨ad231, e231, hx231_0⟩ := Kd.at_string HR0_8.out x59_3 p231 q231
             cases e231
             replace hx231_0 := (HB.out.cell (World.block_lt_of_cell? w _ hx231_0)).trans hx231_0; replace p231 := eq_true p231; replace q231 := eq_true q231
             go_wp2_with (first | ((with_reducible refine gate_callee (f := 33) rfl ?_); refine goesL_ (some 65) rfl rfl Tryd.func33 (by kernel_rfl) rfl #[.string (rdOf ByteArray.empty l0_8 x59_3)] rfl ap1 ?_; (with_reducible refine (label_Right.calls (rdOf ByteArray.empty l0_8 x59_3) false _ ?side1 A34.out).mono ?_); (case side1 => first | exact HT.out | exact Tabs.below HT.out (beu HB.out)); rintro e w46 ⟨rfl, hb⟩; refine ⟨_, rfl, ?_⟩; have _ := am (blk_below (bu BK226.out) hb); have _ := am (below_step (beu HB.out) hb); clear BK226 HB; rename_i BK226 HB; (try clear hb)))
             go_ret
             exact ⟨ap4, beu HB.out⟩
           ·rw [if_neg c33] at H
            exact absurd H (by simp)
          ·rw [if_neg c32] at H
           exact absurd H (by simp)
         ·rw [if_neg c31] at H
          have c31b0 : decide (x59_3 < (l0_8.length : Int)) = false := decide_eq_false c31; clear c31; obtain rfl := Option.some.inj H; simp only [Option.some.injEq, Prod.mk.injEq] at H; obtain ⟨rfl⟩ := H
          go_wp2
          go_ret
          exact ⟨ap4, beu HB.out⟩
mutual
def packet_number.l0 : Nat → Int → Int → List Int → Int → Int → Option (Int × Int)
 | 0, _, _, _, _, _ => none
 | k + 1, x1, x6, x10, x11, x12 => if x12 < x11 then (if 0 ≤ x12 then (if x12 < (x10.length : Int) then (if x12 = 9 then (if (rd x10 x12) > 1 then (packet_number.j1 k x1 x6 x12 (rd x10 x12) (IntKind.u64.wrap (Go.bits .and .u8 (rd x10 x12) 127)) x10 x11 x12 true) else (if x12 > 0 then (if (rd x10 x12) = 0 then (packet_number.j1 k x1 x6 x12 (rd x10 x12) (IntKind.u64.wrap (Go.bits .and .u8 (rd x10 x12) 127)) x10 x11 x12 true) else (if 0 ≤ (wrap64 (7 * x12)) then (packet_number.j1 k x1 x6 x12 (rd x10 x12) (IntKind.u64.wrap (Go.bits .and .u8 (rd x10 x12) 127)) x10 x11 x12 (decide ((IntKind.u64.wrap (Go.bits .and .u8 (rd x10 x12) 127)) > (shr .u64 x1 (wrap64 (7 * x12)))))) else (none))) else (if 0 ≤ (wrap64 (7 * x12)) then (packet_number.j1 k x1 x6 x12 (rd x10 x12) (IntKind.u64.wrap (Go.bits .and .u8 (rd x10 x12) 127)) x10 x11 x12 (decide ((IntKind.u64.wrap (Go.bits .and .u8 (rd x10 x12) 127)) > (shr .u64 x1 (wrap64 (7 * x12)))))) else (none)))) else (if x12 > 0 then (if (rd x10 x12) = 0 then (packet_number.j1 k x1 x6 x12 (rd x10 x12) (IntKind.u64.wrap (Go.bits .and .u8 (rd x10 x12) 127)) x10 x11 x12 true) else (if 0 ≤ (wrap64 (7 * x12)) then (packet_number.j1 k x1 x6 x12 (rd x10 x12) (IntKind.u64.wrap (Go.bits .and .u8 (rd x10 x12) 127)) x10 x11 x12 (decide ((IntKind.u64.wrap (Go.bits .and .u8 (rd x10 x12) 127)) > (shr .u64 x1 (wrap64 (7 * x12)))))) else (none))) else (if 0 ≤ (wrap64 (7 * x12)) then (packet_number.j1 k x1 x6 x12 (rd x10 x12) (IntKind.u64.wrap (Go.bits .and .u8 (rd x10 x12) 127)) x10 x11 x12 (decide ((IntKind.u64.wrap (Go.bits .and .u8 (rd x10 x12) 127)) > (shr .u64 x1 (wrap64 (7 * x12)))))) else (none)))) else (none)) else (none)) else (some (0, 0))
def packet_number.j1 : Nat → Int → Int → Int → Int → Int → List Int → Int → Int → Bool → Option (Int × Int)
 | 0, _, _, _, _, _, _, _, _, _ => none
 | k + 1, x1, x6, x7, x8, x9, x10, x11, x12, x41 => if x41 = true then (some (0, (-1))) else (if 0 ≤ (wrap64 (7 * x7)) then (if (Go.bits .or .u64 x6 (shl .u64 x9 (wrap64 (7 * x7)))) > x1 then (some (0, (-1))) else (if x8 < 128 then (some (Go.bits .or .u64 x6 (shl .u64 x9 (wrap64 (7 * x7))), wrap64 (x7 + 1))) else (if 0 ≤ (wrap64 (7 * (wrap64 (x7 + 1)))) then (if (IntKind.u64.wrap (x1 - (Go.bits .or .u64 x6 (shl .u64 x9 (wrap64 (7 * x7)))))) < (shl .u64 1 (wrap64 (7 * (wrap64 (x7 + 1))))) then (some (0, (-1))) else (packet_number.l0 k x1 (Go.bits .or .u64 x6 (shl .u64 x9 (wrap64 (7 * x7)))) x10 x11 (wrap64 (x12 + 1)))) else (none)))) else (none))
end
def packet_number.f (k : Nat) (l0 : List Int) (a1 : Int) : Option (Int × Int) := packet_number.l0 k a1 0 l0 (l0.length : Int) 0
set_option maxHeartbeats 8000000 in
set_option maxRecDepth 100000 in
theorem packet_number.calls (k : Nat) (A0 : Option Addr) (c0 : Nat) (l0 : List Int) (a1 : Int) (r1 : Int) (r2 : Int) (w : World) (hr0 : Kd.C (Kd.int .u8) w A0 l0.length l0) (hc0 : l0.length ≤ c0) (h : packet_number.f k l0 a1 = some (r1, r2)) :
  Calls Tryd.prog 60 #[.slice A0 l0.length c0, .int .u64 a1] w fun e w' => e = .returned (.tuple #[.int .u64 r1, .int .i64 r2]) ∧ Drawn0 w w' := by
 have HR0 := am hr0; have HC0 := am hc0; clear hr0 hc0; have H : (packet_number.l0 k a1 0 l0 (l0.length : Int) 0) = some (r1, r2) := h; clear h; have H' := am H; clear H
 go_enter Tryd.func60, Tryd.ntmps60
 go_wp2
 go_loopg [6, 12] k (fun kq v6 v12 w' => ∃ (x6_1 : Int) (x12_1 : Int), v6 = .int .u64 x6_1 ∧ v12 = .int .i64 x12_1 ∧ Aside0 (packet_number.l0 kq a1 x6_1 l0 (l0.length : Int) x12_1 = some (r1, r2)) ∧ Aside0 (kq ≤ k) ∧ Drawn0 w w')
 case atStart => exact ⟨(0), (0), ap3, ap3, H', ⟨Nat.le_refl _⟩, ap5⟩
 case round =>
  clear H'; (try clear p2); obtain ⟨x6_1, x12_1, rfl, rfl, HA, HK1, ⟨m1, rfl⟩⟩ := hrel
  cases gk with
  | zero => exact absurd HA.out (by simp [packet_number.l0])
  | succ k1 =>
   have H := HA.out; clear HA; simp only [packet_number.l0] at H
   by_cases c3 : x12_1 < (l0.length : Int)
   ·rw [if_pos c3] at H
    have c3b0 : decide (x12_1 < (l0.length : Int)) = true := decide_eq_true c3; clear c3
    by_cases c4 : 0 ≤ x12_1
    ·rw [if_pos c4] at H
     have c4b0 : decide (0 ≤ x12_1) = true := decide_eq_true c4; clear c4
     by_cases c5 : x12_1 < (l0.length : Int)
     ·rw [if_pos c5] at H
      have c5b0 : decide (x12_1 < (l0.length : Int)) = true := decide_eq_true c5; clear c5; have HC6 := am H; clear H; have p235 : 0 ≤ (x12_1 : Int) := of_decide_eq_true ap2; have q235 : x12_1 < (l0.length : Int) := of_decide_eq_true ap2; obtain ⟨ad235, e235, hx235_0⟩ := Kd.at_int HR0.out x12_1 p235 q235
      cases e235
      replace p235 := eq_true p235; replace q235 := eq_true q235
      go_upto_region 6 with (fail)
      go_cut [41] (fun v41 wc => ∃ (kq : Nat) (x41_5 : Bool), v41 = .bool x41_5 ∧ Aside0 (packet_number.j1 kq a1 x6_1 x12_1 (rd l0 x12_1) (IntKind.u64.wrap (Go.bits .and .u8 (rd l0 x12_1) 127)) l0 (l0.length : Int) x12_1 x41_5 = some (r1, r2)) ∧ Aside0 (kq ≤ k1) ∧ Drawn0 w wc)
      case first =>
       have H := HC6.out; clear HC6
       by_cases c7 : x12_1 = 9
       ·rw [if_pos c7] at H
        have c7b0 : (x12_1 == 9) = true := beq_iff_eq.mpr c7; have c7b1 : (x12_1 != 9) = false := bne_eq_false_iff_eq.mpr c7; clear c7
        (first | rw [c7b0] | (simp only [i64_w, i32_w]; rw [c7b0]) | skip)
        by_cases c8 : (rd l0 x12_1) > 1
        ·rw [if_pos c8] at H
         have c8b0 : decide (1 < (rd l0 x12_1)) = true := decide_eq_true c8; clear c8; have H' := am H; clear H
         go_wp2
         go_meet
         case rel => exact ⟨_, (true), ap3, H', ⟨by have := HK1.out; first | omega | exact Nat.le_refl _⟩, ap5⟩
        ·rw [if_neg c8] at H
         have c8b0 : decide (1 < (rd l0 x12_1)) = false := decide_eq_false c8; clear c8
         by_cases c9 : x12_1 > 0
         ·rw [if_pos c9] at H
          have c9b0 : decide (0 < x12_1) = true := decide_eq_true c9; clear c9
          by_cases c10 : (rd l0 x12_1) = 0
          ·rw [if_pos c10] at H
           have c10b0 : ((rd l0 x12_1) == 0) = true := beq_iff_eq.mpr c10; have c10b1 : ((rd l0 x12_1) != 0) = false := bne_eq_false_iff_eq.mpr c10; clear c10; have H' := am H; clear H
           go_wp2
           go_meet
           case rel => exact ⟨_, (true), ap3, H', ⟨by have := HK1.out; first | omega | exact Nat.le_refl _⟩, ap5⟩
          ·rw [if_neg c10] at H
           have c10b0 : ((rd l0 x12_1) == 0) = false := beq_eq_false_iff_ne.mpr c10; have c10b1 : ((rd l0 x12_1) != 0) = true := bne_iff_ne.mpr c10; obtain ⟨ji11, hji11⟩ : ∃ j_ : Int, (wrap64 (7 * x12_1)) = j_ := ⟨_, rfl⟩
           replace H : (if 0 ≤ (ji11) then (packet_number.j1 k1 a1 x6_1 x12_1 (rd l0 x12_1) (IntKind.u64.wrap (Go.bits .and .u8 (rd l0 x12_1) 127)) l0 (l0.length : Int) x12_1 (decide ((IntKind.u64.wrap (Go.bits .and .u8 (rd l0 x12_1) 127)) > (shr .u64 a1 (ji11))))) else (none)) = some (r1, r2) := by first | (rw [hji11] at H; exact H) | (simp only [hji11] at H ⊢; exact H)
           have hji11w : (IntKind.i64.wrap (7 * x12_1)) = ji11 := (i64_w _).trans hji11
           by_cases c12 : 0 ≤ (ji11)
           ·rw [if_pos c12] at H
            have c12b0 := eq_true c12; have c12b1 : decide (0 ≤ (ji11)) = true := decide_eq_true c12; clear c12; obtain ⟨ji13, hji13⟩ : ∃ j_ : Int, (shr .u64 a1 (ji11)) = j_ := ⟨_, rfl⟩
            replace H : (packet_number.j1 k1 a1 x6_1 x12_1 (rd l0 x12_1) (IntKind.u64.wrap (Go.bits .and .u8 (rd l0 x12_1) 127)) l0 (l0.length : Int) x12_1 (decide ((IntKind.u64.wrap (Go.bits .and .u8 (rd l0 x12_1) 127)) > (ji13)))) = some (r1, r2) := by first | (rw [hji13] at H; exact H) | (simp only [hji13] at H ⊢; exact H)
            have hji13_ : (a1 / 2 ^ min (ji11).toNat 64) = ji13 := hji13; have hji13z : (ji11) ≤ 64 → (a1 / 2 ^ (ji11).toNat) = ji13 := shr_small hji13; have H' := am H; clear H
            go_wp2
            go_meet
            case rel => exact ⟨_, (decide ((IntKind.u64.wrap (Go.bits .and .u8 (rd l0 x12_1) 127)) > (ji13))), (by first | rfl | (simp; done) | (simp only [← hji13] <;> (first | rfl | simp)) | (simp [*]; done)), H', ⟨by have := HK1.out; first | omega | exact Nat.le_refl _⟩, ap5⟩
           ·rw [if_neg c12] at H
            exact absurd H (by simp)
         ·rw [if_neg c9] at H
          have c9b0 : decide (0 < x12_1) = false := decide_eq_false c9; clear c9; obtain ⟨ji14, hji14⟩ : ∃ j_ : Int, (wrap64 (7 * x12_1)) = j_ := ⟨_, rfl⟩
          replace H : (if 0 ≤ (ji14) then (packet_number.j1 k1 a1 x6_1 x12_1 (rd l0 x12_1) (IntKind.u64.wrap (Go.bits .and .u8 (rd l0 x12_1) 127)) l0 (l0.length : Int) x12_1 (decide ((IntKind.u64.wrap (Go.bits .and .u8 (rd l0 x12_1) 127)) > (shr .u64 a1 (ji14))))) else (none)) = some (r1, r2) := by first | (rw [hji14] at H; exact H) | (simp only [hji14] at H ⊢; exact H)
          have hji14w : (IntKind.i64.wrap (7 * x12_1)) = ji14 := (i64_w _).trans hji14
          by_cases c15 : 0 ≤ (ji14)
          ·rw [if_pos c15] at H
           have c15b0 := eq_true c15; have c15b1 : decide (0 ≤ (ji14)) = true := decide_eq_true c15; clear c15; obtain ⟨ji16, hji16⟩ : ∃ j_ : Int, (shr .u64 a1 (ji14)) = j_ := ⟨_, rfl⟩
           replace H : (packet_number.j1 k1 a1 x6_1 x12_1 (rd l0 x12_1) (IntKind.u64.wrap (Go.bits .and .u8 (rd l0 x12_1) 127)) l0 (l0.length : Int) x12_1 (decide ((IntKind.u64.wrap (Go.bits .and .u8 (rd l0 x12_1) 127)) > (ji16)))) = some (r1, r2) := by first | (rw [hji16] at H; exact H) | (simp only [hji16] at H ⊢; exact H)
           have hji16_ : (a1 / 2 ^ min (ji14).toNat 64) = ji16 := hji16; have hji16z : (ji14) ≤ 64 → (a1 / 2 ^ (ji14).toNat) = ji16 := shr_small hji16; have H' := am H; clear H
           go_wp2
           go_meet
           case rel => exact ⟨_, (decide ((IntKind.u64.wrap (Go.bits .and .u8 (rd l0 x12_1) 127)) > (ji16))), (by first | rfl | (simp; done) | (simp only [← hji16] <;> (first | rfl | simp)) | (simp [*]; done)), H', ⟨by have := HK1.out; first | omega | exact Nat.le_refl _⟩, ap5⟩
          ·rw [if_neg c15] at H
           exact absurd H (by simp)
       ·rw [if_neg c7] at H
        have c7b0 : (x12_1 == 9) = false := beq_eq_false_iff_ne.mpr c7; have c7b1 : (x12_1 != 9) = true := bne_iff_ne.mpr c7
        (first | rw [c7b0] | (simp only [i64_w, i32_w]; rw [c7b0]) | skip)
        by_cases c17 : x12_1 > 0
        ·rw [if_pos c17] at H
         have c17b0 : decide (0 < x12_1) = true := decide_eq_true c17; clear c17
         by_cases c18 : (rd l0 x12_1) = 0
         ·rw [if_pos c18] at H
          have c18b0 : ((rd l0 x12_1) == 0) = true := beq_iff_eq.mpr c18; have c18b1 : ((rd l0 x12_1) != 0) = false := bne_eq_false_iff_eq.mpr c18; clear c18; have H' := am H; clear H
          go_wp2
          go_meet
          case rel => exact ⟨_, (true), ap3, H', ⟨by have := HK1.out; first | omega | exact Nat.le_refl _⟩, ap5⟩
         ·rw [if_neg c18] at H
          have c18b0 : ((rd l0 x12_1) == 0) = false := beq_eq_false_iff_ne.mpr c18; have c18b1 : ((rd l0 x12_1) != 0) = true := bne_iff_ne.mpr c18; obtain ⟨ji19, hji19⟩ : ∃ j_ : Int, (wrap64 (7 * x12_1)) = j_ := ⟨_, rfl⟩
          replace H : (if 0 ≤ (ji19) then (packet_number.j1 k1 a1 x6_1 x12_1 (rd l0 x12_1) (IntKind.u64.wrap (Go.bits .and .u8 (rd l0 x12_1) 127)) l0 (l0.length : Int) x12_1 (decide ((IntKind.u64.wrap (Go.bits .and .u8 (rd l0 x12_1) 127)) > (shr .u64 a1 (ji19))))) else (none)) = some (r1, r2) := by first | (rw [hji19] at H; exact H) | (simp only [hji19] at H ⊢; exact H)
          have hji19w : (IntKind.i64.wrap (7 * x12_1)) = ji19 := (i64_w _).trans hji19
          by_cases c20 : 0 ≤ (ji19)
          ·rw [if_pos c20] at H
           have c20b0 := eq_true c20; have c20b1 : decide (0 ≤ (ji19)) = true := decide_eq_true c20; clear c20; obtain ⟨ji21, hji21⟩ : ∃ j_ : Int, (shr .u64 a1 (ji19)) = j_ := ⟨_, rfl⟩
           replace H : (packet_number.j1 k1 a1 x6_1 x12_1 (rd l0 x12_1) (IntKind.u64.wrap (Go.bits .and .u8 (rd l0 x12_1) 127)) l0 (l0.length : Int) x12_1 (decide ((IntKind.u64.wrap (Go.bits .and .u8 (rd l0 x12_1) 127)) > (ji21)))) = some (r1, r2) := by first | (rw [hji21] at H; exact H) | (simp only [hji21] at H ⊢; exact H)
           have hji21_ : (a1 / 2 ^ min (ji19).toNat 64) = ji21 := hji21; have hji21z : (ji19) ≤ 64 → (a1 / 2 ^ (ji19).toNat) = ji21 := shr_small hji21; have H' := am H; clear H
           go_wp2
           go_meet
           case rel => exact ⟨_, (decide ((IntKind.u64.wrap (Go.bits .and .u8 (rd l0 x12_1) 127)) > (ji21))), (by first | rfl | (simp; done) | (simp only [← hji21] <;> (first | rfl | simp)) | (simp [*]; done)), H', ⟨by have := HK1.out; first | omega | exact Nat.le_refl _⟩, ap5⟩
          ·rw [if_neg c20] at H
           exact absurd H (by simp)
        ·rw [if_neg c17] at H
         have c17b0 : decide (0 < x12_1) = false := decide_eq_false c17; clear c17; obtain ⟨ji22, hji22⟩ : ∃ j_ : Int, (wrap64 (7 * x12_1)) = j_ := ⟨_, rfl⟩
         replace H : (if 0 ≤ (ji22) then (packet_number.j1 k1 a1 x6_1 x12_1 (rd l0 x12_1) (IntKind.u64.wrap (Go.bits .and .u8 (rd l0 x12_1) 127)) l0 (l0.length : Int) x12_1 (decide ((IntKind.u64.wrap (Go.bits .and .u8 (rd l0 x12_1) 127)) > (shr .u64 a1 (ji22))))) else (none)) = some (r1, r2) := by first | (rw [hji22] at H; exact H) | (simp only [hji22] at H ⊢; exact H)
         have hji22w : (IntKind.i64.wrap (7 * x12_1)) = ji22 := (i64_w _).trans hji22
         by_cases c23 : 0 ≤ (ji22)
         ·rw [if_pos c23] at H
          have c23b0 := eq_true c23; have c23b1 : decide (0 ≤ (ji22)) = true := decide_eq_true c23; clear c23; obtain ⟨ji24, hji24⟩ : ∃ j_ : Int, (shr .u64 a1 (ji22)) = j_ := ⟨_, rfl⟩
          replace H : (packet_number.j1 k1 a1 x6_1 x12_1 (rd l0 x12_1) (IntKind.u64.wrap (Go.bits .and .u8 (rd l0 x12_1) 127)) l0 (l0.length : Int) x12_1 (decide ((IntKind.u64.wrap (Go.bits .and .u8 (rd l0 x12_1) 127)) > (ji24)))) = some (r1, r2) := by first | (rw [hji24] at H; exact H) | (simp only [hji24] at H ⊢; exact H)
          have hji24_ : (a1 / 2 ^ min (ji22).toNat 64) = ji24 := hji24; have hji24z : (ji22) ≤ 64 → (a1 / 2 ^ (ji22).toNat) = ji24 := shr_small hji24; have H' := am H; clear H
          go_wp2
          go_meet
          case rel => exact ⟨_, (decide ((IntKind.u64.wrap (Go.bits .and .u8 (rd l0 x12_1) 127)) > (ji24))), (by first | rfl | (simp; done) | (simp only [← hji24] <;> (first | rfl | simp)) | (simp [*]; done)), H', ⟨by have := HK1.out; first | omega | exact Nat.le_refl _⟩, ap5⟩
         ·rw [if_neg c23] at H
          exact absurd H (by simp)
      case rest =>
       clear HC6; (try clear c1); (try clear c2); (try clear p2); (try clear q2); (try clear hx2); (try clear c3); (try clear c3b0); (try clear c4); (try clear c4b0); (try clear c5); (try clear c5b0); (try clear c6); (try clear p6); (try clear c7); (try clear c7b0); (try clear c7b1); (try clear c8); (try clear c8b0); (try clear c9); (try clear c9b0); (try clear c10); (try clear c10b0); (try clear c10b1); (try clear c12); (try clear c12b0); (try clear c12b1); (try clear c15); (try clear c15b0); (try clear c15b1); (try clear c17); (try clear c17b0); (try clear c18); (try clear c18b0); (try clear c18b1); (try clear c20); (try clear c20b0); (try clear c20b1); (try clear c23); (try clear c23b0); (try clear c23b1); (try clear p23); (try clear q23); (try clear hx23); (try clear hx235_0); (try clear p2); (try clear p235); (try clear q235); obtain ⟨kq, x41_5, rfl, HA, HJ5, ⟨mc5, rfl⟩⟩ := hcut
       cases kq with
       | zero => exact absurd HA.out (by simp [packet_number.j1])
       | succ kj5 =>
        have H := HA.out; clear HA; simp only [packet_number.j1] at H
        by_cases c25 : x41_5 = true
        ·subst c25
         have H1 : (some (0, (-1))) = some (r1, r2) := by rw [if_pos rfl] at H; exact H
         clear H; have H := H1; clear H1; simp only [Option.some.injEq, Prod.mk.injEq] at H; obtain ⟨rfl, rfl⟩ := H
         go_wp2
         go_ret2
         exact ⟨ap3, ap5⟩
        ·replace c25 := Bool.eq_false_iff.mpr c25
         subst c25
         have H1 : (if 0 ≤ (wrap64 (7 * x12_1)) then (if (Go.bits .or .u64 x6_1 (shl .u64 (IntKind.u64.wrap (Go.bits .and .u8 (rd l0 x12_1) 127)) (wrap64 (7 * x12_1)))) > a1 then (some (0, (-1))) else (if (rd l0 x12_1) < 128 then (some (Go.bits .or .u64 x6_1 (shl .u64 (IntKind.u64.wrap (Go.bits .and .u8 (rd l0 x12_1) 127)) (wrap64 (7 * x12_1))), wrap64 (x12_1 + 1))) else (if 0 ≤ (wrap64 (7 * (wrap64 (x12_1 + 1)))) then (if (IntKind.u64.wrap (a1 - (Go.bits .or .u64 x6_1 (shl .u64 (IntKind.u64.wrap (Go.bits .and .u8 (rd l0 x12_1) 127)) (wrap64 (7 * x12_1)))))) < (shl .u64 1 (wrap64 (7 * (wrap64 (x12_1 + 1))))) then (some (0, (-1))) else (packet_number.l0 kj5 a1 (Go.bits .or .u64 x6_1 (shl .u64 (IntKind.u64.wrap (Go.bits .and .u8 (rd l0 x12_1) 127)) (wrap64 (7 * x12_1)))) l0 (l0.length : Int) (wrap64 (x12_1 + 1)))) else (none)))) else (none)) = some (r1, r2) := by rw [if_neg (show ¬ (false = true) by decide)] at H; exact H
         clear H; have H := H1; clear H1; obtain ⟨ji26, hji26⟩ : ∃ j_ : Int, (wrap64 (7 * x12_1)) = j_ := ⟨_, rfl⟩
         replace H : (if 0 ≤ (ji26) then (if (Go.bits .or .u64 x6_1 (shl .u64 (IntKind.u64.wrap (Go.bits .and .u8 (rd l0 x12_1) 127)) (ji26))) > a1 then (some (0, (-1))) else (if (rd l0 x12_1) < 128 then (some (Go.bits .or .u64 x6_1 (shl .u64 (IntKind.u64.wrap (Go.bits .and .u8 (rd l0 x12_1) 127)) (ji26)), wrap64 (x12_1 + 1))) else (if 0 ≤ (wrap64 (7 * (wrap64 (x12_1 + 1)))) then (if (IntKind.u64.wrap (a1 - (Go.bits .or .u64 x6_1 (shl .u64 (IntKind.u64.wrap (Go.bits .and .u8 (rd l0 x12_1) 127)) (ji26))))) < (shl .u64 1 (wrap64 (7 * (wrap64 (x12_1 + 1))))) then (some (0, (-1))) else (packet_number.l0 kj5 a1 (Go.bits .or .u64 x6_1 (shl .u64 (IntKind.u64.wrap (Go.bits .and .u8 (rd l0 x12_1) 127)) (ji26))) l0 (l0.length : Int) (wrap64 (x12_1 + 1)))) else (none)))) else (none)) = some (r1, r2) := by first | (rw [hji26] at H; exact H) | (simp only [hji26] at H ⊢; exact H)
         have hji26w : (IntKind.i64.wrap (7 * x12_1)) = ji26 := (i64_w _).trans hji26
         by_cases c27 : 0 ≤ (ji26)
         ·rw [if_pos c27] at H
          have c27b0 := eq_true c27; have c27b1 : decide (0 ≤ (ji26)) = true := decide_eq_true c27; clear c27; obtain ⟨ji28, hji28⟩ : ∃ j_ : Int, (shl .u64 (IntKind.u64.wrap (Go.bits .and .u8 (rd l0 x12_1) 127)) (ji26)) = j_ := ⟨_, rfl⟩
          replace H : (if (Go.bits .or .u64 x6_1 (ji28)) > a1 then (some (0, (-1))) else (if (rd l0 x12_1) < 128 then (some (Go.bits .or .u64 x6_1 (ji28), wrap64 (x12_1 + 1))) else (if 0 ≤ (wrap64 (7 * (wrap64 (x12_1 + 1)))) then (if (IntKind.u64.wrap (a1 - (Go.bits .or .u64 x6_1 (ji28)))) < (shl .u64 1 (wrap64 (7 * (wrap64 (x12_1 + 1))))) then (some (0, (-1))) else (packet_number.l0 kj5 a1 (Go.bits .or .u64 x6_1 (ji28)) l0 (l0.length : Int) (wrap64 (x12_1 + 1)))) else (none)))) = some (r1, r2) := by first | (rw [hji28] at H; exact H) | (simp only [hji28] at H ⊢; exact H)
          have hji28_ : (IntKind.u64.wrap ((IntKind.u64.wrap (Go.bits .and .u8 (rd l0 x12_1) 127)) * 2 ^ min (ji26).toNat 64)) = ji28 := hji28; have hji28z : (ji26) ≤ 64 → (IntKind.u64.wrap ((IntKind.u64.wrap (Go.bits .and .u8 (rd l0 x12_1) 127)) * 2 ^ (ji26).toNat)) = ji28 := shl_small hji28
          by_cases c29 : (Go.bits .or .u64 x6_1 (ji28)) > a1
          ·rw [if_pos c29] at H
           have c29b0 : decide (a1 < (Go.bits .or .u64 x6_1 (ji28))) = true := decide_eq_true c29; clear c29; simp only [Option.some.injEq, Prod.mk.injEq] at H; obtain ⟨rfl, rfl⟩ := H
           go_wp2
           go_ret2
           exact ⟨by first | rfl | (simp; done) | (simp only [← hji26, ← hji28] <;> (first | rfl | simp)) | (simp [*]; done), ap5⟩
          ·rw [if_neg c29] at H
           have c29b0 : decide (a1 < (Go.bits .or .u64 x6_1 (ji28))) = false := decide_eq_false c29; clear c29
           by_cases c30 : (rd l0 x12_1) < 128
           ·rw [if_pos c30] at H
            have c30b0 : decide ((rd l0 x12_1) < 128) = true := decide_eq_true c30; clear c30; simp only [Option.some.injEq, Prod.mk.injEq] at H; obtain ⟨rfl, rfl⟩ := H
            go_wp2
            go_ret2
            exact ⟨by first | rfl | (simp; done) | (simp only [← hji26, ← hji28] <;> (first | rfl | simp)) | (simp [*]; done), ap5⟩
           ·rw [if_neg c30] at H
            have c30b0 : decide ((rd l0 x12_1) < 128) = false := decide_eq_false c30; clear c30; obtain ⟨ji31, hji31⟩ : ∃ j_ : Int, (wrap64 (7 * (wrap64 (x12_1 + 1)))) = j_ := ⟨_, rfl⟩
            replace H : (if 0 ≤ (ji31) then (if (IntKind.u64.wrap (a1 - (Go.bits .or .u64 x6_1 (ji28)))) < (shl .u64 1 (ji31)) then (some (0, (-1))) else (packet_number.l0 kj5 a1 (Go.bits .or .u64 x6_1 (ji28)) l0 (l0.length : Int) (wrap64 (x12_1 + 1)))) else (none)) = some (r1, r2) := by first | (rw [hji31] at H; exact H) | (simp only [hji31] at H ⊢; exact H)
            have hji31w : (IntKind.i64.wrap (7 * (wrap64 (x12_1 + 1)))) = ji31 := (i64_w _).trans hji31
            by_cases c32 : 0 ≤ (ji31)
            ·rw [if_pos c32] at H
             have c32b0 := eq_true c32; have c32b1 : decide (0 ≤ (ji31)) = true := decide_eq_true c32; clear c32; obtain ⟨ji33, hji33⟩ : ∃ j_ : Int, (shl .u64 1 (ji31)) = j_ := ⟨_, rfl⟩
             replace H : (if (IntKind.u64.wrap (a1 - (Go.bits .or .u64 x6_1 (ji28)))) < (ji33) then (some (0, (-1))) else (packet_number.l0 kj5 a1 (Go.bits .or .u64 x6_1 (ji28)) l0 (l0.length : Int) (wrap64 (x12_1 + 1)))) = some (r1, r2) := by first | (rw [hji33] at H; exact H) | (simp only [hji33] at H ⊢; exact H)
             have hji33_ : (IntKind.u64.wrap (1 * 2 ^ min (ji31).toNat 64)) = ji33 := hji33; have hji33z : (ji31) ≤ 64 → (IntKind.u64.wrap (1 * 2 ^ (ji31).toNat)) = ji33 := shl_small hji33
             have hji33u : (IntKind.u64.wrap (2 ^ min (ji31).toNat 64)) = ji33 := by have h_ := hji33_; rw [Int.one_mul] at h_; exact h_
             have hji33v : (ji31) ≤ 64 → (IntKind.u64.wrap (2 ^ (ji31).toNat)) = ji33 := fun hle_ => by have h_ := hji33z hle_; rw [Int.one_mul] at h_; exact h_
             by_cases c34 : (IntKind.u64.wrap (a1 - (Go.bits .or .u64 x6_1 (ji28)))) < (ji33)
             ·rw [if_pos c34] at H
              have c34b0 : decide ((IntKind.u64.wrap (a1 - (Go.bits .or .u64 x6_1 (ji28)))) < (ji33)) = true := decide_eq_true c34; clear c34; simp only [Option.some.injEq, Prod.mk.injEq] at H; obtain ⟨rfl, rfl⟩ := H
              go_wp2
              go_ret2
              exact ⟨by first | rfl | (simp; done) | (simp only [← hji26, ← hji28, ← hji31, ← hji33] <;> (first | rfl | simp)) | (simp [*]; done), ap5⟩
             ·rw [if_neg c34] at H
              have c34b0 : decide ((IntKind.u64.wrap (a1 - (Go.bits .or .u64 x6_1 (ji28)))) < (ji33)) = false := decide_eq_false c34; clear c34; have H' := am H; clear H
              go_wp2
              go_roundg kj5
              case measure => have := HK1.out; have := HJ5.out; omega
              case rel => exact ⟨(Go.bits .or .u64 x6_1 (ji28)), (wrap64 (x12_1 + 1)), (by first | rfl | (simp; done) | (simp only [← hji28] <;> (first | rfl | simp)) | (simp [*]; done)), ap3, H', ⟨by have := HK1.out; have := HJ5.out; omega⟩, ap5⟩
            ·rw [if_neg c32] at H
             exact absurd H (by simp)
         ·rw [if_neg c27] at H
          exact absurd H (by simp)
     ·rw [if_neg c5] at H
      exact absurd H (by simp)
    ·rw [if_neg c4] at H
     exact absurd H (by simp)
   ·rw [if_neg c3] at H
    have c3b0 : decide (x12_1 < (l0.length : Int)) = false := decide_eq_false c3; clear c3; simp only [Option.some.injEq, Prod.mk.injEq] at H; obtain ⟨rfl, rfl⟩ := H
    go_wp2
    go_ret2
    exact ⟨ap3, ap5⟩
def IsS80 (w0 W : World) (g : Nat) (f0 : List Int) (f1 : Bool) : Prop := ∃ A0 c0, W.heap[g]? = some (.cells #[.slice A0 f0.length c0, .bool f1] 80 (0, 0)) ∧ w0.heap.size ≤ g ∧ (Kd.C (Kd.int .u8) w0 A0 f0.length f0 ∧ f0.length ≤ c0)
theorem IsS80.grown {w0 W : World} {g : Nat} {f0 : List Int} {f1 : Bool} {W1 : World} {row : Option Nat} (h : IsS80 w0 W g f0 f1) (hw : W.grownBy W1 row) (hne : some g ≠ row) : IsS80 w0 W1 g f0 f1 := by
 obtain ⟨A0, c0, hb, hg, hr0⟩ := h; exact ⟨A0, c0, blk_grown hb hw hne, hg, hr0⟩
theorem IsS80.below {w0 W : World} {g : Nat} {f0 : List Int} {f1 : Bool} {W1 : World} (h : IsS80 w0 W g f0 f1) (hw : Below W.heap.size W W1) : IsS80 w0 W1 g f0 f1 := h.grown (grown_of_below hw none) (by simp)
theorem IsS80.alloc {w0 W : World} {g : Nat} {f0 : List Int} {f1 : Bool} (h : IsS80 w0 W g f0 f1) (o : Obj) : IsS80 w0 (W.alloc o) g f0 f1 := h.below (below_alloc (Below.refl _ _) o)
theorem IsS80.drewN {w0 W : World} {g : Nat} {f0 : List Int} {f1 : Bool} (h : IsS80 w0 W g f0 f1) (m : Nat) : IsS80 w0 (W.drewN m) g f0 f1 := h
theorem IsS80.drew {w0 W : World} {g : Nat} {f0 : List Int} {f1 : Bool} (h : IsS80 w0 W g f0 f1) : IsS80 w0 W.drew g f0 f1 := h
theorem IsS80.at_ {w0 W : World} {g : Nat} {f0 : List Int} {f1 : Bool} {w' : World} {m : Nat} (hq : W.drewN m = w') (h : IsS80 w0 W g f0 f1) : IsS80 w0 w' g f0 f1 := by subst hq; exact IsS80.drewN h m
theorem IsS80.apart {w0 W : World} {g : Nat} {f0 : List Int} {f1 : Bool} {α : Type} {d : Kd α} {e : Nat} {base : Nat} {ok : Nat → Prop} {v : Value} {xs : List α} (h : IsS80 w0 W g f0 f1) (ho : d.R e W base ok v xs) (ht : ∀ q, q ∈ e :: d.E → q ≠ 80) : d.R e W base (fun k => ok k ∧ k ≠ g) v xs := by
 obtain ⟨A0, c0, hb, hg, hr0⟩ := h; exact Kd.R_types ho hb ht
theorem IsS80.own_ne {w0 W : World} {g : Nat} {f0 : List Int} {f1 : Bool} {α : Type} {d : Kd α} {e : Nat} {base : Nat} {ok : Nat → Prop} {v : Value} {xs : List α} (h : IsS80 w0 W g f0 f1) (ho : d.R e W base ok v xs) (ht : e ≠ 80) : some g ≠ v.ownBlock := by
 obtain ⟨A0, c0, hb, hg, hr0⟩ := h; exact Kd.R_ne ho hb ht
theorem IsS80.lt {w0 W : World} {g : Nat} {f0 : List Int} {f1 : Bool} (h : IsS80 w0 W g f0 f1) : g < W.heap.size := by
 obtain ⟨A0, c0, hb, hg, hr0⟩ := h; exact blk_lt hb
theorem IsS80.ge {w0 W : World} {g : Nat} {f0 : List Int} {f1 : Bool} (h : IsS80 w0 W g f0 f1) : w0.heap.size ≤ g := by
 obtain ⟨A0, c0, hb, hg, hr0⟩ := h; exact hg
theorem IsS80.ne_blk {w0 W : World} {g : Nat} {f0 : List Int} {f1 : Bool} {a : Nat} {cs : Array Value} {t : TypeId} {fr : Nat × Nat} (h : IsS80 w0 W g f0 f1) (hb2 : W.heap[a]? = some (.cells cs t fr)) (ht : t ≠ 80) : g ≠ a := by
 obtain ⟨A0, c0, hb, hg, hr0⟩ := h; rintro rfl; rw [hb] at hb2
 injection hb2 with hb2
 injection hb2 with _ ht2
 exact ht ht2.symm
theorem IsS80.far {w0 W : World} {g : Nat} {f0 : List Int} {f1 : Bool} {p : Addr} (h : IsS80 w0 W g f0 f1) (hne : g ≠ p.block) (u : Value) : IsS80 w0 (W.setCell p u) g f0 f1 := by
 obtain ⟨A0, c0, hb, hg, hr0⟩ := h; exact ⟨A0, c0, blk_far hb hne u, hg, hr0⟩
theorem cellS80_0 {W : World} {g : Nat} {A0 : Option Addr} {c0 : Nat} {f0 : List Int} {f1 : Bool} (h : W.heap[g]? = some (.cells #[.slice A0 f0.length c0, .bool f1] 80 (0, 0))) : W.cell? ⟨g, 0, none⟩ = some (.slice A0 f0.length c0) := (blk_cell h 0).trans rfl
theorem cellS80_1 {W : World} {g : Nat} {A0 : Option Addr} {c0 : Nat} {f0 : List Int} {f1 : Bool} (h : W.heap[g]? = some (.cells #[.slice A0 f0.length c0, .bool f1] 80 (0, 0))) : W.cell? ⟨g, 1, none⟩ = some (.bool f1) := (blk_cell h 1).trans rfl
theorem IsS80.set_1 {w0 W : World} {g : Nat} {f0 : List Int} {f1 : Bool} (h : IsS80 w0 W g f0 f1) (x : Bool) : IsS80 w0 (W.setCell ⟨g, 1, none⟩ (.bool x)) g f0 x := by
 obtain ⟨A0, c0, hb, hg, hr0⟩ := h; exact ⟨A0, c0, by simpa using blk_set hb 1 (.bool x), hg, hr0⟩
theorem IsS80.u {w0 w W : World} {g : Nat} {f0 : List Int} {f1 : Bool} {f0' : List Int} {f1' : Bool} (h : IsS80 w0 w g f0 f1) (hu : IsS80 w0 w g f0 f1 → IsS80 w0 W g f0' f1' := by intro h_; (repeat (first | (with_reducible first | exact h_ | apply IsS80.alloc | apply IsS80.drewN | apply IsS80.drew | apply IsS80.set_1) | refine IsS80.far ?_ (Aside0.out (by assumption)) _ | exact h_)); first | done | fail) : IsS80 w0 W g f0' f1' := hu h
theorem IsS80.new (w0 W : World) (A0 : Option Addr) (c0 : Nat) (f0 : List Int) (f1 : Bool) (hB : Below w0.heap.size w0 W) (hr0 : (Kd.C (Kd.int .u8) w0 A0 f0.length f0 ∧ f0.length ≤ c0)) : IsS80 w0 (W.alloc (.cells #[.slice A0 f0.length c0, .bool f1] 80)) W.heap.size f0 f1 := ⟨A0, c0, by simpa using heap_alloc_new W _, hB.size, hr0⟩
theorem below_keepJ80 {B1 g : Nat} {u v W W' : World} (h : Below u.heap.size u W) (h1 : Below B1 v W) (h2 : Below B1 v W') (hk : KeepBut W W' g none) (hg : u.heap.size ≤ g) : Below u.heap.size u W' :=
 ⟨h2.os.trans (h1.os.symm.trans h.os), h2.tape.trans (h1.tape.symm.trans h.tape), h2.output.trans (h1.output.symm.trans h.output), Nat.le_trans h.size hk.1, fun k hlt => (hk.2 k (Nat.lt_of_lt_of_le hlt h.size) (by omega) (by simp)).trans (h.block k hlt)⟩
def JS80 (w0 W : World) (g : Nat) (f0 : List Int) (f1 : Bool) : Prop := ∃ wS : World, IsS80 wS W g f0 f1 ∧ Below wS.heap.size wS W ∧ Below w0.heap.size w0 wS
theorem JS80.below {w0 W : World} {g : Nat} {f0 : List Int} {f1 : Bool} {W1 : World} (h : JS80 w0 W g f0 f1) (hw : Below W.heap.size W W1) : JS80 w0 W1 g f0 f1 := by
 obtain ⟨wS, h1, h2, h3⟩ := h; exact ⟨wS, h1.below hw, below_then h2 h2.size hw, h3⟩
theorem JS80.alloc {w0 W : World} {g : Nat} {f0 : List Int} {f1 : Bool} (h : JS80 w0 W g f0 f1) (o : Obj) : JS80 w0 (W.alloc o) g f0 f1 := h.below (below_alloc (Below.refl _ _) o)
theorem JS80.drewN {w0 W : World} {g : Nat} {f0 : List Int} {f1 : Bool} (h : JS80 w0 W g f0 f1) (m : Nat) : JS80 w0 (W.drewN m) g f0 f1 := h.below (pw_below_drewN (Below.refl _ _) m)
theorem JS80.drew {w0 W : World} {g : Nat} {f0 : List Int} {f1 : Bool} (h : JS80 w0 W g f0 f1) : JS80 w0 W.drew g f0 f1 := h.below (below_drew (Below.refl _ _))
theorem JS80.far {w0 W : World} {g : Nat} {f0 : List Int} {f1 : Bool} {p : Addr} (h : JS80 w0 W g f0 f1) (hlt : g < p.block) (u : Value) : JS80 w0 (W.setCell p u) g f0 f1 := by
 obtain ⟨wS, h1, h2, h3⟩ := h; exact ⟨wS, h1.far (Nat.ne_of_lt hlt) u, h2.setCell (Nat.le_trans (IsS80.ge h1) (Nat.le_of_lt hlt)) u, h3⟩
theorem JS80.u {w0 w W : World} {g : Nat} {f0 : List Int} {f1 : Bool} {f0' : List Int} {f1' : Bool} (h : JS80 w0 w g f0 f1) (hu : JS80 w0 w g f0 f1 → JS80 w0 W g f0' f1' := by intro h_; (repeat (first | (with_reducible first | exact h_ | apply JS80.alloc | apply JS80.drewN | apply JS80.drew) | refine JS80.far ?_ (Aside0.out (by assumption)) _ | exact h_)); first | done | fail) : JS80 w0 W g f0' f1' := hu h
theorem JS80.apart {w0 W : World} {g : Nat} {f0 : List Int} {f1 : Bool} {α : Type} {d : Kd α} {e : Nat} {base : Nat} {ok : Nat → Prop} {v : Value} {xs : List α} (h : JS80 w0 W g f0 f1) (ho : d.R e W base ok v xs) (ht : ∀ q, q ∈ e :: d.E → q ≠ 80) : d.R e W base (fun k => ok k ∧ k ≠ g) v xs := by
 obtain ⟨wS, h1, h2, h3⟩ := h; exact h1.apart ho ht
theorem JS80.lt {w0 W : World} {g : Nat} {f0 : List Int} {f1 : Bool} (h : JS80 w0 W g f0 f1) : g < W.heap.size := by
 obtain ⟨wS, h1, h2, h3⟩ := h; exact h1.lt
theorem JS80.ge {w0 W : World} {g : Nat} {f0 : List Int} {f1 : Bool} (h : JS80 w0 W g f0 f1) : w0.heap.size ≤ g := by
 obtain ⟨wS, h1, h2, h3⟩ := h; exact Nat.le_trans h3.size h1.ge
theorem JS80.ne_blk {w0 W : World} {g : Nat} {f0 : List Int} {f1 : Bool} {a : Nat} {cs : Array Value} {t : TypeId} {fr : Nat × Nat} (h : JS80 w0 W g f0 f1) (hb2 : W.heap[a]? = some (.cells cs t fr)) (ht : t ≠ 80) : g ≠ a := by
 obtain ⟨wS, h1, h2, h3⟩ := h; exact h1.ne_blk hb2 ht
def packet_Reader_Number.f (k : Nat) (s0_0 : List Int) (s0_1 : Bool) (a1 : Int) : Option (Int × List Int × Bool) := if s0_1 = true then some (0, s0_0, true) else (packet_number.f k s0_0 a1).bind fun p => if p.2 ≤ 0 then some (0, s0_0, true) else if p.2 ≤ (s0_0.length : Int) then some (p.1, s0_0.drop p.2.toNat, false) else none
theorem IsS80.cut {w0 W : World} {g : Nat} {f0 : List Int} {f1 : Bool} (h : IsS80 w0 W g f0 f1) (A' : Option Addr) (c' : Nat) (f0' : List Int) (hC : Kd.C (Kd.int .u8) w0 A' f0'.length f0' ∧ f0'.length ≤ c') : IsS80 w0 (W.setCell ⟨g, 0, none⟩ (.slice A' f0'.length c')) g f0' f1 := by
 obtain ⟨A0, c0, hb, hg, hr0⟩ := h; exact ⟨A', c', by simpa using blk_set hb 0 (.slice A' f0'.length c'), hg, hC⟩
set_option maxHeartbeats 8000000 in
set_option maxRecDepth 100000 in
theorem packet_Reader_Number.calls (k : Nat) (g : Nat) (s0_0 : List Int) (s0_1 : Bool) (a1 : Int) (r1 : Int) (r2 : List Int) (r3 : Bool) (w0 w : World) (hI : IsS80 w0 w g s0_0 s0_1) (hB : Below w0.heap.size w0 w) (h : packet_Reader_Number.f k s0_0 s0_1 a1 = some (r1, r2, r3)) :
  Calls Tryd.prog 46 #[.pointer (some ⟨g, 0, none⟩), .int .u64 a1] w fun e w' => e = .returned (.int .u64 r1) ∧ IsS80 w0 w' g r2 r3 ∧ Below w0.heap.size w0 w' ∧ KeepBut w w' g none := by
 have HI := am hI; have HB := am hB; obtain ⟨A0, c0, hblk, hge, hC, hle⟩ := hI; have HC := am hC; have HC2 := am (Kd.C_below hC hB); have HL := am hle; have HG := am hge; have hc0 := cellS80_0 hblk; have hc1 := cellS80_1 hblk; have hf0 := blk_frozen hblk 0; have hf1 := blk_frozen hblk 1; clear hB hblk hge hC hle; obtain ⟨i0, hi0, hzz⟩ := Option.map_eq_some_iff.1 info5; simp only [Prod.mk.injEq] at hzz; have HZ := am hzz.2.1; have HI0 := am hi0; clear hzz hi0
 unfold packet_Reader_Number.f at h
 cases s0_1 with
 | true =>
  rw [if_pos rfl] at h; have h := Option.some.inj h; simp only [Prod.mk.injEq] at h; obtain ⟨rfl, rfl, rfl⟩ := h; clear HC2 HL
  go_enter Tryd.func46, Tryd.ntmps46
  go_wp2_with fail
  go_ret
  exact ⟨rfl, HI.out, HB.out, KeepBut.refl w g none⟩
 | false =>
  rw [if_neg (by decide)] at h
  cases hn : packet_number.f k s0_0 a1 with
  | none => rw [hn] at h; cases h
  | some p =>
   obtain ⟨n, u⟩ := p; rw [hn] at h; simp only [Option.bind_some] at h; have HN := am hn; clear hn
   by_cases c1 : u ≤ 0
   ·rw [if_pos c1] at h
    have h := Option.some.inj h; simp only [Prod.mk.injEq] at h; obtain ⟨rfl, rfl, rfl⟩ := h; have c1b : decide (u ≤ 0) = true := decide_eq_true c1; clear c1
    go_enter Tryd.func46, Tryd.ntmps46
    go_wp2_with (go_at_call 60; refine (packet_number.calls k A0 c0 s0_0 a1 n u _ HC2.out HL.out HN.out).mono ?_; rintro e w' ⟨rfl, ⟨nd, rfl⟩⟩)
    go_ret
    exact ⟨rfl, (HI.out.drewN nd).set_1 true, below_set (pw_below_drewN HB.out nd) HG.out, KeepBut.set_ (keep_drewN (KeepBut.refl w g none) nd) _ _⟩
   ·rw [if_neg c1] at h
    have c1b : decide (u ≤ 0) = false := decide_eq_false c1
    by_cases c2 : u ≤ (s0_0.length : Int)
    ·rw [if_pos c2] at h
     have h := Option.some.inj h; simp only [Prod.mk.injEq] at h; obtain ⟨rfl, rfl, rfl⟩ := h; have hcut := cut_from (P := Tryd.prog) 52 5 .i64 Tryd.underlying52 HI0.out 1 HZ.out A0 s0_0.length c0 u (by omega) c2; have hdr := Kd.C_drop (m := u.toNat) HC.out (by omega) HL.out; rw [show (Kd.int .u8).sz = 1 from rfl] at hdr; obtain ⟨A', hA'⟩ : ∃ A' : Option Addr, A' = (if c0 = u.toNat then A0 else A0.map (·.add (u.toNat * 1))) := ⟨_, rfl⟩; rw [← hA'] at hdr hcut; rw [← List.length_drop] at hcut; have HD := am (show Kd.C (Kd.int .u8) w0 A' (s0_0.drop u.toNat).length (s0_0.drop u.toNat) ∧ (s0_0.drop u.toNat).length ≤ c0 - u.toNat from ⟨hdr, by rw [List.length_drop]; have := HL.out; omega⟩); clear hdr hA'; have HU := am c2; clear c2
     go_enter Tryd.func46, Tryd.ntmps46
     go_wp2_with (go_at_call 60; refine (packet_number.calls k A0 c0 s0_0 a1 n u _ HC2.out HL.out HN.out).mono ?_; rintro e w' ⟨rfl, ⟨nd, rfl⟩⟩)
     go_ret
     exact ⟨rfl, (by have z_ := (HI.out.drewN nd).cut _ _ _ HD.out; rw [List.length_drop] at z_; exact z_), below_set (pw_below_drewN HB.out nd) HG.out, KeepBut.set_ (keep_drewN (KeepBut.refl w g none) nd) _ _⟩
    ·rw [if_neg c2] at h; cases h
def packet_Reader_Text.f (k : Nat) (s0_0 : List Int) (s0_1 : Bool) (a1 : Int) : Option (ByteArray × List Int × Bool) := if 0 ≤ a1 ∧ a1 ≤ 1000000 then (packet_Reader_Number.f k s0_0 s0_1 a1).bind fun p => if p.2.2 = true then some (⟨#[]⟩, p.2.1, true) else if (p.2.1.length : Int) < p.1 then some (⟨#[]⟩, p.2.1, true) else if 0 ≤ p.1 then some (strOfNums (p.2.1.take p.1.toNat), p.2.1.drop p.1.toNat, false) else none else none
set_option maxHeartbeats 8000000 in
set_option maxRecDepth 100000 in
theorem packet_Reader_Text.calls (k : Nat) (g : Nat) (s0_0 : List Int) (s0_1 : Bool) (a1 : Int) (r1 : ByteArray) (r2 : List Int) (r3 : Bool) (w0 w : World) (hI : IsS80 w0 w g s0_0 s0_1) (hB : Below w0.heap.size w0 w) (h : packet_Reader_Text.f k s0_0 s0_1 a1 = some (r1, r2, r3)) :
  Calls Tryd.prog 47 #[.pointer (some ⟨g, 0, none⟩), .int .i64 a1] w fun e w' => e = .returned (.string r1) ∧ IsS80 w0 w' g r2 r3 ∧ Below w0.heap.size w0 w' ∧ KeepBut w w' g none := by
 unfold packet_Reader_Text.f at h
 by_cases ca : 0 ≤ a1 ∧ a1 ≤ 1000000
 ·rw [if_pos ca] at h
  obtain ⟨ca0, ca1⟩ := ca
  cases hn : packet_Reader_Number.f k s0_0 s0_1 a1 with
  | none => rw [hn] at h; cases h
  | some p =>
   obtain ⟨n, s, b⟩ := p; rw [hn] at h; simp only [Option.bind_some] at h; have HN := am hn; clear hn; have HI := am hI; have HB := am hB; obtain ⟨A0, c0, hblk, hge, hC, hle⟩ := hI; have HG := am hge; have hc0 := cellS80_0 hblk; have hc1 := cellS80_1 hblk; have hf0 := blk_frozen hblk 0; have hf1 := blk_frozen hblk 1; clear hB hblk hge hC hle; obtain ⟨i0, hi0, hzz⟩ := Option.map_eq_some_iff.1 info5; simp only [Prod.mk.injEq] at hzz; have HZ := am hzz.2.1; have HI0 := am hi0; clear hzz hi0; have HS := am (HI.out.set_1 s0_1); have HBS := am (show Below w0.heap.size w0 (w.setCell ⟨g, 1, none⟩ (.bool s0_1)) from below_set HB.out HG.out); have HKS := am (KeepBut.set_ (KeepBut.refl w g none) 1 (.bool s0_1)); have hlt : decide (a1 < 0) = false := decide_eq_false (by omega)
   have hmx : mx a1 0 = a1 := by unfold mx; omega
   have hwr : IntKind.u64.wrap a1 = a1 := IntWalk.u64_in a1 ⟨ca0, by omega⟩; have CA := am ca1; clear ca1
   cases s0_1
   all_goals
    cases b
    ·-- false
     rw [if_neg (by decide)] at h
     by_cases cn : (s.length : Int) < n
     ·rw [if_pos cn] at h
      have cnb : decide ((s.length : Int) < n) = true := decide_eq_true cn; have h := Option.some.inj h; simp only [Prod.mk.injEq] at h; obtain ⟨rfl, rfl, rfl⟩ := h; clear cn
      go_enter Tryd.func47, Tryd.ntmps47
      go_wp2_with (go_at_call 46; refine (packet_Reader_Number.calls k g _ _ _ n s _ w0 _ HS.out HBS.out HN.out).mono ?_; rintro e w2 ⟨rfl, hi, hb, hk⟩; have HI2 := am hi; have HB2 := am hb; have HK2 := am (HKS.out.trans hk (.inl rfl)); obtain ⟨A2, c2, hblk2, hge2, hC2, hle2⟩ := hi; have hd0 := cellS80_0 hblk2; have hd1 := cellS80_1 hblk2; have he0 := blk_frozen hblk2 0; have he1 := blk_frozen hblk2 1; have HC2 := am hC2; have HL2 := am hle2; clear hb hk hblk2 hge2 hC2 hle2; have hsl := Kd.C_max HC2.out; have hlw : IntKind.u64.wrap ((s.length : Nat) : Int) = ((s.length : Nat) : Int) := IntWalk.u64_in _ ⟨by omega, by omega⟩)
      go_ret
      exact ⟨rfl, HI2.out.set_1 true, below_set HB2.out HG.out, KeepBut.set_ HK2.out _ _⟩
     ·rw [if_neg cn] at h
      have cnb : decide ((s.length : Int) < n) = false := decide_eq_false cn
      by_cases cp : 0 ≤ n
      ·rw [if_pos cp] at h
       have h := Option.some.inj h; simp only [Prod.mk.injEq] at h; obtain ⟨rfl, rfl, rfl⟩ := h; have HP := am cp; have HM := am (show n ≤ (s.length : Int) by omega); clear cn cp
       go_enter Tryd.func47, Tryd.ntmps47
       go_wp2_with (go_at_call 46; refine (packet_Reader_Number.calls k g _ _ _ n s _ w0 _ HS.out HBS.out HN.out).mono ?_; rintro e w2 ⟨rfl, hi, hb, hk⟩; have HI2 := am hi; have HB2 := am hb; have HK2 := am (HKS.out.trans hk (.inl rfl)); obtain ⟨A2, c2, hblk2, hge2, hC2, hle2⟩ := hi; have hd0 := cellS80_0 hblk2; have hd1 := cellS80_1 hblk2; have he0 := blk_frozen hblk2 0; have he1 := blk_frozen hblk2 1; have HC2 := am hC2; have HL2 := am hle2; clear hb hk hblk2 hge2 hC2 hle2; have htl : (s.take n.toNat).length = n.toNat := (by rw [List.length_take]; have := HM.out; omega); have hcut := cut_to (P := Tryd.prog) 52 5 .u64 Tryd.underlying52 HI0.out A2 s.length c2 n HP.out HM.out HL2.out; have hcu2 := cut_from (P := Tryd.prog) 52 5 .u64 Tryd.underlying52 HI0.out 1 HZ.out A2 s.length c2 n HP.out HM.out; obtain ⟨A3, hA3⟩ : ∃ A3 : Option Addr, A3 = (if c2 = n.toNat then A2 else A2.map (·.add (n.toNat * 1))) := ⟨_, rfl⟩; have HD := am (show Kd.C (Kd.int .u8) w0 A3 (s.drop n.toNat).length (s.drop n.toNat) ∧ (s.drop n.toNat).length ≤ c2 - n.toNat from ⟨by rw [hA3]; exact Kd.C_drop (m := n.toNat) HC2.out (by have := HM.out; omega) HL2.out, by rw [List.length_drop]; have := HL2.out; omega⟩); rw [← hA3] at hcu2; clear hA3; have hst := Kd.C_string (P := Tryd.prog) (w := w2) (src := 52) (dst := 9) (e := 5) (A := A2) (n := n.toNat) (c := c2) (xs := s.take n.toNat) Tryd.underlying52 Tryd.underlying5 Tryd.underlying9 (by have z_ := Kd.C_below (Kd.C_take (m := n.toNat) HC2.out (by have := HM.out; omega)) HB2.out; rw [htl] at z_; exact z_); clear htl; have hsl := Kd.C_max HC2.out; have hlw : IntKind.u64.wrap ((s.length : Nat) : Int) = ((s.length : Nat) : Int) := IntWalk.u64_in _ ⟨by omega, by omega⟩)
       go_ret
       exact ⟨rfl, (by have z_ := HI2.out.cut _ _ _ HD.out; rw [List.length_drop] at z_; exact z_), below_set HB2.out HG.out, KeepBut.set_ HK2.out _ _⟩
      ·rw [if_neg cp] at h; cases h
    ·-- true
     rw [if_pos rfl] at h; have h := Option.some.inj h; simp only [Prod.mk.injEq] at h; obtain ⟨rfl, rfl, rfl⟩ := h
     go_enter Tryd.func47, Tryd.ntmps47
     go_wp2_with (go_at_call 46; refine (packet_Reader_Number.calls k g _ _ _ n s _ w0 _ HS.out HBS.out HN.out).mono ?_; rintro e w2 ⟨rfl, hi, hb, hk⟩; have HI2 := am hi; have HB2 := am hb; have HK2 := am (HKS.out.trans hk (.inl rfl)); obtain ⟨A2, c2, hblk2, hge2, hC2, hle2⟩ := hi; have hd0 := cellS80_0 hblk2; have hd1 := cellS80_1 hblk2; have he0 := blk_frozen hblk2 0; have he1 := blk_frozen hblk2 1; have HC2 := am hC2; have HL2 := am hle2; clear hb hk hblk2 hge2 hC2 hle2)
     go_ret
     exact ⟨rfl, HI2.out.set_1 true, below_set HB2.out HG.out, KeepBut.set_ HK2.out _ _⟩
 ·rw [if_neg ca] at h; cases h
def packet_Reader_Bad.f (s0_0 : List Int) (s0_1 : Bool) : Option (Bool × List Int × Bool) := some (s0_1, s0_0, s0_1)
set_option maxHeartbeats 8000000 in
set_option maxRecDepth 100000 in
theorem packet_Reader_Bad.calls (g : Nat) (s0_0 : List Int) (s0_1 : Bool) (r1 : Bool) (r2 : List Int) (r3 : Bool) (w0 w : World) (hI : IsS80 w0 w g s0_0 s0_1) (hB : Below w0.heap.size w0 w) (h : packet_Reader_Bad.f s0_0 s0_1 = some (r1, r2, r3)) :
  Calls Tryd.prog 48 #[.pointer (some ⟨g, 0, none⟩)] w fun e w' => e = .returned (.bool r1) ∧ IsS80 w0 w' g r2 r3 ∧ Below w0.heap.size w0 w' ∧ KeepBut w w' g none := by
 have HI0 := am hI; have HK := am (KeepBut.refl w g none); have HL := am hB.size; clear hI; have HW0 := am hB.size; have HB := am hB; clear hB; have H : (some (s0_1, s0_0, s0_1)) = some (r1, r2, r3) := h; clear h; simp only [Option.some.injEq, Prod.mk.injEq] at H; obtain ⟨rfl, rfl, rfl⟩ := H; obtain ⟨ASz2_0, cSz2_0, HGz2, hgz2, HSz2_0⟩ := HI0.out; have hcz2_0 := cellS80_0 HGz2; have hcz2_1 := cellS80_1 HGz2; have hfz2_0 := blk_frozen HGz2 0; have hfz2_1 := blk_frozen HGz2 1; clear HGz2 hgz2
 go_enter Tryd.func48, Tryd.ntmps48
 go_wp2
 go_ret
 exact ⟨ap4, IsS80.u HI0.out, beg (IsS80.ge HI0.out) HB.out, ku HK.out⟩
def batch_Take.l0 : Nat → Int → Int → List Int → Bool → Int → Int → Int → Int → Int → ByteArray → ByteArray → ByteArray → List ByteArray → Option (Int × Int × Int × Int × Int × ByteArray × ByteArray × ByteArray × List ByteArray × Bool × List Int × Bool)
 | 0, _, _, _, _, _, _, _, _, _, _, _, _, _ => none
 | k + 1, x30, x31, x1000, x1001, X9, X10, X11, X12, X13, X14, X15, X16, X17 => if x31 < x30 then ((packet_Reader_Text.f k x1000 x1001 32).bind fun bt265 => (if X17.length < 8796093022208 then (batch_Take.l0 k x30 (IntKind.u64.wrap (x31 + 1)) bt265.2.1 bt265.2.2 X9 X10 X11 X12 X13 X14 X15 X16 (X17 ++ [bt265.1])) else (none))) else ((packet_Reader_Bad.f x1000 x1001).bind fun bt271 => (if bt271.1 = true then (some (0, 0, 0, 0, 0, ⟨#[]⟩, ⟨#[]⟩, ⟨#[]⟩, ([] : List ByteArray), false, bt271.2.1, bt271.2.2)) else ((batch_Right.f k X9 X10 X11 X12 X13 X14 X15 X16 X17).bind fun t274 => (if t274 = true then (some (X9, X10, X11, X12, X13, X14, X15, X16, X17, true, bt271.2.1, bt271.2.2)) else (some (0, 0, 0, 0, 0, ⟨#[]⟩, ⟨#[]⟩, ⟨#[]⟩, ([] : List ByteArray), false, bt271.2.1, bt271.2.2))))))
def batch_Take.f (k : Nat) (s0_0 : List Int) (s0_1 : Bool) : Option (Int × Int × Int × Int × Int × ByteArray × ByteArray × ByteArray × List ByteArray × Bool × List Int × Bool) := (packet_Reader_Number.f k s0_0 s0_1 1000000000000).bind fun bt237 => ((packet_Reader_Number.f k bt237.2.1 bt237.2.2 2).bind fun bt240 => ((packet_Reader_Number.f k bt240.2.1 bt240.2.2 3).bind fun bt243 => ((packet_Reader_Number.f k bt243.2.1 bt243.2.2 1000000000000).bind fun bt246 => ((packet_Reader_Number.f k bt246.2.1 bt246.2.2 1099511627776).bind fun bt249 => ((packet_Reader_Text.f k bt249.2.1 bt249.2.2 32).bind fun bt253 => ((packet_Reader_Text.f k bt253.2.1 bt253.2.2 32).bind fun bt256 => ((packet_Reader_Text.f k bt256.2.1 bt256.2.2 32).bind fun bt259 => ((packet_Reader_Number.f k bt259.2.1 bt259.2.2 64).bind fun bt262 => (batch_Take.l0 k bt262.1 0 bt262.2.1 bt262.2.2 (wrap64 (bt237.1)) (wrap64 (bt246.1)) (wrap64 (bt249.1)) (wrap64 (bt240.1)) (wrap64 (bt243.1)) bt253.1 bt256.1 bt259.1 ([] : List ByteArray))))))))))
def batch_Take.T5 : Bool × List (List Nat × List Nat) := (true, [([], []), ([0], [0]), ([], []), ([2], [2]), ([3], [3]), ([1, 4, 3], [1, 4]), ([0, 1, 2, 3, 4, 5], []), ([6, 5, 5, 0, 1, 2, 3, 4, 5], [5, 6])])
def batch_Take.B5 : List Nat := [0, 1, 0, 4, 12, 31, 63, 127]
theorem batch_Take.tab5 : rtab .any (opsOf Tryd.f25 5) = batch_Take.T5 := by kernel_rfl
theorem batch_Take.bits5 : waitsOk batch_Take.T5.2 batch_Take.B5 = true := by kernel_rfl
set_option maxHeartbeats 8000000 in
set_option maxRecDepth 100000 in
theorem batch_Take.calls (k : Nat) (g : Nat) (s0_0 : List Int) (s0_1 : Bool) (r1 : Int) (r2 : Int) (r3 : Int) (r4 : Int) (r5 : Int) (r6 : ByteArray) (r7 : ByteArray) (r8 : ByteArray) (r9 : List ByteArray) (r10 : Bool) (r11 : List Int) (r12 : Bool) (w0 w : World) (hI : IsS80 w0 w g s0_0 s0_1) (hB : Below w0.heap.size w0 w) (hT : Tabs w0) (h : batch_Take.f k s0_0 s0_1 = some (r1, r2, r3, r4, r5, r6, r7, r8, r9, r10, r11, r12)) :
  Calls Tryd.prog 25 #[.pointer (some ⟨g, 0, none⟩)] w fun e w' => ∃ v8_ : Value, e = .returned (.tuple #[.agg #[.int .i64 r1, .int .i64 r2, .int .i64 r3, .int .i64 r4, .int .i64 r5, .string r6, .string r7, .string r8, v8_], .bool r10]) ∧ Kd.R Kd.string 9 w' w.heap.size (fun _ => True) v8_ r9 ∧ IsS80 w0 w' g r11 r12 ∧ Below w0.heap.size w0 w' ∧ KeepBut w w' g none := by
 have hu31 := Tryd.underlying31; have hu28 := Tryd.underlying28; have HT := am hT; clear hT; have HI0 := am hI; have HK := am (KeepBut.refl w g none); have HL := am hB.size; clear hI; have HW0 := am hB.size; have HB := am hB; clear hB; have H : ((packet_Reader_Number.f k s0_0 s0_1 1000000000000).bind fun bt237 => ((packet_Reader_Number.f k bt237.2.1 bt237.2.2 2).bind fun bt240 => ((packet_Reader_Number.f k bt240.2.1 bt240.2.2 3).bind fun bt243 => ((packet_Reader_Number.f k bt243.2.1 bt243.2.2 1000000000000).bind fun bt246 => ((packet_Reader_Number.f k bt246.2.1 bt246.2.2 1099511627776).bind fun bt249 => ((packet_Reader_Text.f k bt249.2.1 bt249.2.2 32).bind fun bt253 => ((packet_Reader_Text.f k bt253.2.1 bt253.2.2 32).bind fun bt256 => ((packet_Reader_Text.f k bt256.2.1 bt256.2.2 32).bind fun bt259 => ((packet_Reader_Number.f k bt259.2.1 bt259.2.2 64).bind fun bt262 => (batch_Take.l0 k bt262.1 0 bt262.2.1 bt262.2.2 (wrap64 (bt237.1)) (wrap64 (bt246.1)) (wrap64 (bt249.1)) (wrap64 (bt240.1)) (wrap64 (bt243.1)) bt253.1 bt256.1 bt259.1 ([] : List ByteArray))))))))))) = some (r1, r2, r3, r4, r5, r6, r7, r8, r9, r10, r11, r12) := h; clear h; replace H := obm H; obtain ⟨⟨t237, t238, t239⟩, A20, H⟩ := H; replace H : ((packet_Reader_Number.f k t238 t239 2).bind fun bt240 => ((packet_Reader_Number.f k bt240.2.1 bt240.2.2 3).bind fun bt243 => ((packet_Reader_Number.f k bt243.2.1 bt243.2.2 1000000000000).bind fun bt246 => ((packet_Reader_Number.f k bt246.2.1 bt246.2.2 1099511627776).bind fun bt249 => ((packet_Reader_Text.f k bt249.2.1 bt249.2.2 32).bind fun bt253 => ((packet_Reader_Text.f k bt253.2.1 bt253.2.2 32).bind fun bt256 => ((packet_Reader_Text.f k bt256.2.1 bt256.2.2 32).bind fun bt259 => ((packet_Reader_Number.f k bt259.2.1 bt259.2.2 64).bind fun bt262 => (batch_Take.l0 k bt262.1 0 bt262.2.1 bt262.2.2 (wrap64 (t237)) (wrap64 (bt246.1)) (wrap64 (bt249.1)) (wrap64 (bt240.1)) (wrap64 (bt243.1)) bt253.1 bt256.1 bt259.1 ([] : List ByteArray)))))))))) = some (r1, r2, r3, r4, r5, r6, r7, r8, r9, r10, r11, r12) := H; have A2 := am A20; clear A20; replace H := obm H; obtain ⟨⟨t240, t241, t242⟩, A30, H⟩ := H; replace H : ((packet_Reader_Number.f k t241 t242 3).bind fun bt243 => ((packet_Reader_Number.f k bt243.2.1 bt243.2.2 1000000000000).bind fun bt246 => ((packet_Reader_Number.f k bt246.2.1 bt246.2.2 1099511627776).bind fun bt249 => ((packet_Reader_Text.f k bt249.2.1 bt249.2.2 32).bind fun bt253 => ((packet_Reader_Text.f k bt253.2.1 bt253.2.2 32).bind fun bt256 => ((packet_Reader_Text.f k bt256.2.1 bt256.2.2 32).bind fun bt259 => ((packet_Reader_Number.f k bt259.2.1 bt259.2.2 64).bind fun bt262 => (batch_Take.l0 k bt262.1 0 bt262.2.1 bt262.2.2 (wrap64 (t237)) (wrap64 (bt246.1)) (wrap64 (bt249.1)) (wrap64 (t240)) (wrap64 (bt243.1)) bt253.1 bt256.1 bt259.1 ([] : List ByteArray))))))))) = some (r1, r2, r3, r4, r5, r6, r7, r8, r9, r10, r11, r12) := H; have A3 := am A30; clear A30; replace H := obm H; obtain ⟨⟨t243, t244, t245⟩, A40, H⟩ := H; replace H : ((packet_Reader_Number.f k t244 t245 1000000000000).bind fun bt246 => ((packet_Reader_Number.f k bt246.2.1 bt246.2.2 1099511627776).bind fun bt249 => ((packet_Reader_Text.f k bt249.2.1 bt249.2.2 32).bind fun bt253 => ((packet_Reader_Text.f k bt253.2.1 bt253.2.2 32).bind fun bt256 => ((packet_Reader_Text.f k bt256.2.1 bt256.2.2 32).bind fun bt259 => ((packet_Reader_Number.f k bt259.2.1 bt259.2.2 64).bind fun bt262 => (batch_Take.l0 k bt262.1 0 bt262.2.1 bt262.2.2 (wrap64 (t237)) (wrap64 (bt246.1)) (wrap64 (bt249.1)) (wrap64 (t240)) (wrap64 (t243)) bt253.1 bt256.1 bt259.1 ([] : List ByteArray)))))))) = some (r1, r2, r3, r4, r5, r6, r7, r8, r9, r10, r11, r12) := H; have A4 := am A40; clear A40; replace H := obm H; obtain ⟨⟨t246, t247, t248⟩, A50, H⟩ := H; replace H : ((packet_Reader_Number.f k t247 t248 1099511627776).bind fun bt249 => ((packet_Reader_Text.f k bt249.2.1 bt249.2.2 32).bind fun bt253 => ((packet_Reader_Text.f k bt253.2.1 bt253.2.2 32).bind fun bt256 => ((packet_Reader_Text.f k bt256.2.1 bt256.2.2 32).bind fun bt259 => ((packet_Reader_Number.f k bt259.2.1 bt259.2.2 64).bind fun bt262 => (batch_Take.l0 k bt262.1 0 bt262.2.1 bt262.2.2 (wrap64 (t237)) (wrap64 (t246)) (wrap64 (bt249.1)) (wrap64 (t240)) (wrap64 (t243)) bt253.1 bt256.1 bt259.1 ([] : List ByteArray))))))) = some (r1, r2, r3, r4, r5, r6, r7, r8, r9, r10, r11, r12) := H
 have A5 := am A50; clear A50; replace H := obm H; obtain ⟨⟨t249, t250, t251⟩, A60, H⟩ := H; replace H : ((packet_Reader_Text.f k t250 t251 32).bind fun bt253 => ((packet_Reader_Text.f k bt253.2.1 bt253.2.2 32).bind fun bt256 => ((packet_Reader_Text.f k bt256.2.1 bt256.2.2 32).bind fun bt259 => ((packet_Reader_Number.f k bt259.2.1 bt259.2.2 64).bind fun bt262 => (batch_Take.l0 k bt262.1 0 bt262.2.1 bt262.2.2 (wrap64 (t237)) (wrap64 (t246)) (wrap64 (t249)) (wrap64 (t240)) (wrap64 (t243)) bt253.1 bt256.1 bt259.1 ([] : List ByteArray)))))) = some (r1, r2, r3, r4, r5, r6, r7, r8, r9, r10, r11, r12) := H; have A6 := am A60; clear A60; replace H := obm H; obtain ⟨⟨t253, t254, t255⟩, A70, H⟩ := H; replace H : ((packet_Reader_Text.f k t254 t255 32).bind fun bt256 => ((packet_Reader_Text.f k bt256.2.1 bt256.2.2 32).bind fun bt259 => ((packet_Reader_Number.f k bt259.2.1 bt259.2.2 64).bind fun bt262 => (batch_Take.l0 k bt262.1 0 bt262.2.1 bt262.2.2 (wrap64 (t237)) (wrap64 (t246)) (wrap64 (t249)) (wrap64 (t240)) (wrap64 (t243)) t253 bt256.1 bt259.1 ([] : List ByteArray))))) = some (r1, r2, r3, r4, r5, r6, r7, r8, r9, r10, r11, r12) := H; have A7 := am A70; clear A70; replace H := obm H; obtain ⟨⟨t256, t257, t258⟩, A80, H⟩ := H; replace H : ((packet_Reader_Text.f k t257 t258 32).bind fun bt259 => ((packet_Reader_Number.f k bt259.2.1 bt259.2.2 64).bind fun bt262 => (batch_Take.l0 k bt262.1 0 bt262.2.1 bt262.2.2 (wrap64 (t237)) (wrap64 (t246)) (wrap64 (t249)) (wrap64 (t240)) (wrap64 (t243)) t253 t256 bt259.1 ([] : List ByteArray)))) = some (r1, r2, r3, r4, r5, r6, r7, r8, r9, r10, r11, r12) := H; have A8 := am A80; clear A80; replace H := obm H; obtain ⟨⟨t259, t260, t261⟩, A90, H⟩ := H; replace H : ((packet_Reader_Number.f k t260 t261 64).bind fun bt262 => (batch_Take.l0 k bt262.1 0 bt262.2.1 bt262.2.2 (wrap64 (t237)) (wrap64 (t246)) (wrap64 (t249)) (wrap64 (t240)) (wrap64 (t243)) t253 t256 t259 ([] : List ByteArray))) = some (r1, r2, r3, r4, r5, r6, r7, r8, r9, r10, r11, r12) := H; have A9 := am A90; clear A90; replace H := obm H; obtain ⟨⟨t262, t263, t264⟩, A100, H⟩ := H; replace H : (batch_Take.l0 k t262 0 t263 t264 (wrap64 (t237)) (wrap64 (t246)) (wrap64 (t249)) (wrap64 (t240)) (wrap64 (t243)) t253 t256 t259 ([] : List ByteArray)) = some (r1, r2, r3, r4, r5, r6, r7, r8, r9, r10, r11, r12) := H; have A10 := am A100; clear A100; have H' := am H; clear H
 go_enter Tryd.func25, Tryd.ntmps25
 go_wp2_with (first | ((with_reducible refine gate_dst (N := 2) rfl ?_); refine box_event ?hg (N := 2) ?hd (cs := #[.int .i64 0, .int .i64 0, .int .i64 0, .int .i64 0, .int .i64 0, .string ⟨#[]⟩, .string ⟨#[]⟩, .string ⟨#[]⟩, .slice none 0 0]) (t := 31) ?hr ?_; (case hd => rfl); (case hg => rfl); (case hr => first | (go_simp; done) | (go_simp; rfl)); intro gb236 hg w11 hbox hb; have _ := am (IsS80.below (IsS80.u HI0.out) hb); have _ := am (KeepBut.trans (ku HK.out) (KeepBut.of_below hb g none) (.inl rfl)); have _ := am (below_step (beg (IsS80.ge HI0.out) HB.out) hb); have _ := am (hbox); have _ := am ((by rw [hg]; exact (keep_size (w := w) (g := g) (row := none) (ku HK.out)) : w.heap.size ≤ gb236)); have _ := am ((Nat.le_trans HW0.out (by rw [hg]; exact (keep_size (w := w) (g := g) (row := none) (ku HK.out)) : w.heap.size ≤ gb236) : w0.heap.size ≤ gb236)); have _ := am ((by rw [hg]; exact (IsS80.lt (show IsS80 w0 _ g s0_0 s0_1 from IsS80.u HI0.out)) : g < gb236)); have _ := am ((by rw [hg]; exact Nat.ne_of_lt (IsS80.lt (show IsS80 w0 _ g s0_0 s0_1 from IsS80.u HI0.out)) : g ≠ gb236)); have _ := am ((by rw [hg]; exact Nat.ne_of_gt (IsS80.lt (show IsS80 w0 _ g s0_0 s0_1 from IsS80.u HI0.out)) : gb236 ≠ g)); clear HI0 HK HB; rename_i HI0 HK HB BK236 GW236 GE236 NG0_236 NB0_236 NB236_0; clear hb hbox hg) | ((with_reducible refine gate_callee (f := 46) rfl ?_); refine goesL_ (some 6) rfl rfl Tryd.func46 (by kernel_rfl) rfl #[.pointer (some ⟨g, 0, none⟩), .int .u64 1000000000000] rfl ap1 ?_; (with_reducible refine (packet_Reader_Number.calls k g s0_0 s0_1 1000000000000 t237 t238 t239 w0 _ ?side1 ?side2 A2.out).mono ?_); (case side1 => exact IsS80.u HI0.out); (case side2 => exact beg (IsS80.ge HI0.out) HB.out); rintro e w12 ⟨rfl, hi, hb, hk⟩; refine ⟨_, rfl, ?_⟩; have _ := am (KeepBut.blk hk (bu BK236.out) NB236_0.out (by simp)); have _ := am (KeepBut.trans (ku HK.out) hk (.inl rfl)); have _ := am (hb); have _ := am (hi); clear BK236 HK HB HI0; rename_i BK236 HK HB HI0; (try clear hb hk hi)) | ((with_reducible refine gate_callee (f := 46) rfl ?_); refine goesL_ (some 9) rfl rfl Tryd.func46 (by kernel_rfl) rfl #[.pointer (some ⟨g, 0, none⟩), .int .u64 2] rfl ap1 ?_; (with_reducible refine (packet_Reader_Number.calls k g t238 t239 2 t240 t241 t242 w0 _ ?side1 ?side2 A3.out).mono ?_); (case side1 => exact IsS80.u HI0.out); (case side2 => exact beg (IsS80.ge HI0.out) HB.out); rintro e w13 ⟨rfl, hi, hb, hk⟩; refine ⟨_, rfl, ?_⟩; have _ := am (KeepBut.blk hk (bu BK236.out) NB236_0.out (by simp)); have _ := am (KeepBut.trans (ku HK.out) hk (.inl rfl)); have _ := am (hb); have _ := am (hi); clear BK236 HK HB HI0; rename_i BK236 HK HB HI0; (try clear hb hk hi)) | ((with_reducible refine gate_callee (f := 46) rfl ?_); refine goesL_ (some 12) rfl rfl Tryd.func46 (by kernel_rfl) rfl #[.pointer (some ⟨g, 0, none⟩), .int .u64 3] rfl ap1 ?_; (with_reducible refine (packet_Reader_Number.calls k g t241 t242 3 t243 t244 t245 w0 _ ?side1 ?side2 A4.out).mono ?_); (case side1 => exact IsS80.u HI0.out); (case side2 => exact beg (IsS80.ge HI0.out) HB.out); rintro e w14 ⟨rfl, hi, hb, hk⟩; refine ⟨_, rfl, ?_⟩; have _ := am (KeepBut.blk hk (bu BK236.out) NB236_0.out (by simp)); have _ := am (KeepBut.trans (ku HK.out) hk (.inl rfl)); have _ := am (hb); have _ := am (hi); clear BK236 HK HB HI0; rename_i BK236 HK HB HI0; (try clear hb hk hi)) | ((with_reducible refine gate_callee (f := 46) rfl ?_); refine goesL_ (some 15) rfl rfl Tryd.func46 (by kernel_rfl) rfl #[.pointer (some ⟨g, 0, none⟩), .int .u64 1000000000000] rfl ap1 ?_; (with_reducible refine (packet_Reader_Number.calls k g t244 t245 1000000000000 t246 t247 t248 w0 _ ?side1 ?side2 A5.out).mono ?_); (case side1 => exact IsS80.u HI0.out); (case side2 => exact beg (IsS80.ge HI0.out) HB.out); rintro e w15 ⟨rfl, hi, hb, hk⟩; refine ⟨_, rfl, ?_⟩; have _ := am (KeepBut.blk hk (bu BK236.out) NB236_0.out (by simp)); have _ := am (KeepBut.trans (ku HK.out) hk (.inl rfl)); have _ := am (hb); have _ := am (hi); clear BK236 HK HB HI0; rename_i BK236 HK HB HI0; (try clear hb hk hi)) | ((with_reducible refine gate_callee (f := 46) rfl ?_); refine goesL_ (some 18) rfl rfl Tryd.func46 (by kernel_rfl) rfl #[.pointer (some ⟨g, 0, none⟩), .int .u64 1099511627776] rfl ap1 ?_; (with_reducible refine (packet_Reader_Number.calls k g t247 t248 1099511627776 t249 t250 t251 w0 _ ?side1 ?side2 A6.out).mono ?_); (case side1 => exact IsS80.u HI0.out); (case side2 => exact beg (IsS80.ge HI0.out) HB.out); rintro e w16 ⟨rfl, hi, hb, hk⟩; refine ⟨_, rfl, ?_⟩; have _ := am (KeepBut.blk hk (bu BK236.out) NB236_0.out (by simp)); have _ := am (KeepBut.trans (ku HK.out) hk (.inl rfl)); have _ := am (hb); have _ := am (hi); clear BK236 HK HB HI0; rename_i BK236 HK HB HI0; (try clear hb hk hi)) | ((with_reducible refine gate_dst (N := 4) rfl ?_); refine box_event ?hg (N := 4) ?hd (cs := #[.int .i64 0, .int .i64 0, .int .i64 0, .int .i64 0, .int .i64 0, .string ⟨#[]⟩, .string ⟨#[]⟩, .string ⟨#[]⟩, .slice none 0 0]) (t := 31) ?hr ?_; (case hd => rfl); (case hg => rfl); (case hr => first | (go_simp; done) | (go_simp; rfl)); intro gb252 hg w17 hbox hb; have _ := am (IsS80.below (IsS80.u HI0.out) hb); have _ := am (blk_below (bu BK236.out) hb); have _ := am (KeepBut.trans (ku HK.out) (KeepBut.of_below hb g none) (.inl rfl)); have _ := am (below_step (beg (IsS80.ge HI0.out) HB.out) hb); have _ := am (hbox); have _ := am ((by rw [hg]; exact (keep_size (w := w) (g := g) (row := none) (ku HK.out)) : w.heap.size ≤ gb252)); have _ := am ((Nat.le_trans HW0.out (by rw [hg]; exact (keep_size (w := w) (g := g) (row := none) (ku HK.out)) : w.heap.size ≤ gb252) : w0.heap.size ≤ gb252)); have _ := am (nb1 hg BK236.out : gb236 ≠ gb252); have _ := am (nb2 hg BK236.out : gb252 ≠ gb236); have _ := am ((by rw [hg]; exact (IsS80.lt (show IsS80 w0 _ g t250 t251 from IsS80.u HI0.out)) : g < gb252)); have _ := am ((by rw [hg]; exact Nat.ne_of_lt (IsS80.lt (show IsS80 w0 _ g t250 t251 from IsS80.u HI0.out)) : g ≠ gb252)); have _ := am ((by rw [hg]; exact Nat.ne_of_gt (IsS80.lt (show IsS80 w0 _ g t250 t251 from IsS80.u HI0.out)) : gb252 ≠ g)); clear HI0 BK236 HK HB; rename_i HI0 BK236 HK HB BK252 GW252 GE252 NB236_252 NB252_236 NG0_252 NB0_252 NB252_0; clear hb hbox hg; have := NB252_236.out; have := NB236_252.out; have := NB252_0.out; have := NB0_252.out; obtain ⟨hcz20_0, hcz20_1, hcz20_2, hcz20_3, hcz20_4, hcz20_5, hcz20_6, hcz20_7, hcz20_8⟩ := cells9 BK252.out; obtain ⟨hfz20_0, hfz20_1, hfz20_2, hfz20_3, hfz20_4, hfz20_5, hfz20_6, hfz20_7, hfz20_8⟩ := frozens9 BK252.out) | ((with_reducible refine gate_callee (f := 47) rfl ?_); refine goesL_ (some 22) rfl rfl Tryd.func47 (by kernel_rfl) rfl #[.pointer (some ⟨g, 0, none⟩), .int .i64 32] rfl ap1 ?_; (with_reducible refine (packet_Reader_Text.calls k g t250 t251 32 t253 t254 t255 w0 _ ?side1 ?side2 A7.out).mono ?_); (case side1 => exact IsS80.u HI0.out); (case side2 => exact beg (IsS80.ge HI0.out) HB.out); rintro e w21 ⟨rfl, hi, hb, hk⟩; refine ⟨_, rfl, ?_⟩; have _ := am (KeepBut.blk hk (g' := gb236) (o := .cells #[.int .i64 0, .int .i64 0, .int .i64 0, .int .i64 0, .int .i64 0, .string ⟨#[]⟩, .string ⟨#[]⟩, .string ⟨#[]⟩, .slice none 0 0] 31 (0, 0)) (bf BK236.out) NB236_0.out (by simp)); have _ := am (KeepBut.blk hk (g' := gb252) (o := .cells #[.int .i64 (wrap64 (t237)), .int .i64 (wrap64 (t246)), .int .i64 (wrap64 (t249)), .int .i64 (wrap64 (t240)), .int .i64 (wrap64 (t243)), .string ⟨#[]⟩, .string ⟨#[]⟩, .string ⟨#[]⟩, .slice none 0 0] 31 (0, 0)) (by refine bu ?_; refine blk_put (cs := #[.int .i64 (wrap64 (t237)), .int .i64 (wrap64 (t246)), .int .i64 (wrap64 (t249)), .int .i64 (wrap64 (t240)), .int .i64 (wrap64 (t243)), .string ⟨#[]⟩, .string ⟨#[]⟩, .string ⟨#[]⟩, .slice none 0 0]) ?_ 8 _ rfl; refine bu ?_; refine blk_put (cs := #[.int .i64 (wrap64 (t237)), .int .i64 (wrap64 (t246)), .int .i64 (wrap64 (t249)), .int .i64 (wrap64 (t240)), .int .i64 (wrap64 (t243)), .string ⟨#[]⟩, .string ⟨#[]⟩, .string ⟨#[]⟩, .slice none 0 0]) ?_ 7 _ rfl; refine bu ?_; refine blk_put (cs := #[.int .i64 (wrap64 (t237)), .int .i64 (wrap64 (t246)), .int .i64 (wrap64 (t249)), .int .i64 (wrap64 (t240)), .int .i64 (wrap64 (t243)), .string ⟨#[]⟩, .string ⟨#[]⟩, .string ⟨#[]⟩, .slice none 0 0]) ?_ 6 _ rfl; refine bu ?_; refine blk_put (cs := #[.int .i64 (wrap64 (t237)), .int .i64 (wrap64 (t246)), .int .i64 (wrap64 (t249)), .int .i64 (wrap64 (t240)), .int .i64 (wrap64 (t243)), .string ⟨#[]⟩, .string ⟨#[]⟩, .string ⟨#[]⟩, .slice none 0 0]) ?_ 5 _ rfl; refine bu ?_; refine blk_put (cs := #[.int .i64 (wrap64 (t237)), .int .i64 (wrap64 (t246)), .int .i64 (wrap64 (t249)), .int .i64 (wrap64 (t240)), .int .i64 0, .string ⟨#[]⟩, .string ⟨#[]⟩, .string ⟨#[]⟩, .slice none 0 0]) ?_ 4 _ rfl; refine bu ?_; refine blk_put (cs := #[.int .i64 (wrap64 (t237)), .int .i64 (wrap64 (t246)), .int .i64 (wrap64 (t249)), .int .i64 0, .int .i64 0, .string ⟨#[]⟩, .string ⟨#[]⟩, .string ⟨#[]⟩, .slice none 0 0]) ?_ 3 _ rfl; refine bu ?_; refine blk_put (cs := #[.int .i64 (wrap64 (t237)), .int .i64 (wrap64 (t246)), .int .i64 0, .int .i64 0, .int .i64 0, .string ⟨#[]⟩, .string ⟨#[]⟩, .string ⟨#[]⟩, .slice none 0 0]) ?_ 2 _ rfl; refine bu ?_; refine blk_put (cs := #[.int .i64 (wrap64 (t237)), .int .i64 0, .int .i64 0, .int .i64 0, .int .i64 0, .string ⟨#[]⟩, .string ⟨#[]⟩, .string ⟨#[]⟩, .slice none 0 0]) ?_ 1 _ rfl; refine bu ?_; refine blk_put (cs := #[.int .i64 0, .int .i64 0, .int .i64 0, .int .i64 0, .int .i64 0, .string ⟨#[]⟩, .string ⟨#[]⟩, .string ⟨#[]⟩, .slice none 0 0]) ?_ 0 _ rfl; refine bu ?_; exact BK252.out) NB252_0.out (by simp)); have _ := am (KeepBut.trans (ku HK.out) hk (.inl rfl)); have _ := am (hb); have _ := am (hi); clear BK236 BK252 HK HB HI0; rename_i BK236 BK252 HK HB HI0; (try clear hb hk hi)) | ((with_reducible refine gate_callee (f := 47) rfl ?_); refine goesL_ (some 24) rfl rfl Tryd.func47 (by kernel_rfl) rfl #[.pointer (some ⟨g, 0, none⟩), .int .i64 32] rfl ap1 ?_; (with_reducible refine (packet_Reader_Text.calls k g t254 t255 32 t256 t257 t258 w0 _ ?side1 ?side2 A8.out).mono ?_); (case side1 => exact IsS80.u HI0.out); (case side2 => exact beg (IsS80.ge HI0.out) HB.out); rintro e w22 ⟨rfl, hi, hb, hk⟩; refine ⟨_, rfl, ?_⟩; have _ := am (KeepBut.blk hk (bu BK236.out) NB236_0.out (by simp)); have _ := am (KeepBut.blk hk (bu BK252.out) NB252_0.out (by simp)); have _ := am (KeepBut.trans (ku HK.out) hk (.inl rfl)); have _ := am (hb); have _ := am (hi); clear BK236 BK252 HK HB HI0; rename_i BK236 BK252 HK HB HI0; (try clear hb hk hi)) | ((with_reducible refine gate_callee (f := 47) rfl ?_); refine goesL_ (some 26) rfl rfl Tryd.func47 (by kernel_rfl) rfl #[.pointer (some ⟨g, 0, none⟩), .int .i64 32] rfl ap1 ?_; (with_reducible refine (packet_Reader_Text.calls k g t257 t258 32 t259 t260 t261 w0 _ ?side1 ?side2 A9.out).mono ?_); (case side1 => exact IsS80.u HI0.out); (case side2 => exact beg (IsS80.ge HI0.out) HB.out); rintro e w23 ⟨rfl, hi, hb, hk⟩; refine ⟨_, rfl, ?_⟩; have _ := am (KeepBut.blk hk (bu BK236.out) NB236_0.out (by simp)); have _ := am (KeepBut.blk hk (bu BK252.out) NB252_0.out (by simp)); have _ := am (KeepBut.trans (ku HK.out) hk (.inl rfl)); have _ := am (hb); have _ := am (hi); clear BK236 BK252 HK HB HI0; rename_i BK236 BK252 HK HB HI0; (try clear hb hk hi); obtain ⟨hcz24_0, hcz24_1, hcz24_2, hcz24_3, hcz24_4, hcz24_5, hcz24_6, hcz24_7, hcz24_8⟩ := cells9 BK252.out; obtain ⟨hfz24_0, hfz24_1, hfz24_2, hfz24_3, hfz24_4, hfz24_5, hfz24_6, hfz24_7, hfz24_8⟩ := frozens9 BK252.out) | ((with_reducible refine gate_callee (f := 46) rfl ?_); refine goesL_ (some 30) rfl rfl Tryd.func46 (by kernel_rfl) rfl #[.pointer (some ⟨g, 0, none⟩), .int .u64 64] rfl ap1 ?_; (with_reducible refine (packet_Reader_Number.calls k g t260 t261 64 t262 t263 t264 w0 _ ?side1 ?side2 A10.out).mono ?_); (case side1 => exact IsS80.u HI0.out); (case side2 => exact beg (IsS80.ge HI0.out) HB.out); rintro e w25 ⟨rfl, hi, hb, hk⟩; refine ⟨_, rfl, ?_⟩; have _ := am (KeepBut.blk hk (g' := gb236) (o := .cells #[.int .i64 0, .int .i64 0, .int .i64 0, .int .i64 0, .int .i64 0, .string ⟨#[]⟩, .string ⟨#[]⟩, .string ⟨#[]⟩, .slice none 0 0] 31 (0, 0)) (bf BK236.out) NB236_0.out (by simp)); have _ := am (KeepBut.blk hk (g' := gb252) (o := .cells #[.int .i64 (wrap64 (t237)), .int .i64 (wrap64 (t246)), .int .i64 (wrap64 (t249)), .int .i64 (wrap64 (t240)), .int .i64 (wrap64 (t243)), .string t253, .string t256, .string t259, .slice none 0 0] 31 (0, 0)) (by refine bu ?_; refine blk_put (cs := #[.int .i64 (wrap64 (t237)), .int .i64 (wrap64 (t246)), .int .i64 (wrap64 (t249)), .int .i64 (wrap64 (t240)), .int .i64 (wrap64 (t243)), .string t253, .string t256, .string ⟨#[]⟩, .slice none 0 0]) ?_ 7 _ rfl; refine bu ?_; refine blk_put (cs := #[.int .i64 (wrap64 (t237)), .int .i64 (wrap64 (t246)), .int .i64 (wrap64 (t249)), .int .i64 (wrap64 (t240)), .int .i64 (wrap64 (t243)), .string t253, .string ⟨#[]⟩, .string ⟨#[]⟩, .slice none 0 0]) ?_ 6 _ rfl; refine bu ?_; refine blk_put (cs := #[.int .i64 (wrap64 (t237)), .int .i64 (wrap64 (t246)), .int .i64 (wrap64 (t249)), .int .i64 (wrap64 (t240)), .int .i64 (wrap64 (t243)), .string ⟨#[]⟩, .string ⟨#[]⟩, .string ⟨#[]⟩, .slice none 0 0]) ?_ 5 _ rfl; refine bu ?_; exact BK252.out) NB252_0.out (by simp)); have _ := am (KeepBut.trans (ku HK.out) hk (.inl rfl)); have _ := am (hb); have _ := am (hi); clear BK236 BK252 HK HB HI0; rename_i BK236 BK252 HK HB HI0; (try clear hb hk hi)))
 go_loopg [31] k (fun kq v31 w' => ∃ (x31_1 : Int) (x1000_1 : List Int) (x1001_1 : Bool) (X17_1 : List ByteArray) (u253008 : Value), v31 = .int .u64 x31_1 ∧ Aside0 (batch_Take.l0 kq t262 x31_1 x1000_1 x1001_1 (wrap64 (t237)) (wrap64 (t246)) (wrap64 (t249)) (wrap64 (t240)) (wrap64 (t243)) t253 t256 t259 X17_1 = some (r1, r2, r3, r4, r5, r6, r7, r8, r9, r10, r11, r12)) ∧ Aside0 (kq ≤ k) ∧ Aside0 (Kd.R Kd.string 9 w' w.heap.size (fun _ => True) u253008 X17_1) ∧ Aside0 (w'.heap[gb236]? = some (.cells #[.int .i64 0, .int .i64 0, .int .i64 0, .int .i64 0, .int .i64 0, .string ⟨#[]⟩, .string ⟨#[]⟩, .string ⟨#[]⟩, (.slice none 0 0)] 31 (0, 0))) ∧ Aside0 (w'.heap[gb252]? = some (.cells #[.int .i64 (wrap64 (t237)), .int .i64 (wrap64 (t246)), .int .i64 (wrap64 (t249)), .int .i64 (wrap64 (t240)), .int .i64 (wrap64 (t243)), .string t253, .string t256, .string t259, u253008] 31 (0, 0))) ∧ Aside0 (IsS80 w0 w' g x1000_1 x1001_1) ∧ Aside0 (KeepBut w w' g none) ∧ Aside0 (Below w0.heap.size w0 w'))
 case atStart => exact ⟨(0), (t263), (t264), (([] : List ByteArray)), (.slice none 0 0), ap3, H', ⟨Nat.le_refl _⟩, ⟨by first | exact Kd.R_nil _ _ _ _ _ | exact Kd.N_nil _ _ _ _ _ | exact Kd.V_nil _ _ _ _ _ | exact Kd.Q_nil _ _ _ _ _ | exact Kd.S_nil _ _ _ _ _⟩, ⟨by refine bu ?_; exact BK236.out⟩, ⟨by refine bu ?_; exact BK252.out⟩, ⟨IsS80.u HI0.out⟩, ⟨ku HK.out⟩, ⟨beg (IsS80.ge HI0.out) HB.out⟩⟩
 case round =>
  clear H'; (try clear c1); (try clear c2); (try clear p2); (try clear c4); (try clear p6); (try clear c18); (try clear c19); (try clear c25); (try clear hcz20_0); (try clear hcz20_1); (try clear hcz20_2); (try clear hcz20_3); (try clear hcz20_4); (try clear hcz20_5); (try clear hcz20_6); (try clear hcz20_7); (try clear hcz20_8); (try clear hcz24_0); (try clear hcz24_1); (try clear hcz24_2); (try clear hcz24_3); (try clear hcz24_4); (try clear hcz24_5); (try clear hcz24_6); (try clear hcz24_7); (try clear hcz24_8); (try clear hfz20_0); (try clear hfz20_1); (try clear hfz20_2); (try clear hfz20_3); (try clear hfz20_4); (try clear hfz20_5); (try clear hfz20_6); (try clear hfz20_7); (try clear hfz20_8); (try clear hfz24_0); (try clear hfz24_1); (try clear hfz24_2); (try clear hfz24_3); (try clear hfz24_4); (try clear hfz24_5); (try clear hfz24_6); (try clear hfz24_7); (try clear hfz24_8); obtain ⟨x31_1, x1000_1, x1001_1, X17_1, u253008, rfl, HA, HK1, HO_253008, BK236, BK252, HI0, HK, HB⟩ := hrel
  cases gk with
  | zero => exact absurd HA.out (by simp [batch_Take.l0])
  | succ k1 =>
   have H := HA.out; clear HA; simp only [batch_Take.l0] at H
   by_cases c26 : x31_1 < t262
   ·rw [if_pos c26] at H
    have c26b0 : decide (x31_1 < t262) = true := decide_eq_true c26; clear c26; replace H := obm H; obtain ⟨⟨t265, t266, t267⟩, A270, H⟩ := H; replace H : (if X17_1.length < 8796093022208 then (batch_Take.l0 k1 t262 (IntKind.u64.wrap (x31_1 + 1)) t266 t267 (wrap64 (t237)) (wrap64 (t246)) (wrap64 (t249)) (wrap64 (t240)) (wrap64 (t243)) t253 t256 t259 (X17_1 ++ [t265])) else (none)) = some (r1, r2, r3, r4, r5, r6, r7, r8, r9, r10, r11, r12) := H; have A27 := am A270; clear A270
    by_cases c28 : X17_1.length < 8796093022208
    ·rw [if_pos c28] at H
     have LMc28 := am c28; clear c28; obtain ⟨y268, hy268⟩ : ∃ y_ : List ByteArray, y_ = (X17_1 ++ [t265]) := ⟨_, rfl⟩
     replace H : (batch_Take.l0 k1 t262 (IntKind.u64.wrap (x31_1 + 1)) t266 t267 (wrap64 (t237)) (wrap64 (t246)) (wrap64 (t249)) (wrap64 (t240)) (wrap64 (t243)) t253 t256 t259 y268) = some (r1, r2, r3, r4, r5, r6, r7, r8, r9, r10, r11, r12) := by first | (rw [hy268]; with_reducible exact H) | (have H2_ := (Option.bind_some _ _).symm.trans H; rw [hy268]; with_reducible exact H2_) | (have H2_ := (Option.bind_some _ _).symm.trans H; with_reducible exact H2_) | with_reducible exact H | (rw [hy268]; exact H) | exact H
     have Ny268 := am hy268; clear hy268; have H' := am H; clear H
     try go_wp2
     (try (rw [drewN_self wr]; generalize hq_ : World.drewN wr _ = wr; have _ := am (show Kd.R _ _ wr _ _ _ _ from by rw [← hq_]; exact Kd.R_drewN HO_253008.out _); have _ := am (blk_at hq_ BK236.out); have _ := am (blk_at hq_ BK252.out); have _ := am (IsS80.at_ hq_ HI0.out); clear hq_ HO_253008 BK236 BK252 HI0; rename_i HO_253008 BK236 BK252 HI0))
     have n0_ := am (Kd.R_drew HO_253008.out); have n1_ := am (blk_drew BK236.out); have n2_ := am (blk_drew BK252.out); have n3_ := am (IsS80.drew HI0.out); have n4_ := am (keep_drew HK.out); have n5_ := am (below_drew1 HB.out); clear HO_253008 BK236 BK252 HI0 HK HB; have HO_253008 := n0_; have BK236 := n1_; have BK252 := n2_; have HI0 := n3_; have HK := n4_; have HB := n5_; clear n0_ n1_ n2_ n3_ n4_ n5_
     refine start_ (n := 8) (S := fun w' => w'.cell? ⟨gb252, 0, none⟩ = some (.int .i64 (wrap64 (t237))) ∧ w'.cell? ⟨gb252, 1, none⟩ = some (.int .i64 (wrap64 (t246))) ∧ w'.cell? ⟨gb252, 2, none⟩ = some (.int .i64 (wrap64 (t249))) ∧ w'.cell? ⟨gb252, 3, none⟩ = some (.int .i64 (wrap64 (t240))) ∧ w'.cell? ⟨gb252, 4, none⟩ = some (.int .i64 (wrap64 (t243))) ∧ w'.cell? ⟨gb252, 5, none⟩ = some (.string t253) ∧ w'.cell? ⟨gb252, 6, none⟩ = some (.string t256) ∧ w'.cell? ⟨gb252, 7, none⟩ = some (.string t259) ∧ w'.cell? ⟨gb252, 8, none⟩ = some (u253008)) (ds := [7]) #[false, false, false, false, false, false, false, false] (by kernel_rfl) rfl rfl ⟨(blk_cell BK252.out 0).trans rfl, (blk_cell BK252.out 1).trans rfl, (blk_cell BK252.out 2).trans rfl, (blk_cell BK252.out 3).trans rfl, (blk_cell BK252.out 4).trans rfl, (blk_cell BK252.out 5).trans rfl, (blk_cell BK252.out 6).trans rfl, (blk_cell BK252.out 7).trans rfl, (blk_cell BK252.out 8).trans rfl⟩ (fun hHeld => ?_); refine with_tabW batch_Take.tab5 batch_Take.bits5 (fun HT_ HW_ => ?_)
     generalize wr.drew = w29 at HO_253008 BK236 BK252 HI0 HK HB hHeld ⊢; refine pure_ (i := 0) (N := some 33) (v := ?_) (a' := ?_) (bs 8 1) rfl rfl (ak HT_.out) (fun _ _ _ h => h) (Or.inl ⟨by rfl, ?_⟩) ?_ ?_; rotate_left
     ·intro w'
      go_simp
      with_reducible rfl
     rotate_left
     ·simp only [Act.put, sA, sB, sC, i64_w, i32_w]
      rfl
     refine pure_ (i := 2) (N := some 35) (v := ?_) (a' := ?_) (bs 8 5) rfl rfl (ak HT_.out) (fun _ _ _ h => h) (Or.inl ⟨by rfl, ?_⟩) ?_ ?_; rotate_left
     ·intro w'
      go_simp
      with_reducible rfl
     rotate_left
     ·simp only [Act.put, sA, sB, sC, i64_w, i32_w]
      rfl
     refine take_ (i := 1) (N := some 34) (v := ?_) (a' := ?_) (bs 8 7) rfl rfl (take_ofW HT_.out HW_.out (by kernel_rfl)) (fun _ _ _ h => h) (Or.inl ⟨by rfl, ?_⟩) hHeld ?_ ?_; rotate_left
     ·rintro w' ⟨s0, s1, s2, s3, s4, s5, s6, s7, s8⟩
      go_simp
      with_reducible rfl
     rotate_left
     ·simp only [Act.put, sA, sB, sC, i64_w, i32_w]
      rfl
     refine one_ (i := 3) (N := some 36) (bs 8 15) rfl rfl (one_of HT_.out (by kernel_rfl)) (by decide) (fun K hK => ?_); refine goes_ Tryd.func47 (by kernel_rfl) rfl #[.pointer (some ⟨g, 0, none⟩), .int .i64 32] (by rfl) rfl rfl ap1 ?_; with_reducible refine (packet_Reader_Text.calls k1 g x1000_1 x1001_1 32 t265 t266 t267 w0 _ ?side1 ?side2 A27.out).mono ?_
     (case side1 => exact IsS80.u HI0.out)
     (case side2 => exact beg (IsS80.ge HI0.out) HB.out)
     rintro e w30 ⟨rfl, hi, hb, hk⟩; refine ⟨_, rfl, ?_⟩; have n0_ := am (Kd.R_mono (Kd.R_keep (IsS80.apart (show IsS80 w0 _ g x1000_1 x1001_1 from IsS80.u HI0.out) (ru HO_253008.out) (by decide)) hk (fun _ h => h.2)) (fun _ h => h.1)); have n1_ := am (KeepBut.blk hk (bu BK236.out) NB236_0.out (by simp)); have n2_ := am (KeepBut.blk hk (bu BK252.out) NB252_0.out (by simp)); have n3_ := am (KeepBut.trans (ku HK.out) hk (.inl rfl)); have n4_ := am (hb); have n5_ := am (hi); clear HO_253008 BK236 BK252 HK HB HI0; have HO_253008 := n0_; have BK236 := n1_; have BK252 := n2_; have HK := n3_; have HB := n4_; have HI0 := n5_; clear n0_ n1_ n2_ n3_ n4_ n5_
     (try clear hb)
     (try clear hb2)
     (try clear hk)
     (try clear hi)
     refine hK.out _ _ ⟨(blk_cell BK252.out 0).trans rfl, (blk_cell BK252.out 1).trans rfl, (blk_cell BK252.out 2).trans rfl, (blk_cell BK252.out 3).trans rfl, (blk_cell BK252.out 4).trans rfl, (blk_cell BK252.out 5).trans rfl, (blk_cell BK252.out 6).trans rfl, (blk_cell BK252.out 7).trans rfl, (blk_cell BK252.out 8).trans rfl⟩ (fun hHeld => ?_); clear hK K; refine norm_ (a' := ?_) ?_ ?_; rotate_left
     ·show Act.put _ (some 36) _ = _
      simp only [Act.put, sA, sB, sC, i64_w, i32_w]
      rfl
     refine one_ (i := 4) (N := some 37) (bs 8 31) rfl rfl (one_of HT_.out (by kernel_rfl)) (by decide) (fun K hK => ?_); refine value_ (w1 := ?_) (v := ?_) (by rfl) rfl ?_ ?_; rotate_left 2
     ·go_simp
      constructor
      ·rfl
      ·rfl
     refine hK.out _ _ ⟨(blk_cell (blk_alloc BK252.out _) 0).trans rfl, (blk_cell (blk_alloc BK252.out _) 1).trans rfl, (blk_cell (blk_alloc BK252.out _) 2).trans rfl, (blk_cell (blk_alloc BK252.out _) 3).trans rfl, (blk_cell (blk_alloc BK252.out _) 4).trans rfl, (blk_cell (blk_alloc BK252.out _) 5).trans rfl, (blk_cell (blk_alloc BK252.out _) 6).trans rfl, (blk_cell (blk_alloc BK252.out _) 7).trans rfl, (blk_cell (blk_alloc BK252.out _) 8).trans rfl⟩ (fun hHeld => ?_); clear hK K; refine norm_ (a' := ?_) ?_ ?_; rotate_left
     ·show Act.put _ (some 37) _ = _
      simp only [Act.put, sA, sB, sC, i64_w, i32_w]
      rfl
     refine one_ (i := 5) (N := some 38) (bs 8 63) rfl rfl (one_of HT_.out (by kernel_rfl)) (by decide) (fun K hK => ?_); refine Kd.R_append_step Kd.string w.heap.size (by rfl) (.tmp 34) (.tmp 37) 29 9 (.string ⟨#[]⟩) 16 rfl Tryd.underlying29 info9 rfl (by decide) (by omega) u253008 X17_1 t265 [.string t265] (fun _ => True) (fun _ => False) rfl rfl ?aP (fun _ hk => hk.elim) ?aF ?aO (Below.refl _ _) ?aS ?aL ?_
     (case aP => exact rfl)
     (case aF => exact (fun _ _ => trivial))
     (case aO => exact (ru HO_253008.out))
     (case aS => exact (keep_size (w := w) (g := g) (row := none) (ku HK.out)))
     (case aL => have := LMc28.out; omega)
     intro v269 w31 ho hb hg hat; rw [← Ny268.out] at ho; have n0_ := am (blk_grown (bu BK236.out) hg (Kd.R_ne HO_253008.out BK236.out (by decide))); have n1_ := am (blk_grown (bu BK252.out) hg (Kd.R_ne HO_253008.out BK252.out (by decide))); have n2_ := am (IsS80.grown (IsS80.u HI0.out) hg (IsS80.own_ne HI0.out HO_253008.out (by decide))); have n3_ := am (below_weaken (beg (IsS80.ge HI0.out) HB.out) HL.out hb); have n4_ := am (KeepBut.trans (ku HK.out) (KeepBut.of_grown hg g) (Kd.R_base2 HO_253008.out)); have n5_ := am (ho); clear BK236 BK252 HI0 HB HK HO_253008; have BK236 := n0_; have BK252 := n1_; have HI0 := n2_; have HB := n3_; have HK := n4_; have HO270 := n5_; clear n0_ n1_ n2_ n3_ n4_ n5_ ho hb hg hat; obtain ⟨Ao32, co32, eo32⟩ := Kd.R_slice HO270.out
     (first | subst eo32 | (injection eo32 with f1_ f2_ f3_; have f4_ := f1_.symm; have f5_ := f3_.symm; clear f1_ f2_ f3_; subst f4_; subst f5_))
     refine hK.out _ _ ⟨(blk_cell BK252.out 0).trans rfl, (blk_cell BK252.out 1).trans rfl, (blk_cell BK252.out 2).trans rfl, (blk_cell BK252.out 3).trans rfl, (blk_cell BK252.out 4).trans rfl, (blk_cell BK252.out 5).trans rfl, (blk_cell BK252.out 6).trans rfl, (blk_cell BK252.out 7).trans rfl, (blk_cell BK252.out 8).trans rfl⟩ (fun hHeld => ?_); clear hK K; refine norm_ (a' := ?_) ?_ ?_; rotate_left
     ·show Act.put _ (some 38) _ = _
      simp only [Act.put, sA, sB, sC, i64_w, i32_w]
      rfl
     refine pure_ (i := 6) (N := some 39) (v := ?_) (a' := ?_) (bs 8 127) rfl rfl (ak HT_.out) (fun _ _ _ h => h) (Or.inl ⟨by rfl, ?_⟩) ?_ ?_; rotate_left
     ·intro w'
      go_simp
      with_reducible rfl
     rotate_left
     ·simp only [Act.put, sA, sB, sC, i64_w, i32_w]
      rfl
     refine last_ (i := 7) (N := none) (bs 8 255) rfl rfl (one_of HT_.out (by kernel_rfl)) (by decide) (fun K hK => ?_); have hs33 : w31.cell? ⟨gb252, 8, none⟩ = some (u253008) := (blk_cell BK252.out 8).trans rfl; have hfs33 := blk_frozen BK252.out 8; have hns33_0 := NB236_252.out; have hms33_0 := NB252_236.out; refine skip_ (w1 := ?_) (by rfl) rfl ?_ ?_; rotate_left
     ·go_simp
      rfl
     refine hK.out _ _ ?_; clear hK K; refine done_ (done_of HT_.out (by kernel_rfl)) ?_
     try go_wp2
     go_roundg k1
     case measure => have := HK1.out; omega
     case rel => exact ⟨(IntKind.u64.wrap (x31_1 + 1)), (t266), (t267), (y268), (.slice Ao32 y268.length co32), ap3, H', ⟨by have := HK1.out; omega⟩, ⟨ru (Kd.R_mono (rf gb252 8 (Kd.R_types HO270.out BK252.out (by decide)) (.slice Ao32 y268.length co32)) (fun _ hk => trivial))⟩, ⟨by refine bu ?_; refine blk_far ?_ NB236_252.out _; refine bu ?_; exact BK236.out⟩, ⟨by refine bu ?_; refine blk_put (cs := #[.int .i64 (wrap64 (t237)), .int .i64 (wrap64 (t246)), .int .i64 (wrap64 (t249)), .int .i64 (wrap64 (t240)), .int .i64 (wrap64 (t243)), .string t253, .string t256, .string t259, u253008]) ?_ 8 _ rfl; refine bu ?_; exact BK252.out⟩, ⟨IsS80.u HI0.out⟩, ⟨ku HK.out⟩, ⟨beg (IsS80.ge HI0.out) HB.out⟩⟩
    ·rw [if_neg c28] at H
     exact absurd H (by simp)
   ·rw [if_neg c26] at H
    have c26b0 : decide (x31_1 < t262) = false := decide_eq_false c26; clear c26; replace H := obm H; obtain ⟨⟨t271, t272, t273⟩, A340, H⟩ := H; replace H : (if t271 = true then (some (0, 0, 0, 0, 0, ⟨#[]⟩, ⟨#[]⟩, ⟨#[]⟩, ([] : List ByteArray), false, t272, t273)) else ((batch_Right.f k1 (wrap64 (t237)) (wrap64 (t246)) (wrap64 (t249)) (wrap64 (t240)) (wrap64 (t243)) t253 t256 t259 X17_1).bind fun t274 => (if t274 = true then (some ((wrap64 (t237)), (wrap64 (t246)), (wrap64 (t249)), (wrap64 (t240)), (wrap64 (t243)), t253, t256, t259, X17_1, true, t272, t273)) else (some (0, 0, 0, 0, 0, ⟨#[]⟩, ⟨#[]⟩, ⟨#[]⟩, ([] : List ByteArray), false, t272, t273))))) = some (r1, r2, r3, r4, r5, r6, r7, r8, r9, r10, r11, r12) := H; have A34 := am A340; clear A340
    by_cases c35 : t271 = true
    ·subst c35
     have H1 : (some (0, 0, 0, 0, 0, ⟨#[]⟩, ⟨#[]⟩, ⟨#[]⟩, ([] : List ByteArray), false, t272, t273)) = some (r1, r2, r3, r4, r5, r6, r7, r8, r9, r10, r11, r12) := by rw [if_pos rfl] at H; exact H
     clear H; have H := H1; clear H1; simp only [Option.some.injEq, Prod.mk.injEq] at H; obtain ⟨rfl, rfl, rfl, rfl, rfl, rfl, rfl, rfl, rfl, rfl, rfl, rfl⟩ := H
     go_wp2_with (first | ((with_reducible refine gate_callee (f := 48) rfl ?_); refine goesL_ (some 42) rfl rfl Tryd.func48 (by kernel_rfl) rfl #[.pointer (some ⟨g, 0, none⟩)] rfl ap1 ?_; (with_reducible refine (packet_Reader_Bad.calls g x1000_1 x1001_1 true t272 t273 w0 _ ?side1 ?side2 A34.out).mono ?_); (case side1 => exact IsS80.u HI0.out); (case side2 => exact beg (IsS80.ge HI0.out) HB.out); rintro e w36 ⟨rfl, hi, hb, hk⟩; refine ⟨_, rfl, ?_⟩; have _ := am (Kd.R_mono (Kd.R_keep (IsS80.apart (show IsS80 w0 _ g x1000_1 x1001_1 from IsS80.u HI0.out) (ru HO_253008.out) (by decide)) hk (fun _ h => h.2)) (fun _ h => h.1)); have _ := am (KeepBut.blk hk (bu BK236.out) NB236_0.out (by simp)); have _ := am (KeepBut.blk hk (bu BK252.out) NB252_0.out (by simp)); have _ := am (KeepBut.trans (ku HK.out) hk (.inl rfl)); have _ := am (hb); have _ := am (hi); clear HO_253008 BK236 BK252 HK HB HI0; rename_i HO_253008 BK236 BK252 HK HB HI0; (try clear hb hk hi); have := NB236_252.out; have := NB252_236.out; have := NB236_0.out; have := NB0_236.out; obtain ⟨_, _, _, _, _, _, _, _, _⟩ := cells9 BK236.out; obtain ⟨_, _, _, _, _, _, _, _, _⟩ := frozens9 BK236.out))
     refine bodyPost_ret (results_ct rfl _ _ gb236 31 #[.int .i64 0, .int .i64 0, .int .i64 0, .int .i64 0, .int .i64 0, .string ⟨#[]⟩, .string ⟨#[]⟩, .string ⟨#[]⟩, .slice none 0 0] (0, 0) _ rfl (by (with_reducible repeat (first | refine blk_drewN ?_ _ | refine blk_drew ?_ | refine blk_alloc ?_ _)); refine blk_put (cs := #[.int .i64 0, .int .i64 0, .int .i64 0, .int .i64 0, .int .i64 0, .string ⟨#[]⟩, .string ⟨#[]⟩, .string ⟨#[]⟩, .slice none 0 0]) ?_ 8 _ rfl; (with_reducible repeat (first | refine blk_drewN ?_ _ | refine blk_drew ?_ | refine blk_alloc ?_ _)); refine blk_put (cs := #[.int .i64 0, .int .i64 0, .int .i64 0, .int .i64 0, .int .i64 0, .string ⟨#[]⟩, .string ⟨#[]⟩, .string ⟨#[]⟩, .slice none 0 0]) ?_ 7 _ rfl; (with_reducible repeat (first | refine blk_drewN ?_ _ | refine blk_drew ?_ | refine blk_alloc ?_ _)); refine blk_put (cs := #[.int .i64 0, .int .i64 0, .int .i64 0, .int .i64 0, .int .i64 0, .string ⟨#[]⟩, .string ⟨#[]⟩, .string ⟨#[]⟩, .slice none 0 0]) ?_ 6 _ rfl; (with_reducible repeat (first | refine blk_drewN ?_ _ | refine blk_drew ?_ | refine blk_alloc ?_ _)); refine blk_put (cs := #[.int .i64 0, .int .i64 0, .int .i64 0, .int .i64 0, .int .i64 0, .string ⟨#[]⟩, .string ⟨#[]⟩, .string ⟨#[]⟩, .slice none 0 0]) ?_ 5 _ rfl; (with_reducible repeat (first | refine blk_drewN ?_ _ | refine blk_drew ?_ | refine blk_alloc ?_ _)); refine blk_put (cs := #[.int .i64 0, .int .i64 0, .int .i64 0, .int .i64 0, .int .i64 0, .string ⟨#[]⟩, .string ⟨#[]⟩, .string ⟨#[]⟩, .slice none 0 0]) ?_ 4 _ rfl; (with_reducible repeat (first | refine blk_drewN ?_ _ | refine blk_drew ?_ | refine blk_alloc ?_ _)); refine blk_put (cs := #[.int .i64 0, .int .i64 0, .int .i64 0, .int .i64 0, .int .i64 0, .string ⟨#[]⟩, .string ⟨#[]⟩, .string ⟨#[]⟩, .slice none 0 0]) ?_ 3 _ rfl; (with_reducible repeat (first | refine blk_drewN ?_ _ | refine blk_drew ?_ | refine blk_alloc ?_ _)); refine blk_put (cs := #[.int .i64 0, .int .i64 0, .int .i64 0, .int .i64 0, .int .i64 0, .string ⟨#[]⟩, .string ⟨#[]⟩, .string ⟨#[]⟩, .slice none 0 0]) ?_ 2 _ rfl; (with_reducible repeat (first | refine blk_drewN ?_ _ | refine blk_drew ?_ | refine blk_alloc ?_ _)); refine blk_put (cs := #[.int .i64 0, .int .i64 0, .int .i64 0, .int .i64 0, .int .i64 0, .string ⟨#[]⟩, .string ⟨#[]⟩, .string ⟨#[]⟩, .slice none 0 0]) ?_ 1 _ rfl; (with_reducible repeat (first | refine blk_drewN ?_ _ | refine blk_drew ?_ | refine blk_alloc ?_ _)); refine blk_put (cs := #[.int .i64 0, .int .i64 0, .int .i64 0, .int .i64 0, .int .i64 0, .string ⟨#[]⟩, .string ⟨#[]⟩, .string ⟨#[]⟩, .slice none 0 0]) ?_ 0 _ rfl; (with_reducible repeat (first | refine blk_drewN ?_ _ | refine blk_drew ?_ | refine blk_alloc ?_ _)); exact BK236.out) Tryd.underlying31 rfl (by kernel_rfl)) rfl ?_; exact ⟨_, ap4, by first | exact Kd.R_nil _ _ _ _ _ | exact Kd.N_nil _ _ _ _ _ | exact Kd.V_nil _ _ _ _ _ | exact Kd.Q_nil _ _ _ _ _ | exact Kd.S_nil _ _ _ _ _, IsS80.u HI0.out, beg (IsS80.ge HI0.out) HB.out, ku HK.out⟩
    ·replace c35 := Bool.eq_false_iff.mpr c35
     subst c35
     have H1 : ((batch_Right.f k1 (wrap64 (t237)) (wrap64 (t246)) (wrap64 (t249)) (wrap64 (t240)) (wrap64 (t243)) t253 t256 t259 X17_1).bind fun t274 => (if t274 = true then (some ((wrap64 (t237)), (wrap64 (t246)), (wrap64 (t249)), (wrap64 (t240)), (wrap64 (t243)), t253, t256, t259, X17_1, true, t272, t273)) else (some (0, 0, 0, 0, 0, ⟨#[]⟩, ⟨#[]⟩, ⟨#[]⟩, ([] : List ByteArray), false, t272, t273)))) = some (r1, r2, r3, r4, r5, r6, r7, r8, r9, r10, r11, r12) := by rw [if_neg (show ¬ (false = true) by decide)] at H; exact H
     clear H; have H := H1; clear H1; replace H := obm H; obtain ⟨t274, A400, H⟩ := H; replace H : (if t274 = true then (some ((wrap64 (t237)), (wrap64 (t246)), (wrap64 (t249)), (wrap64 (t240)), (wrap64 (t243)), t253, t256, t259, X17_1, true, t272, t273)) else (some (0, 0, 0, 0, 0, ⟨#[]⟩, ⟨#[]⟩, ⟨#[]⟩, ([] : List ByteArray), false, t272, t273))) = some (r1, r2, r3, r4, r5, r6, r7, r8, r9, r10, r11, r12) := H; have A40 := am A400; clear A400
     by_cases c41 : t274 = true
     ·subst c41
      have H1 : (some ((wrap64 (t237)), (wrap64 (t246)), (wrap64 (t249)), (wrap64 (t240)), (wrap64 (t243)), t253, t256, t259, X17_1, true, t272, t273)) = some (r1, r2, r3, r4, r5, r6, r7, r8, r9, r10, r11, r12) := by rw [if_pos rfl] at H; exact H
      clear H; have H := H1; clear H1; simp only [Option.some.injEq, Prod.mk.injEq] at H; obtain ⟨rfl, rfl, rfl, rfl, rfl, rfl, rfl, rfl, rfl, rfl, rfl, rfl⟩ := H
      go_wp2_with (first | ((with_reducible refine gate_callee (f := 48) rfl ?_); refine goesL_ (some 42) rfl rfl Tryd.func48 (by kernel_rfl) rfl #[.pointer (some ⟨g, 0, none⟩)] rfl ap1 ?_; (with_reducible refine (packet_Reader_Bad.calls g x1000_1 x1001_1 false t272 t273 w0 _ ?side1 ?side2 A34.out).mono ?_); (case side1 => exact IsS80.u HI0.out); (case side2 => exact beg (IsS80.ge HI0.out) HB.out); rintro e w42 ⟨rfl, hi, hb, hk⟩; refine ⟨_, rfl, ?_⟩; have _ := am (Kd.R_mono (Kd.R_keep (IsS80.apart (show IsS80 w0 _ g x1000_1 x1001_1 from IsS80.u HI0.out) (ru HO_253008.out) (by decide)) hk (fun _ h => h.2)) (fun _ h => h.1)); have _ := am (KeepBut.blk hk (bu BK236.out) NB236_0.out (by simp)); have _ := am (KeepBut.blk hk (bu BK252.out) NB252_0.out (by simp)); have _ := am (KeepBut.trans (ku HK.out) hk (.inl rfl)); have _ := am (hb); have _ := am (hi); clear HO_253008 BK236 BK252 HK HB HI0; rename_i HO_253008 BK236 BK252 HK HB HI0; (try clear hb hk hi); have := NB252_236.out; have := NB236_252.out; have := NB252_0.out; have := NB0_252.out; obtain ⟨_, _, _, _, _, _, _, _, _⟩ := cells9 BK252.out; obtain ⟨_, _, _, _, _, _, _, _, _⟩ := frozens9 BK252.out; obtain ⟨Ao46, co46, eo46⟩ := Kd.R_slice HO_253008.out; subst eo46) | (go_at_call 14; (with_reducible refine (batch_Right.calls k1 (wrap64 (t237)) (wrap64 (t246)) (wrap64 (t249)) (wrap64 (t240)) (wrap64 (t243)) t253 t256 t259 _ _ X17_1 true _ ?side1 ?side2 ?side3 A40.out).mono ?_); (case side1 => exact cu (Kd.R_reads' HO_253008.out).2.2); (case side2 => exact (Kd.R_reads' HO_253008.out).2.1); (case side3 => first | exact HT.out | exact Tabs.below HT.out (beg (IsS80.ge HI0.out) HB.out)); rintro e w47 ⟨rfl, hb⟩; have _ := am (Kd.R_below (ru HO_253008.out) hb); have _ := am (blk_below (bu BK236.out) hb); have _ := am (blk_below (bu BK252.out) hb); have _ := am (IsS80.below (IsS80.u HI0.out) hb); have _ := am (KeepBut.trans (ku HK.out) (KeepBut.of_below hb g none) (.inl rfl)); have _ := am (below_step (beg (IsS80.ge HI0.out) HB.out) hb); clear HO_253008 BK236 BK252 HI0 HK HB; rename_i HO_253008 BK236 BK252 HI0 HK HB; (try clear hb); obtain ⟨_, _, _, _, _, _, _, _, _⟩ := cells9 BK252.out; obtain ⟨_, _, _, _, _, _, _, _, _⟩ := frozens9 BK252.out; have := NB236_0.out; have := NB0_236.out; obtain ⟨_, _, _, _, _, _, _, _, _⟩ := cells9 BK236.out; obtain ⟨_, _, _, _, _, _, _, _, _⟩ := frozens9 BK236.out))
      refine bodyPost_ret (results_ct rfl _ _ gb236 31 #[.int .i64 (wrap64 (t237)), .int .i64 (wrap64 (t246)), .int .i64 (wrap64 (t249)), .int .i64 (wrap64 (t240)), .int .i64 (wrap64 (t243)), .string t253, .string t256, .string t259, .slice Ao46 X17_1.length co46] (0, 0) _ rfl (by (with_reducible repeat (first | refine blk_drewN ?_ _ | refine blk_drew ?_ | refine blk_alloc ?_ _)); refine blk_put (cs := #[.int .i64 (wrap64 (t237)), .int .i64 (wrap64 (t246)), .int .i64 (wrap64 (t249)), .int .i64 (wrap64 (t240)), .int .i64 (wrap64 (t243)), .string t253, .string t256, .string t259, .slice none 0 0]) ?_ 8 _ rfl; (with_reducible repeat (first | refine blk_drewN ?_ _ | refine blk_drew ?_ | refine blk_alloc ?_ _)); refine blk_put (cs := #[.int .i64 (wrap64 (t237)), .int .i64 (wrap64 (t246)), .int .i64 (wrap64 (t249)), .int .i64 (wrap64 (t240)), .int .i64 (wrap64 (t243)), .string t253, .string t256, .string ⟨#[]⟩, .slice none 0 0]) ?_ 7 _ rfl; (with_reducible repeat (first | refine blk_drewN ?_ _ | refine blk_drew ?_ | refine blk_alloc ?_ _)); refine blk_put (cs := #[.int .i64 (wrap64 (t237)), .int .i64 (wrap64 (t246)), .int .i64 (wrap64 (t249)), .int .i64 (wrap64 (t240)), .int .i64 (wrap64 (t243)), .string t253, .string ⟨#[]⟩, .string ⟨#[]⟩, .slice none 0 0]) ?_ 6 _ rfl; (with_reducible repeat (first | refine blk_drewN ?_ _ | refine blk_drew ?_ | refine blk_alloc ?_ _)); refine blk_put (cs := #[.int .i64 (wrap64 (t237)), .int .i64 (wrap64 (t246)), .int .i64 (wrap64 (t249)), .int .i64 (wrap64 (t240)), .int .i64 (wrap64 (t243)), .string ⟨#[]⟩, .string ⟨#[]⟩, .string ⟨#[]⟩, .slice none 0 0]) ?_ 5 _ rfl; (with_reducible repeat (first | refine blk_drewN ?_ _ | refine blk_drew ?_ | refine blk_alloc ?_ _)); refine blk_put (cs := #[.int .i64 (wrap64 (t237)), .int .i64 (wrap64 (t246)), .int .i64 (wrap64 (t249)), .int .i64 (wrap64 (t240)), .int .i64 0, .string ⟨#[]⟩, .string ⟨#[]⟩, .string ⟨#[]⟩, .slice none 0 0]) ?_ 4 _ rfl; (with_reducible repeat (first | refine blk_drewN ?_ _ | refine blk_drew ?_ | refine blk_alloc ?_ _)); refine blk_put (cs := #[.int .i64 (wrap64 (t237)), .int .i64 (wrap64 (t246)), .int .i64 (wrap64 (t249)), .int .i64 0, .int .i64 0, .string ⟨#[]⟩, .string ⟨#[]⟩, .string ⟨#[]⟩, .slice none 0 0]) ?_ 3 _ rfl; (with_reducible repeat (first | refine blk_drewN ?_ _ | refine blk_drew ?_ | refine blk_alloc ?_ _)); refine blk_put (cs := #[.int .i64 (wrap64 (t237)), .int .i64 (wrap64 (t246)), .int .i64 0, .int .i64 0, .int .i64 0, .string ⟨#[]⟩, .string ⟨#[]⟩, .string ⟨#[]⟩, .slice none 0 0]) ?_ 2 _ rfl; (with_reducible repeat (first | refine blk_drewN ?_ _ | refine blk_drew ?_ | refine blk_alloc ?_ _)); refine blk_put (cs := #[.int .i64 (wrap64 (t237)), .int .i64 0, .int .i64 0, .int .i64 0, .int .i64 0, .string ⟨#[]⟩, .string ⟨#[]⟩, .string ⟨#[]⟩, .slice none 0 0]) ?_ 1 _ rfl; (with_reducible repeat (first | refine blk_drewN ?_ _ | refine blk_drew ?_ | refine blk_alloc ?_ _)); refine blk_put (cs := #[.int .i64 0, .int .i64 0, .int .i64 0, .int .i64 0, .int .i64 0, .string ⟨#[]⟩, .string ⟨#[]⟩, .string ⟨#[]⟩, .slice none 0 0]) ?_ 0 _ rfl; (with_reducible repeat (first | refine blk_drewN ?_ _ | refine blk_drew ?_ | refine blk_alloc ?_ _)); exact BK236.out) Tryd.underlying31 rfl (by kernel_rfl)) rfl ?_; exact ⟨_, ap4, ru (Kd.R_mono (rf gb236 8 (rf gb236 7 (rf gb236 6 (rf gb236 5 (rf gb236 4 (rf gb236 3 (rf gb236 2 (rf gb236 1 (rf gb236 0 (Kd.R_types HO_253008.out BK236.out (by decide)) (.int .i64 (wrap64 (t237)))) (.int .i64 (wrap64 (t246)))) (.int .i64 (wrap64 (t249)))) (.int .i64 (wrap64 (t240)))) (.int .i64 (wrap64 (t243)))) (.string t253)) (.string t256)) (.string t259)) (.slice Ao46 X17_1.length co46)) (fun _ hk => trivial)), IsS80.u HI0.out, beg (IsS80.ge HI0.out) HB.out, ku HK.out⟩
     ·replace c41 := Bool.eq_false_iff.mpr c41
      subst c41
      have H1 : (some (0, 0, 0, 0, 0, ⟨#[]⟩, ⟨#[]⟩, ⟨#[]⟩, ([] : List ByteArray), false, t272, t273)) = some (r1, r2, r3, r4, r5, r6, r7, r8, r9, r10, r11, r12) := by rw [if_neg (show ¬ (false = true) by decide)] at H; exact H
      clear H; have H := H1; clear H1; simp only [Option.some.injEq, Prod.mk.injEq] at H; obtain ⟨rfl, rfl, rfl, rfl, rfl, rfl, rfl, rfl, rfl, rfl, rfl, rfl⟩ := H
      go_wp2_with (first | ((with_reducible refine gate_callee (f := 48) rfl ?_); refine goesL_ (some 42) rfl rfl Tryd.func48 (by kernel_rfl) rfl #[.pointer (some ⟨g, 0, none⟩)] rfl ap1 ?_; (with_reducible refine (packet_Reader_Bad.calls g x1000_1 x1001_1 false t272 t273 w0 _ ?side1 ?side2 A34.out).mono ?_); (case side1 => exact IsS80.u HI0.out); (case side2 => exact beg (IsS80.ge HI0.out) HB.out); rintro e w51 ⟨rfl, hi, hb, hk⟩; refine ⟨_, rfl, ?_⟩; have _ := am (Kd.R_mono (Kd.R_keep (IsS80.apart (show IsS80 w0 _ g x1000_1 x1001_1 from IsS80.u HI0.out) (ru HO_253008.out) (by decide)) hk (fun _ h => h.2)) (fun _ h => h.1)); have _ := am (KeepBut.blk hk (bu BK236.out) NB236_0.out (by simp)); have _ := am (KeepBut.blk hk (bu BK252.out) NB252_0.out (by simp)); have _ := am (KeepBut.trans (ku HK.out) hk (.inl rfl)); have _ := am (hb); have _ := am (hi); clear HO_253008 BK236 BK252 HK HB HI0; rename_i HO_253008 BK236 BK252 HK HB HI0; (try clear hb hk hi); have := NB252_236.out; have := NB236_252.out; have := NB252_0.out; have := NB0_252.out; obtain ⟨_, _, _, _, _, _, _, _, _⟩ := cells9 BK252.out; obtain ⟨_, _, _, _, _, _, _, _, _⟩ := frozens9 BK252.out; obtain ⟨Ao55, co55, eo55⟩ := Kd.R_slice HO_253008.out; subst eo55) | (go_at_call 14; (with_reducible refine (batch_Right.calls k1 (wrap64 (t237)) (wrap64 (t246)) (wrap64 (t249)) (wrap64 (t240)) (wrap64 (t243)) t253 t256 t259 _ _ X17_1 false _ ?side1 ?side2 ?side3 A40.out).mono ?_); (case side1 => exact cu (Kd.R_reads' HO_253008.out).2.2); (case side2 => exact (Kd.R_reads' HO_253008.out).2.1); (case side3 => first | exact HT.out | exact Tabs.below HT.out (beg (IsS80.ge HI0.out) HB.out)); rintro e w56 ⟨rfl, hb⟩; have _ := am (Kd.R_below (ru HO_253008.out) hb); have _ := am (blk_below (bu BK236.out) hb); have _ := am (blk_below (bu BK252.out) hb); have _ := am (IsS80.below (IsS80.u HI0.out) hb); have _ := am (KeepBut.trans (ku HK.out) (KeepBut.of_below hb g none) (.inl rfl)); have _ := am (below_step (beg (IsS80.ge HI0.out) HB.out) hb); clear HO_253008 BK236 BK252 HI0 HK HB; rename_i HO_253008 BK236 BK252 HI0 HK HB; (try clear hb); have := NB236_0.out; have := NB0_236.out; obtain ⟨_, _, _, _, _, _, _, _, _⟩ := cells9 BK236.out; obtain ⟨_, _, _, _, _, _, _, _, _⟩ := frozens9 BK236.out))
      refine bodyPost_ret (results_ct rfl _ _ gb236 31 #[.int .i64 0, .int .i64 0, .int .i64 0, .int .i64 0, .int .i64 0, .string ⟨#[]⟩, .string ⟨#[]⟩, .string ⟨#[]⟩, .slice none 0 0] (0, 0) _ rfl (by (with_reducible repeat (first | refine blk_drewN ?_ _ | refine blk_drew ?_ | refine blk_alloc ?_ _)); refine blk_put (cs := #[.int .i64 0, .int .i64 0, .int .i64 0, .int .i64 0, .int .i64 0, .string ⟨#[]⟩, .string ⟨#[]⟩, .string ⟨#[]⟩, .slice none 0 0]) ?_ 8 _ rfl; (with_reducible repeat (first | refine blk_drewN ?_ _ | refine blk_drew ?_ | refine blk_alloc ?_ _)); refine blk_put (cs := #[.int .i64 0, .int .i64 0, .int .i64 0, .int .i64 0, .int .i64 0, .string ⟨#[]⟩, .string ⟨#[]⟩, .string ⟨#[]⟩, .slice none 0 0]) ?_ 7 _ rfl; (with_reducible repeat (first | refine blk_drewN ?_ _ | refine blk_drew ?_ | refine blk_alloc ?_ _)); refine blk_put (cs := #[.int .i64 0, .int .i64 0, .int .i64 0, .int .i64 0, .int .i64 0, .string ⟨#[]⟩, .string ⟨#[]⟩, .string ⟨#[]⟩, .slice none 0 0]) ?_ 6 _ rfl; (with_reducible repeat (first | refine blk_drewN ?_ _ | refine blk_drew ?_ | refine blk_alloc ?_ _)); refine blk_put (cs := #[.int .i64 0, .int .i64 0, .int .i64 0, .int .i64 0, .int .i64 0, .string ⟨#[]⟩, .string ⟨#[]⟩, .string ⟨#[]⟩, .slice none 0 0]) ?_ 5 _ rfl; (with_reducible repeat (first | refine blk_drewN ?_ _ | refine blk_drew ?_ | refine blk_alloc ?_ _)); refine blk_put (cs := #[.int .i64 0, .int .i64 0, .int .i64 0, .int .i64 0, .int .i64 0, .string ⟨#[]⟩, .string ⟨#[]⟩, .string ⟨#[]⟩, .slice none 0 0]) ?_ 4 _ rfl; (with_reducible repeat (first | refine blk_drewN ?_ _ | refine blk_drew ?_ | refine blk_alloc ?_ _)); refine blk_put (cs := #[.int .i64 0, .int .i64 0, .int .i64 0, .int .i64 0, .int .i64 0, .string ⟨#[]⟩, .string ⟨#[]⟩, .string ⟨#[]⟩, .slice none 0 0]) ?_ 3 _ rfl; (with_reducible repeat (first | refine blk_drewN ?_ _ | refine blk_drew ?_ | refine blk_alloc ?_ _)); refine blk_put (cs := #[.int .i64 0, .int .i64 0, .int .i64 0, .int .i64 0, .int .i64 0, .string ⟨#[]⟩, .string ⟨#[]⟩, .string ⟨#[]⟩, .slice none 0 0]) ?_ 2 _ rfl; (with_reducible repeat (first | refine blk_drewN ?_ _ | refine blk_drew ?_ | refine blk_alloc ?_ _)); refine blk_put (cs := #[.int .i64 0, .int .i64 0, .int .i64 0, .int .i64 0, .int .i64 0, .string ⟨#[]⟩, .string ⟨#[]⟩, .string ⟨#[]⟩, .slice none 0 0]) ?_ 1 _ rfl; (with_reducible repeat (first | refine blk_drewN ?_ _ | refine blk_drew ?_ | refine blk_alloc ?_ _)); refine blk_put (cs := #[.int .i64 0, .int .i64 0, .int .i64 0, .int .i64 0, .int .i64 0, .string ⟨#[]⟩, .string ⟨#[]⟩, .string ⟨#[]⟩, .slice none 0 0]) ?_ 0 _ rfl; (with_reducible repeat (first | refine blk_drewN ?_ _ | refine blk_drew ?_ | refine blk_alloc ?_ _)); exact BK236.out) Tryd.underlying31 rfl (by kernel_rfl)) rfl ?_; exact ⟨_, ap4, by first | exact Kd.R_nil _ _ _ _ _ | exact Kd.N_nil _ _ _ _ _ | exact Kd.V_nil _ _ _ _ _ | exact Kd.Q_nil _ _ _ _ _ | exact Kd.S_nil _ _ _ _ _, IsS80.u HI0.out, beg (IsS80.ge HI0.out) HB.out, ku HK.out⟩
theorem batch_Take.callsJ (k : Nat) (g : Nat) (s0_0 : List Int) (s0_1 : Bool) (r1 : Int) (r2 : Int) (r3 : Int) (r4 : Int) (r5 : Int) (r6 : ByteArray) (r7 : ByteArray) (r8 : ByteArray) (r9 : List ByteArray) (r10 : Bool) (r11 : List Int) (r12 : Bool) (w0 w : World) (hI : JS80 w0 w g s0_0 s0_1) (hB : Below w0.heap.size w0 w) (hT : Tabs w0) (h : batch_Take.f k s0_0 s0_1 = some (r1, r2, r3, r4, r5, r6, r7, r8, r9, r10, r11, r12)) :
  Calls Tryd.prog 25 #[.pointer (some ⟨g, 0, none⟩)] w fun e w' => ∃ v8_ : Value, e = .returned (.tuple #[.agg #[.int .i64 r1, .int .i64 r2, .int .i64 r3, .int .i64 r4, .int .i64 r5, .string r6, .string r7, .string r8, v8_], .bool r10]) ∧ Kd.R Kd.string 9 w' w.heap.size (fun _ => True) v8_ r9 ∧ JS80 w0 w' g r11 r12 ∧ Below w0.heap.size w0 w' ∧ KeepBut w w' g none := by
 obtain ⟨wS, hIs, hBs, hle⟩ := hI
 exact (batch_Take.calls k g s0_0 s0_1 r1 r2 r3 r4 r5 r6 r7 r8 r9 r10 r11 r12 wS w hIs hBs (Tabs.below hT hle) h).mono fun e w' hp_ => by
  obtain ⟨z0_, p0_, p1_, hi_, hb_, hk_⟩ := hp_; exact ⟨z0_, p0_, p1_, ⟨wS, hi_, hb_, hle⟩, below_keepJ80 hB hBs hb_ hk_ (Nat.le_trans hle.size (IsS80.ge hIs)), hk_⟩
def slices_Clone_byte_byte.f (a0 : List Int) : Option (List Int) := if a0.length < 140737488355328 then some a0 else none
set_option maxHeartbeats 4000000 in
set_option maxRecDepth 100000 in
theorem slices_Clone_byte_byte.calls (A0 : Option Addr) (c0 : Nat) (l0 : List Int) (r : List Int) (w : World) (hr0 : Kd.C (Kd.int .u8) w A0 l0.length l0) (hc0 : l0.length ≤ c0) (h : slices_Clone_byte_byte.f l0 = some r) :
  Calls Tryd.prog 49 #[.slice A0 l0.length c0] w fun e w' => ∃ v0_ : Value, e = .returned (v0_) ∧ Kd.R (Kd.int .u8) 5 w' w.heap.size (fun _ => True) v0_ r ∧ Below w.heap.size w w' := by
 have hl : l0.length < 140737488355328 := by
  by_cases c : l0.length < 140737488355328
  ·exact c
  ·rw [slices_Clone_byte_byte.f, if_neg c] at h; cases h
 obtain rfl : l0 = r := by rw [slices_Clone_byte_byte.f, if_pos hl] at h; exact Option.some.inj h
 clear h; have HC := am hr0
 cases A0 with
 | none =>
  have h0 : l0 = [] := by
   cases l0 with
   | nil => rfl
   | cons x t =>
    obtain ⟨ad, c, hA, _⟩ := Kd.C_get hr0 x 0 (by omega) (by simp)
    cases hA
  subst h0; clear hr0
  have heq := fun W => Lib.run_eql_slice_nil (P := Tryd.prog) W 52 5 none 0 c0 0 0 Tryd.underlying52
  go_enter Tryd.func49, Tryd.ntmps49
  go_wp2_with fail
  go_ret
  exact ⟨.slice none 0 0, rfl, Kd.R_nil _ _ _ _ _, Below.refl _ _⟩
 | some ad =>
  clear hr0; have LM := am hl; clear hl
  have heq := fun W => Lib.run_eql_slice_nil (P := Tryd.prog) W 52 5 (some ad) l0.length c0 0 0 Tryd.underlying52
  go_enter Tryd.func49, Tryd.ntmps49
  go_wp2_with (first | ((with_reducible refine gate_dst (N := 5) rfl ?_); refine Kd.R_lit (Kd.int .u8) w.heap.size 5 ?hg (N := 5) ?hd (xs := ([] : List Int)) (inner := []) (ok := fun _ => True) (okp := fun _ => True) ?hr ?hp (fun _ hk => hk) trivial (Below.refl _ _) (Nat.le_refl _) (by simp) ?_; (case hd => rfl); (case hg => rfl); (case hr => first | (go_simp; done) | (go_simp; rfl)); (case hp => exact (Reps.none _ _)); intro v1 w1 ho1 hb1 hg1 hn1; have HO := am ho1; have HB := am hb1; have HC1 := am (Kd.C_below HC.out hb1); clear ho1 hb1 hg1 hn1) | ((with_reducible refine gate_builtin (b := .append) (xs := #[.tmp 5, .tmp 6]) rfl ?_); at_builtin; refine Kd.R_append_rows (Kd.int .u8) (w0 := w) w.heap.size rfl (.tmp 5) (.tmp 6) 52 5 (.int .u8 0) 1 rfl Tryd.underlying52 info5 rfl (by decide) (by omega) v1 [] l0 _ _ _ (fun _ => True) (fun _ => False) rfl rfl ?aO ?aR (fun _ _ h => h) (fun _ h => h.elim) ?aF ?aB ?aS ?aL ?_; (case aR => exact HC1.out); (case aB => exact HB.out); (case aF => exact (fun _ _ => trivial)); (case aO => exact HO.out); (case aS => exact HB.out.size); (case aL => have := LM.out; simp; omega); intro v2 w2 ho hb hg hat; have HO2 := am ho; have HB2 := am hb; clear ho hb hg hat))
  go_ret
  exact ⟨_, rfl, HO2.out, HB2.out⟩
def packet_New.f (l0 : List Int) : Option (List Int × Bool) := if l0.length < 140737488355328 then some (l0, false) else none
theorem packet_New.calls (A0 : Option Addr) (c0 : Nat) (l0 : List Int) (r1 : List Int) (r2 : Bool) (w0 w : World) (hB : Below w0.heap.size w0 w) (hr0 : Kd.C (Kd.int .u8) w A0 l0.length l0) (hc0 : l0.length ≤ c0) (h : packet_New.f l0 = some (r1, r2)) :
  Calls Tryd.prog 26 #[.slice A0 l0.length c0] w fun e w' => ∃ g_ : Nat, e = .returned (.pointer (some ⟨g_, 0, none⟩)) ∧ JS80 w0 w' g_ r1 r2 ∧ Below w0.heap.size w0 w' ∧ Below w.heap.size w w' := by
 have hl : l0.length < 140737488355328 := by
  by_cases c : l0.length < 140737488355328
  ·exact c
  ·rw [packet_New.f, if_neg c] at h; cases h
 rw [packet_New.f, if_pos hl] at h; have h := Option.some.inj h; simp only [Prod.mk.injEq] at h; obtain ⟨rfl, rfl⟩ := h; have HB0 := am hB; have HR := am hr0; have HC := am hc0; have HN := am (show slices_Clone_byte_byte.f l0 = some l0 from if_pos hl); clear hr0 hc0 hl hB
 go_enter Tryd.func26, Tryd.ntmps26
 go_wp2_with (go_at_call 49; refine (slices_Clone_byte_byte.calls _ _ l0 l0 _ HR.out HC.out HN.out).mono ?_; rintro e w1 ⟨v1, rfl, ho, hb⟩; obtain ⟨A1, c1, eo⟩ := Kd.R_slice ho; subst eo; have HO := am ho; have HB := am hb; clear ho hb)
 go_ret
 exact ⟨_, rfl, ⟨w1, IsS80.new w1 w1 A1 c1 l0 false (Below.refl _ _) ⟨(Kd.R_reads' HO.out).2.2, (Kd.R_reads' HO.out).2.1⟩, below_alloc (Below.refl _ _) _, below_then HB0.out HB0.out.size HB.out⟩, below_then HB0.out HB0.out.size (below_alloc HB.out _), below_alloc HB.out _⟩
end Go.Proofs.YtapfpdjcbeiibaaDoor.PByt
