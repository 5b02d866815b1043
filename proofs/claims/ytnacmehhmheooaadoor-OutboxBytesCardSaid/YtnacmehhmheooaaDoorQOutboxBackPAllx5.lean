
import Derived.Test.YtnacmehhmheooaaDoorQOutboxBackPAllx0
import Derived.Test.YtnacmehhmheooaaDoorQOutboxBackPAllx4
namespace Go.Proofs.YtnacmehhmheooaaDoor.PAll
open Go.RowKit Go.Proofs.YtnacmehhmheooaaDoorW.PrintWords Go.Proofs.YtnacmehhmheooaaDoorW.PrintLast Go.Proofs.YtnacmehhmheooaaDoorW.PrintMore
attribute [local go_sem] max2_int min2_int max_two min_two
set_option linter.unusedVariables false
set_option linter.unusedSimpArgs false
def slices_Clone_byte_byte.f (a0 : List Int) : Option (List Int) := if a0.length < 140737488355328 then some a0 else none
set_option maxHeartbeats 4000000 in
set_option maxRecDepth 100000 in
theorem slices_Clone_byte_byte.calls (A0 : Option Addr) (c0 : Nat) (l0 : List Int) (r : List Int) (w : World) (hr0 : Kd.C (Kd.int .u8) w A0 l0.length l0) (hc0 : l0.length ≤ c0) (h : slices_Clone_byte_byte.f l0 = some r) :
  Calls Tryd.prog 40 #[.slice A0 l0.length c0] w fun e w' => ∃ v0_ : Value, e = .returned (v0_) ∧ Kd.R (Kd.int .u8) 5 w' w.heap.size (fun _ => True) v0_ r ∧ Below w.heap.size w w' := by
 have hl : l0.length < 140737488355328 := by
  by_cases c : l0.length < 140737488355328
  ·exact c
  ·rw [slices_Clone_byte_byte.f, if_neg c] at h; cases h
 obtain rfl : l0 = r := by rw [slices_Clone_byte_byte.f, if_pos hl] at h; exact Option.some.inj h
 clear h; have HC := am hr0
 cases A0 with
 | none =>
  have h0 : l0 = [] := by
   cases l0 with
   | nil => rfl
   | cons x t =>
    obtain ⟨ad, c, hA, _⟩ := Kd.C_get hr0 x 0 (by omega) (by simp)
    cases hA
  subst h0; clear hr0
  have heq := fun W => Lib.run_eql_slice_nil (P := Tryd.prog) W 49 5 none 0 c0 0 0 Tryd.underlying49
  go_enter Tryd.func40, Tryd.ntmps40
  go_wp2_with fail
  go_ret
  exact ⟨.slice none 0 0, rfl, Kd.R_nil _ _ _ _ _, Below.refl _ _⟩
 | some ad =>
  clear hr0; have LM := am hl; clear hl
  have heq := fun W => Lib.run_eql_slice_nil (P := Tryd.prog) W 49 5 (some ad) l0.length c0 0 0 Tryd.underlying49
  go_enter Tryd.func40, Tryd.ntmps40
  go_wp2_with (first | ((with_reducible refine gate_dst (N := 5) rfl ?_); refine Kd.R_lit (Kd.int .u8) w.heap.size 5 ?hg (N := 5) ?hd (xs := ([] : List Int)) (inner := []) (ok := fun _ => True) (okp := fun _ => True) ?hr ?hp (fun _ hk => hk) trivial (Below.refl _ _) (Nat.le_refl _) (by simp) ?_; (case hd => rfl); (case hg => rfl); (case hr => first | (go_simp; done) | (go_simp; rfl)); (case hp => exact (Reps.none _ _)); intro v1 w1 ho1 hb1 hg1 hn1; have HO := am ho1; have HB := am hb1; have HC1 := am (Kd.C_below HC.out hb1); clear ho1 hb1 hg1 hn1) | ((with_reducible refine gate_builtin (b := .append) (xs := #[.tmp 5, .tmp 6]) rfl ?_); at_builtin; refine Kd.R_append_rows (Kd.int .u8) (w0 := w) w.heap.size rfl (.tmp 5) (.tmp 6) 49 5 (.int .u8 0) 1 rfl Tryd.underlying49 info5 rfl (by decide) (by omega) v1 [] l0 _ _ _ (fun _ => True) (fun _ => False) rfl rfl ?aO ?aR (fun _ _ h => h) (fun _ h => h.elim) ?aF ?aB ?aS ?aL ?_; (case aR => exact HC1.out); (case aB => exact HB.out); (case aF => exact (fun _ _ => trivial)); (case aO => exact HO.out); (case aS => exact HB.out.size); (case aL => have := LM.out; simp; omega); intro v2 w2 ho hb hg hat; have HO2 := am ho; have HB2 := am hb; clear ho hb hg hat))
  go_ret
  exact ⟨_, rfl, HO2.out, HB2.out⟩
def packet_New.f (l0 : List Int) : Option (List Int × Bool) := if l0.length < 140737488355328 then some (l0, false) else none
theorem packet_New.calls (A0 : Option Addr) (c0 : Nat) (l0 : List Int) (r1 : List Int) (r2 : Bool) (w0 w : World) (hB : Below w0.heap.size w0 w) (hr0 : Kd.C (Kd.int .u8) w A0 l0.length l0) (hc0 : l0.length ≤ c0) (h : packet_New.f l0 = some (r1, r2)) :
  Calls Tryd.prog 25 #[.slice A0 l0.length c0] w fun e w' => ∃ g_ : Nat, e = .returned (.pointer (some ⟨g_, 0, none⟩)) ∧ JS74 w0 w' g_ r1 r2 ∧ Below w0.heap.size w0 w' ∧ Below w.heap.size w w' := by
 have hl : l0.length < 140737488355328 := by
  by_cases c : l0.length < 140737488355328
  ·exact c
  ·rw [packet_New.f, if_neg c] at h; cases h
 rw [packet_New.f, if_pos hl] at h; have h := Option.some.inj h; simp only [Prod.mk.injEq] at h; obtain ⟨rfl, rfl⟩ := h; have HB0 := am hB; have HR := am hr0; have HC := am hc0; have HN := am (show slices_Clone_byte_byte.f l0 = some l0 from if_pos hl); clear hr0 hc0 hl hB
 go_enter Tryd.func25, Tryd.ntmps25
 go_wp2_with (go_at_call 40; refine (slices_Clone_byte_byte.calls _ _ l0 l0 _ HR.out HC.out HN.out).mono ?_; rintro e w1 ⟨v1, rfl, ho, hb⟩; obtain ⟨A1, c1, eo⟩ := Kd.R_slice ho; subst eo; have HO := am ho; have HB := am hb; clear ho hb)
 go_ret
 exact ⟨_, rfl, ⟨w1, IsS74.new w1 w1 A1 c1 l0 false (Below.refl _ _) ⟨(Kd.R_reads' HO.out).2.2, (Kd.R_reads' HO.out).2.1⟩, below_alloc (Below.refl _ _) _, below_then HB0.out HB0.out.size HB.out⟩, below_then HB0.out HB0.out.size (below_alloc HB.out _), below_alloc HB.out _⟩
def packhorseref03_Right.f (a0 : Int) : Option (Bool) := if 0 ≤ a0 then (some (decide (a0 ≤ 1099511627776))) else (some false)
set_option maxHeartbeats 8000000 in
set_option maxRecDepth 100000 in
theorem packhorseref03_Right.calls (a0 : Int) (r : Bool) (w : World) (h : packhorseref03_Right.f a0 = some r) :
  Calls Tryd.prog 36 #[.int .i64 a0] w fun e w' => e = .returned (.bool r) ∧ Drawn0 w w' := by
 have H : (if 0 ≤ a0 then (some (decide (a0 ≤ 1099511627776))) else (some false)) = some r := h; clear h
 by_cases c2 : 0 ≤ a0
 ·rw [if_pos c2] at H
  have c2b0 : decide (0 ≤ a0) = true := decide_eq_true c2; clear c2; obtain rfl := Option.some.inj H; simp only [Option.some.injEq, Prod.mk.injEq] at H; obtain ⟨rfl⟩ := H
  go_enter Tryd.func36, Tryd.ntmps36
  go_wp2
  go_ret
  exact ⟨ap3, ap5⟩
 ·rw [if_neg c2] at H
  have c2b0 : decide (0 ≤ a0) = false := decide_eq_false c2; clear c2; obtain rfl := Option.some.inj H; simp only [Option.some.injEq, Prod.mk.injEq] at H; obtain ⟨rfl⟩ := H
  go_enter Tryd.func36, Tryd.ntmps36
  go_wp2
  go_ret
  exact ⟨ap3, ap5⟩
mutual
def packhorseref01_sign.j0 : Nat → ByteArray → Int → Int → Bool → Option (Int × Bool)
 | 0, _, _, _, _ => none
 | k + 1, x0, x1, x6, x16 => if x16 = true then (some (1, true)) else (if x6 ≥ 48 then (if x6 ≤ 57 then (packhorseref01_sign.j1 k x0 x1 x6 true) else (packhorseref01_sign.j1 k x0 x1 x6 (x6 == 45))) else (packhorseref01_sign.j1 k x0 x1 x6 (x6 == 45)))
def packhorseref01_sign.j1 : Nat → ByteArray → Int → Int → Bool → Option (Int × Bool)
 | 0, _, _, _, _ => none
 | k + 1, x0, x1, x6, x26 => if x26 = true then (some (1, false)) else (if (wrap64 (x1 + 1)) ≥ (x0.size : Int) then (some (0, false)) else (if 0 ≤ (wrap64 (x1 + 1)) then (if (wrap64 (x1 + 1)) < (x0.size : Int) then (if x6 = 206 then (if (bt x0 (wrap64 (x1 + 1))) ≥ 177 then (if (bt x0 (wrap64 (x1 + 1))) ≤ 191 then (some (2, true)) else (if x6 = 207 then (if (bt x0 (wrap64 (x1 + 1))) ≥ 128 then (if (bt x0 (wrap64 (x1 + 1))) ≤ 137 then (some (2, true)) else (some (0, false))) else (some (0, false))) else (some (0, false)))) else (if x6 = 207 then (if (bt x0 (wrap64 (x1 + 1))) ≥ 128 then (if (bt x0 (wrap64 (x1 + 1))) ≤ 137 then (some (2, true)) else (some (0, false))) else (some (0, false))) else (some (0, false)))) else (if x6 = 207 then (if (bt x0 (wrap64 (x1 + 1))) ≥ 128 then (if (bt x0 (wrap64 (x1 + 1))) ≤ 137 then (some (2, true)) else (some (0, false))) else (some (0, false))) else (some (0, false)))) else (none)) else (none)))
end
def packhorseref01_sign.f (k : Nat) (a0 : ByteArray) (a1 : Int) : Option (Int × Bool) := if 0 ≤ a1 then (if a1 < (a0.size : Int) then (if (bt a0 a1) ≥ 97 then (packhorseref01_sign.j0 k a0 a1 (bt a0 a1) (decide ((bt a0 a1) ≤ 122))) else (packhorseref01_sign.j0 k a0 a1 (bt a0 a1) false)) else (none)) else (none)
theorem packhorseref01_sign.mono_l : ∀ k, (∀ y0 y1 y2 y3, LeO (packhorseref01_sign.j0 k y0 y1 y2 y3) (packhorseref01_sign.j0 (k + 1) y0 y1 y2 y3)) ∧ (∀ y0 y1 y2 y3, LeO (packhorseref01_sign.j1 k y0 y1 y2 y3) (packhorseref01_sign.j1 (k + 1) y0 y1 y2 y3))
 | 0 => ⟨fun _ _ _ _ r h => by simp [packhorseref01_sign.j0] at h, fun _ _ _ _ r h => by simp [packhorseref01_sign.j1] at h⟩
 | k + 1 => by
  obtain ⟨ih0, ih1⟩ := packhorseref01_sign.mono_l k; refine ⟨?_, ?_⟩
  ·intro y0 y1 y2 y3
   unfold packhorseref01_sign.j0
   repeat' first
   | (with_reducible exact ih0 _ _ _ _)
   | (with_reducible exact ih1 _ _ _ _)
   | (with_reducible exact LeO.refl _)
   | (with_reducible exact LeO.none _)
   | (with_reducible refine LeO.ite ?_ ?_)
   | (with_reducible refine LeO.bind ?_ (fun _ => ?_))
   | exact ih0 _ _ _ _
   | exact ih1 _ _ _ _
   | exact LeO.none _
   | refine LeO.ite ?_ ?_
   | refine LeO.bind ?_ (fun _ => ?_)
  ·intro y0 y1 y2 y3
   unfold packhorseref01_sign.j1
   repeat' first
   | (with_reducible exact ih0 _ _ _ _)
   | (with_reducible exact ih1 _ _ _ _)
   | (with_reducible exact LeO.refl _)
   | (with_reducible exact LeO.none _)
   | (with_reducible refine LeO.ite ?_ ?_)
   | (with_reducible refine LeO.bind ?_ (fun _ => ?_))
   | exact ih0 _ _ _ _
   | exact ih1 _ _ _ _
   | exact LeO.none _
   | refine LeO.ite ?_ ?_
   | refine LeO.bind ?_ (fun _ => ?_)
set_option maxHeartbeats 8000000 in
set_option maxRecDepth 100000 in
theorem packhorseref01_sign.calls (k : Nat) (a0 : ByteArray) (a1 : Int) (r1 : Int) (r2 : Bool) (w : World) (h : packhorseref01_sign.f k a0 a1 = some (r1, r2)) :
  Calls Tryd.prog 64 #[.string a0, .int .i64 a1] w fun e w' => e = .returned (.tuple #[.int .i64 r1, .bool r2]) ∧ Drawn0 w w' := by
 have H : (if 0 ≤ a1 then (if a1 < (a0.size : Int) then (if (bt a0 a1) ≥ 97 then (packhorseref01_sign.j0 k a0 a1 (bt a0 a1) (decide ((bt a0 a1) ≤ 122))) else (packhorseref01_sign.j0 k a0 a1 (bt a0 a1) false)) else (none)) else (none)) = some (r1, r2) := h; clear h
 by_cases c3 : 0 ≤ a1
 ·rw [if_pos c3] at H
  have c3b0 : decide (0 ≤ a1) = true := decide_eq_true c3; clear c3
  by_cases c4 : a1 < (a0.size : Int)
  ·rw [if_pos c4] at H
   have c4b0 : decide (a1 < (a0.size : Int)) = true := decide_eq_true c4; clear c4; have HC6 := am H; clear H; have p5 : 0 ≤ (a1 : Int) := of_decide_eq_true ap2; have q5 : a1 < (a0.size : Int) := of_decide_eq_true ap2; have hx5 := bt_at a0 a1; replace p5 := eq_true p5; replace q5 := eq_true q5
   go_enter Tryd.func64, Tryd.ntmps64
   go_upto_region 2 with (fail)
   go_cut [16] (fun v16 wc => ∃ (kq : Nat) (x16_5 : Bool), v16 = .bool x16_5 ∧ Aside0 (packhorseref01_sign.j0 kq a0 a1 (bt a0 a1) x16_5 = some (r1, r2)) ∧ Aside0 (kq ≤ k) ∧ Drawn0 w wc)
   case first =>
    have H := HC6.out; clear HC6
    by_cases c7 : (bt a0 a1) ≥ 97
    ·rw [if_pos c7] at H
     have c7b0 : decide (97 ≤ (bt a0 a1)) = true := decide_eq_true c7; clear c7
     (first | rw [c7b0] | (simp only [i64_w, i32_w]; rw [c7b0]) | skip)
     have H' := am H; clear H
     go_wp2
     go_meet
     case rel => exact ⟨_, (decide ((bt a0 a1) ≤ 122)), ap3, H', ⟨by first | omega | exact Nat.le_refl _⟩, ap5⟩
    ·rw [if_neg c7] at H
     have c7b0 : decide (97 ≤ (bt a0 a1)) = false := decide_eq_false c7; clear c7
     (first | rw [c7b0] | (simp only [i64_w, i32_w]; rw [c7b0]) | skip)
     have H' := am H; clear H
     go_wp2
     go_meet
     case rel => exact ⟨_, (false), ap3, H', ⟨by first | omega | exact Nat.le_refl _⟩, ap5⟩
   case rest =>
    clear HC6; (try clear p2); (try clear c3); (try clear c3b0); (try clear c4); (try clear c4b0); (try clear p5); (try clear q5); (try clear hx5); (try clear c6); (try clear c7); (try clear c7b0); (try clear p5); (try clear q5); obtain ⟨kq, x16_5, rfl, HA, HJ5, ⟨mc5, rfl⟩⟩ := hcut
    cases kq with
    | zero => exact absurd HA.out (by simp [packhorseref01_sign.j0])
    | succ kj5 =>
     have H := HA.out; clear HA; simp only [packhorseref01_sign.j0] at H
     by_cases c8 : x16_5 = true
     ·subst c8
      have H1 : (some (1, true)) = some (r1, r2) := by rw [if_pos rfl] at H; exact H
      clear H; have H := H1; clear H1; simp only [Option.some.injEq, Prod.mk.injEq] at H; obtain ⟨rfl, rfl⟩ := H
      go_wp2
      go_ret2
      exact ⟨ap3, ap5⟩
     ·replace c8 := Bool.eq_false_iff.mpr c8
      subst c8
      have H1 : (if (bt a0 a1) ≥ 48 then (if (bt a0 a1) ≤ 57 then (packhorseref01_sign.j1 kj5 a0 a1 (bt a0 a1) true) else (packhorseref01_sign.j1 kj5 a0 a1 (bt a0 a1) ((bt a0 a1) == 45))) else (packhorseref01_sign.j1 kj5 a0 a1 (bt a0 a1) ((bt a0 a1) == 45))) = some (r1, r2) := by rw [if_neg (show ¬ (false = true) by decide)] at H; exact H
      clear H; have H := H1; clear H1; have HC9 := am H; clear H
      go_upto_region 4 with (fail)
      go_cut [26] (fun v26 wc => ∃ (kq : Nat) (x26_8 : Bool), v26 = .bool x26_8 ∧ Aside0 (packhorseref01_sign.j1 kq a0 a1 (bt a0 a1) x26_8 = some (r1, r2)) ∧ Aside0 (kq ≤ kj5) ∧ Drawn0 w wc)
      case first =>
       have H := HC9.out; clear HC9
       by_cases c10 : (bt a0 a1) ≥ 48
       ·rw [if_pos c10] at H
        have c10b0 : decide (48 ≤ (bt a0 a1)) = true := decide_eq_true c10; clear c10
        (first | rw [c10b0] | (simp only [i64_w, i32_w]; rw [c10b0]) | skip)
        by_cases c11 : (bt a0 a1) ≤ 57
        ·rw [if_pos c11] at H
         have c11b0 : decide ((bt a0 a1) ≤ 57) = true := decide_eq_true c11; clear c11; have H' := am H; clear H
         go_wp2
         go_meet
         case rel => exact ⟨_, (true), ap3, H', ⟨by have := HJ5.out; first | omega | exact Nat.le_refl _⟩, ap5⟩
        ·rw [if_neg c11] at H
         have c11b0 : decide ((bt a0 a1) ≤ 57) = false := decide_eq_false c11; clear c11; have H' := am H; clear H
         go_wp2
         go_meet
         case rel => exact ⟨_, (((bt a0 a1) == 45)), ap3, H', ⟨by have := HJ5.out; first | omega | exact Nat.le_refl _⟩, ap5⟩
       ·rw [if_neg c10] at H
        have c10b0 : decide (48 ≤ (bt a0 a1)) = false := decide_eq_false c10; clear c10
        (first | rw [c10b0] | (simp only [i64_w, i32_w]; rw [c10b0]) | skip)
        have H' := am H; clear H
        go_wp2
        go_meet
        case rel => exact ⟨_, (((bt a0 a1) == 45)), ap3, H', ⟨by have := HJ5.out; first | omega | exact Nat.le_refl _⟩, ap5⟩
      case rest =>
       clear HC9; (try clear c1); (try clear p2); (try clear c3); (try clear c3b0); (try clear c4); (try clear c4b0); (try clear c5); (try clear p5); (try clear q5); (try clear hx5); (try clear c6); (try clear c7); (try clear c7b0); (try clear c8); (try clear c10); (try clear c10b0); (try clear c11); (try clear c11b0); (try clear p2); (try clear p5); (try clear q5); obtain ⟨kq, x26_8, rfl, HA, HJ8, ⟨mc8, rfl⟩⟩ := hcut
       cases kq with
       | zero => exact absurd HA.out (by simp [packhorseref01_sign.j1])
       | succ kj8 =>
        have H := HA.out; clear HA; simp only [packhorseref01_sign.j1] at H
        by_cases c12 : x26_8 = true
        ·subst c12
         have H1 : (some (1, false)) = some (r1, r2) := by rw [if_pos rfl] at H; exact H
         clear H; have H := H1; clear H1; simp only [Option.some.injEq, Prod.mk.injEq] at H; obtain ⟨rfl, rfl⟩ := H
         go_wp2
         go_ret2
         exact ⟨ap3, ap5⟩
        ·replace c12 := Bool.eq_false_iff.mpr c12
         subst c12
         have H1 : (if (wrap64 (a1 + 1)) ≥ (a0.size : Int) then (some (0, false)) else (if 0 ≤ (wrap64 (a1 + 1)) then (if (wrap64 (a1 + 1)) < (a0.size : Int) then (if (bt a0 a1) = 206 then (if (bt a0 (wrap64 (a1 + 1))) ≥ 177 then (if (bt a0 (wrap64 (a1 + 1))) ≤ 191 then (some (2, true)) else (if (bt a0 a1) = 207 then (if (bt a0 (wrap64 (a1 + 1))) ≥ 128 then (if (bt a0 (wrap64 (a1 + 1))) ≤ 137 then (some (2, true)) else (some (0, false))) else (some (0, false))) else (some (0, false)))) else (if (bt a0 a1) = 207 then (if (bt a0 (wrap64 (a1 + 1))) ≥ 128 then (if (bt a0 (wrap64 (a1 + 1))) ≤ 137 then (some (2, true)) else (some (0, false))) else (some (0, false))) else (some (0, false)))) else (if (bt a0 a1) = 207 then (if (bt a0 (wrap64 (a1 + 1))) ≥ 128 then (if (bt a0 (wrap64 (a1 + 1))) ≤ 137 then (some (2, true)) else (some (0, false))) else (some (0, false))) else (some (0, false)))) else (none)) else (none))) = some (r1, r2) := by rw [if_neg (show ¬ (false = true) by decide)] at H; exact H
         clear H; have H := H1; clear H1
         by_cases c13 : (wrap64 (a1 + 1)) ≥ (a0.size : Int)
         ·rw [if_pos c13] at H
          have c13b0 : decide ((a0.size : Int) ≤ (wrap64 (a1 + 1))) = true := decide_eq_true c13; clear c13; simp only [Option.some.injEq, Prod.mk.injEq] at H; obtain ⟨rfl, rfl⟩ := H
          go_wp2
          go_ret2
          exact ⟨ap3, ap5⟩
         ·rw [if_neg c13] at H
          have c13b0 : decide ((a0.size : Int) ≤ (wrap64 (a1 + 1))) = false := decide_eq_false c13; clear c13; obtain ⟨ji14, hji14⟩ : ∃ j_ : Int, (wrap64 (a1 + 1)) = j_ := ⟨_, rfl⟩
          replace H : (if 0 ≤ (ji14) then (if (ji14) < (a0.size : Int) then (if (bt a0 a1) = 206 then (if (bt a0 (ji14)) ≥ 177 then (if (bt a0 (ji14)) ≤ 191 then (some (2, true)) else (if (bt a0 a1) = 207 then (if (bt a0 (ji14)) ≥ 128 then (if (bt a0 (ji14)) ≤ 137 then (some (2, true)) else (some (0, false))) else (some (0, false))) else (some (0, false)))) else (if (bt a0 a1) = 207 then (if (bt a0 (ji14)) ≥ 128 then (if (bt a0 (ji14)) ≤ 137 then (some (2, true)) else (some (0, false))) else (some (0, false))) else (some (0, false)))) else (if (bt a0 a1) = 207 then (if (bt a0 (ji14)) ≥ 128 then (if (bt a0 (ji14)) ≤ 137 then (some (2, true)) else (some (0, false))) else (some (0, false))) else (some (0, false)))) else (none)) else (none)) = some (r1, r2) := by first | (rw [hji14] at H; exact H) | (simp only [hji14] at H ⊢; exact H)
          (try rw [hji14] at c13b0)
          have hji14w : (IntKind.i64.wrap (a1 + 1)) = ji14 := (i64_w _).trans hji14
          by_cases c15 : 0 ≤ (ji14)
          ·rw [if_pos c15] at H
           have c15b0 : decide (0 ≤ (ji14)) = true := decide_eq_true c15; clear c15
           by_cases c16 : (ji14) < (a0.size : Int)
           ·rw [if_pos c16] at H
            have c16b0 : decide ((ji14) < (a0.size : Int)) = true := decide_eq_true c16; clear c16
            by_cases c18 : (bt a0 a1) = 206
            ·rw [if_pos c18] at H
             have c18b0 : ((bt a0 a1) == 206) = true := beq_iff_eq.mpr c18; have c18b1 : ((bt a0 a1) != 206) = false := bne_eq_false_iff_eq.mpr c18; clear c18
             by_cases c19 : (bt a0 (ji14)) ≥ 177
             ·rw [if_pos c19] at H
              have c19b0 : decide (177 ≤ (bt a0 (ji14))) = true := decide_eq_true c19; clear c19
              by_cases c20 : (bt a0 (ji14)) ≤ 191
              ·rw [if_pos c20] at H
               have c20b0 : decide ((bt a0 (ji14)) ≤ 191) = true := decide_eq_true c20; clear c20; simp only [Option.some.injEq, Prod.mk.injEq] at H; obtain ⟨rfl, rfl⟩ := H; have p17 : 0 ≤ ((ji14) : Int) := of_decide_eq_true ap2; have q17 : (ji14) < (a0.size : Int) := of_decide_eq_true ap2; have hx17 := bt_at a0 (ji14); replace p17 := eq_true p17; replace q17 := eq_true q17
               go_wp2
               go_ret2
               exact ⟨by first | rfl | (simp; done) | (simp only [← hji14] <;> (first | rfl | simp)) | (simp [*]; done), ap5⟩
              ·rw [if_neg c20] at H
               have c20b0 : decide ((bt a0 (ji14)) ≤ 191) = false := decide_eq_false c20; clear c20
               by_cases c21 : (bt a0 a1) = 207
               ·rw [if_pos c21] at H
                have c21b0 : ((bt a0 a1) == 207) = true := beq_iff_eq.mpr c21; have c21b1 : ((bt a0 a1) != 207) = false := bne_eq_false_iff_eq.mpr c21; clear c21
                by_cases c22 : (bt a0 (ji14)) ≥ 128
                ·rw [if_pos c22] at H
                 have c22b0 : decide (128 ≤ (bt a0 (ji14))) = true := decide_eq_true c22; clear c22
                 by_cases c23 : (bt a0 (ji14)) ≤ 137
                 ·rw [if_pos c23] at H
                  have c23b0 : decide ((bt a0 (ji14)) ≤ 137) = true := decide_eq_true c23; clear c23; simp only [Option.some.injEq, Prod.mk.injEq] at H; obtain ⟨rfl, rfl⟩ := H; have p17 : 0 ≤ ((ji14) : Int) := of_decide_eq_true ap2; have q17 : (ji14) < (a0.size : Int) := of_decide_eq_true ap2; have hx17 := bt_at a0 (ji14); replace p17 := eq_true p17; replace q17 := eq_true q17
                  go_wp2
                  go_ret2
                  exact ⟨by first | rfl | (simp; done) | (simp only [← hji14] <;> (first | rfl | simp)) | (simp [*]; done), ap5⟩
                 ·rw [if_neg c23] at H
                  have c23b0 : decide ((bt a0 (ji14)) ≤ 137) = false := decide_eq_false c23; clear c23; simp only [Option.some.injEq, Prod.mk.injEq] at H; obtain ⟨rfl, rfl⟩ := H; have p17 : 0 ≤ ((ji14) : Int) := of_decide_eq_true ap2; have q17 : (ji14) < (a0.size : Int) := of_decide_eq_true ap2; have hx17 := bt_at a0 (ji14); replace p17 := eq_true p17; replace q17 := eq_true q17
                  go_wp2
                  go_ret2
                  exact ⟨by first | rfl | (simp; done) | (simp only [← hji14] <;> (first | rfl | simp)) | (simp [*]; done), ap5⟩
                ·rw [if_neg c22] at H
                 have c22b0 : decide (128 ≤ (bt a0 (ji14))) = false := decide_eq_false c22; clear c22; simp only [Option.some.injEq, Prod.mk.injEq] at H; obtain ⟨rfl, rfl⟩ := H; have p17 : 0 ≤ ((ji14) : Int) := of_decide_eq_true ap2; have q17 : (ji14) < (a0.size : Int) := of_decide_eq_true ap2; have hx17 := bt_at a0 (ji14); replace p17 := eq_true p17; replace q17 := eq_true q17
                 go_wp2
                 go_ret2
                 exact ⟨by first | rfl | (simp; done) | (simp only [← hji14] <;> (first | rfl | simp)) | (simp [*]; done), ap5⟩
               ·rw [if_neg c21] at H
                have c21b0 : ((bt a0 a1) == 207) = false := beq_eq_false_iff_ne.mpr c21; have c21b1 : ((bt a0 a1) != 207) = true := bne_iff_ne.mpr c21; simp only [Option.some.injEq, Prod.mk.injEq] at H; obtain ⟨rfl, rfl⟩ := H; have p17 : 0 ≤ ((ji14) : Int) := of_decide_eq_true ap2; have q17 : (ji14) < (a0.size : Int) := of_decide_eq_true ap2; have hx17 := bt_at a0 (ji14); replace p17 := eq_true p17; replace q17 := eq_true q17
                go_wp2
                go_ret2
                exact ⟨by first | rfl | (simp; done) | (simp only [← hji14] <;> (first | rfl | simp)) | (simp [*]; done), ap5⟩
             ·rw [if_neg c19] at H
              have c19b0 : decide (177 ≤ (bt a0 (ji14))) = false := decide_eq_false c19; clear c19
              by_cases c24 : (bt a0 a1) = 207
              ·rw [if_pos c24] at H
               have c24b0 : ((bt a0 a1) == 207) = true := beq_iff_eq.mpr c24; have c24b1 : ((bt a0 a1) != 207) = false := bne_eq_false_iff_eq.mpr c24; clear c24
               by_cases c25 : (bt a0 (ji14)) ≥ 128
               ·rw [if_pos c25] at H
                have c25b0 : decide (128 ≤ (bt a0 (ji14))) = true := decide_eq_true c25; clear c25
                by_cases c26 : (bt a0 (ji14)) ≤ 137
                ·rw [if_pos c26] at H
                 have c26b0 : decide ((bt a0 (ji14)) ≤ 137) = true := decide_eq_true c26; clear c26; simp only [Option.some.injEq, Prod.mk.injEq] at H; obtain ⟨rfl, rfl⟩ := H; have p17 : 0 ≤ ((ji14) : Int) := of_decide_eq_true ap2; have q17 : (ji14) < (a0.size : Int) := of_decide_eq_true ap2; have hx17 := bt_at a0 (ji14); replace p17 := eq_true p17; replace q17 := eq_true q17
                 go_wp2
                 go_ret2
                 exact ⟨by first | rfl | (simp; done) | (simp only [← hji14] <;> (first | rfl | simp)) | (simp [*]; done), ap5⟩
                ·rw [if_neg c26] at H
                 have c26b0 : decide ((bt a0 (ji14)) ≤ 137) = false := decide_eq_false c26; clear c26; simp only [Option.some.injEq, Prod.mk.injEq] at H; obtain ⟨rfl, rfl⟩ := H; have p17 : 0 ≤ ((ji14) : Int) := of_decide_eq_true ap2; have q17 : (ji14) < (a0.size : Int) := of_decide_eq_true ap2; have hx17 := bt_at a0 (ji14); replace p17 := eq_true p17; replace q17 := eq_true q17
                 go_wp2
                 go_ret2
                 exact ⟨by first | rfl | (simp; done) | (simp only [← hji14] <;> (first | rfl | simp)) | (simp [*]; done), ap5⟩
               ·rw [if_neg c25] at H
                have c25b0 : decide (128 ≤ (bt a0 (ji14))) = false := decide_eq_false c25; clear c25; simp only [Option.some.injEq, Prod.mk.injEq] at H; obtain ⟨rfl, rfl⟩ := H; have p17 : 0 ≤ ((ji14) : Int) := of_decide_eq_true ap2; have q17 : (ji14) < (a0.size : Int) := of_decide_eq_true ap2; have hx17 := bt_at a0 (ji14); replace p17 := eq_true p17; replace q17 := eq_true q17
                go_wp2
                go_ret2
                exact ⟨by first | rfl | (simp; done) | (simp only [← hji14] <;> (first | rfl | simp)) | (simp [*]; done), ap5⟩
              ·rw [if_neg c24] at H
               have c24b0 : ((bt a0 a1) == 207) = false := beq_eq_false_iff_ne.mpr c24; have c24b1 : ((bt a0 a1) != 207) = true := bne_iff_ne.mpr c24; simp only [Option.some.injEq, Prod.mk.injEq] at H; obtain ⟨rfl, rfl⟩ := H; have p17 : 0 ≤ ((ji14) : Int) := of_decide_eq_true ap2; have q17 : (ji14) < (a0.size : Int) := of_decide_eq_true ap2; have hx17 := bt_at a0 (ji14); replace p17 := eq_true p17; replace q17 := eq_true q17
               go_wp2
               go_ret2
               exact ⟨by first | rfl | (simp; done) | (simp only [← hji14] <;> (first | rfl | simp)) | (simp [*]; done), ap5⟩
            ·rw [if_neg c18] at H
             have c18b0 : ((bt a0 a1) == 206) = false := beq_eq_false_iff_ne.mpr c18; have c18b1 : ((bt a0 a1) != 206) = true := bne_iff_ne.mpr c18
             by_cases c27 : (bt a0 a1) = 207
             ·rw [if_pos c27] at H
              have c27b0 : ((bt a0 a1) == 207) = true := beq_iff_eq.mpr c27; have c27b1 : ((bt a0 a1) != 207) = false := bne_eq_false_iff_eq.mpr c27; clear c27
              by_cases c28 : (bt a0 (ji14)) ≥ 128
              ·rw [if_pos c28] at H
               have c28b0 : decide (128 ≤ (bt a0 (ji14))) = true := decide_eq_true c28; clear c28
               by_cases c29 : (bt a0 (ji14)) ≤ 137
               ·rw [if_pos c29] at H
                have c29b0 : decide ((bt a0 (ji14)) ≤ 137) = true := decide_eq_true c29; clear c29; simp only [Option.some.injEq, Prod.mk.injEq] at H; obtain ⟨rfl, rfl⟩ := H; have p17 : 0 ≤ ((ji14) : Int) := of_decide_eq_true ap2; have q17 : (ji14) < (a0.size : Int) := of_decide_eq_true ap2; have hx17 := bt_at a0 (ji14); replace p17 := eq_true p17; replace q17 := eq_true q17
                go_wp2
                go_ret2
                exact ⟨by first | rfl | (simp; done) | (simp only [← hji14] <;> (first | rfl | simp)) | (simp [*]; done), ap5⟩
               ·rw [if_neg c29] at H
                have c29b0 : decide ((bt a0 (ji14)) ≤ 137) = false := decide_eq_false c29; clear c29; simp only [Option.some.injEq, Prod.mk.injEq] at H; obtain ⟨rfl, rfl⟩ := H; have p17 : 0 ≤ ((ji14) : Int) := of_decide_eq_true ap2; have q17 : (ji14) < (a0.size : Int) := of_decide_eq_true ap2; have hx17 := bt_at a0 (ji14); replace p17 := eq_true p17; replace q17 := eq_true q17
                go_wp2
                go_ret2
                exact ⟨by first | rfl | (simp; done) | (simp only [← hji14] <;> (first | rfl | simp)) | (simp [*]; done), ap5⟩
              ·rw [if_neg c28] at H
               have c28b0 : decide (128 ≤ (bt a0 (ji14))) = false := decide_eq_false c28; clear c28; simp only [Option.some.injEq, Prod.mk.injEq] at H; obtain ⟨rfl, rfl⟩ := H; have p17 : 0 ≤ ((ji14) : Int) := of_decide_eq_true ap2; have q17 : (ji14) < (a0.size : Int) := of_decide_eq_true ap2; have hx17 := bt_at a0 (ji14); replace p17 := eq_true p17; replace q17 := eq_true q17
               go_wp2
               go_ret2
               exact ⟨by first | rfl | (simp; done) | (simp only [← hji14] <;> (first | rfl | simp)) | (simp [*]; done), ap5⟩
             ·rw [if_neg c27] at H
              have c27b0 : ((bt a0 a1) == 207) = false := beq_eq_false_iff_ne.mpr c27; have c27b1 : ((bt a0 a1) != 207) = true := bne_iff_ne.mpr c27; simp only [Option.some.injEq, Prod.mk.injEq] at H; obtain ⟨rfl, rfl⟩ := H; have p17 : 0 ≤ ((ji14) : Int) := of_decide_eq_true ap2; have q17 : (ji14) < (a0.size : Int) := of_decide_eq_true ap2; have hx17 := bt_at a0 (ji14); replace p17 := eq_true p17; replace q17 := eq_true q17
              go_wp2
              go_ret2
              exact ⟨by first | rfl | (simp; done) | (simp only [← hji14] <;> (first | rfl | simp)) | (simp [*]; done), ap5⟩
           ·rw [if_neg c16] at H
            exact absurd H (by simp)
          ·rw [if_neg c15] at H
           exact absurd H (by simp)
  ·rw [if_neg c4] at H
   exact absurd H (by simp)
 ·rw [if_neg c3] at H
  exact absurd H (by simp)
def packhorseref01_Signs.l0 : Nat → ByteArray → List ByteArray → Int → Option (List ByteArray)
 | 0, _, _, _ => none
 | k + 1, x0, x3, x4 => if x4 < (x0.size : Int) then ((packhorseref01_sign.f k x0 x4).bind fun bt313 => (if bt313.1 = 0 then (some ([] : List ByteArray)) else (if (x3.length : Int) = 0 then (if bt313.2 = true then (if (x3.length : Int) = 16 then (some ([] : List ByteArray)) else (if 0 ≤ x4 then (if x4 ≤ (wrap64 (x4 + bt313.1)) then (if (wrap64 (x4 + bt313.1)) ≤ (x0.size : Int) then (if x3.length < 8796093022208 then (packhorseref01_Signs.l0 k x0 (x3 ++ [x0.extract (x4 : Int).toNat ((wrap64 (x4 + bt313.1)) : Int).toNat]) (wrap64 (x4 + bt313.1))) else (none)) else (none)) else (none)) else (none))) else (some ([] : List ByteArray))) else (if (x3.length : Int) = 16 then (some ([] : List ByteArray)) else (if 0 ≤ x4 then (if x4 ≤ (wrap64 (x4 + bt313.1)) then (if (wrap64 (x4 + bt313.1)) ≤ (x0.size : Int) then (if x3.length < 8796093022208 then (packhorseref01_Signs.l0 k x0 (x3 ++ [x0.extract (x4 : Int).toNat ((wrap64 (x4 + bt313.1)) : Int).toNat]) (wrap64 (x4 + bt313.1))) else (none)) else (none)) else (none)) else (none)))))) else (some x3)
def packhorseref01_Signs.f (k : Nat) (a0 : ByteArray) : Option (List ByteArray) := packhorseref01_Signs.l0 k a0 (([] : List ByteArray)) 0
set_option maxHeartbeats 8000000 in
set_option maxRecDepth 100000 in
theorem packhorseref01_Signs.calls (k : Nat) (a0 : ByteArray) (r : List ByteArray) (w : World) (h : packhorseref01_Signs.f k a0 = some r) :
  Calls Tryd.prog 60 #[.string a0] w fun e w' => ∃ v0_ : Value, e = .returned (v0_) ∧ Kd.R Kd.string 9 w' w.heap.size (fun _ => True) v0_ r ∧ Below w.heap.size w w' := by
 have HB := am (Below.refl w.heap.size w); have H : (packhorseref01_Signs.l0 k a0 (([] : List ByteArray)) 0) = some r := h; clear h; obtain ⟨y310, hy310⟩ : ∃ y_ : List ByteArray, y_ = (([] : List ByteArray)) := ⟨_, rfl⟩
 replace H : (packhorseref01_Signs.l0 k a0 y310 0) = some r := by first | (rw [hy310]; with_reducible exact H) | (have H2_ := (Option.bind_some _ _).symm.trans H; rw [hy310]; with_reducible exact H2_) | (have H2_ := (Option.bind_some _ _).symm.trans H; with_reducible exact H2_) | with_reducible exact H | (rw [hy310]; exact H) | exact H
 have Ny310 := am hy310; clear hy310; have H' := am H; clear H
 go_enter Tryd.func60, Tryd.ntmps60
 go_wp2_with (first | ((with_reducible refine gate_dst (N := 7) rfl ?_); (try (refine gate_guard (by rfl) ?_; dsimp only)); refine Kd.R_lit Kd.string _ 9 ?hg (N := 7) ?hd (xs := ([] : List ByteArray)) (inner := []) (ok := fun _ => True) (okp := fun _ => True) ?hr ?hp (fun _ hk => hk) trivial (Below.refl _ _) (Nat.le_refl _) (by simp) ?_; (case hd => rfl); (case hg => rfl); (case hr => first | (go_simp; done) | (go_simp; rfl)); (case hp => exact (Reps.none _ _)); intro v311 w2 ho3 hb hg_ hnew_; clear hg_ hnew_; (first | rw [← Ny310.out] at ho3 | (simp only [Int.reduceToNat] at ho3; rw [← Ny310.out] at ho3)); have _ := am (Kd.R_lower ho3 (below_size (beu HB.out))); have _ := am (below_step (beu HB.out) hb); clear HB; rename_i HO312 HB; clear hb ho3))
 go_loopg [3, 4] k (fun kq v3 v4 w' => ∃ (x3_1 : List ByteArray) (x4_1 : Int), v4 = .int .i64 x4_1 ∧ Aside0 (packhorseref01_Signs.l0 kq a0 x3_1 x4_1 = some r) ∧ Aside0 (kq ≤ k) ∧ Aside0 (Kd.R Kd.string 9 w' w.heap.size (fun _ => True) v3 x3_1) ∧ Aside0 (Below w.heap.size w w'))
 case atStart => exact ⟨(y310), (0), ap3, H', ⟨Nat.le_refl _⟩, ⟨ru HO312.out⟩, ⟨beu HB.out⟩⟩
 case round =>
  clear H'; (try clear p2); obtain ⟨x3_1, x4_1, rfl, HA, HK1, HO_3, HB⟩ := hrel
  cases gk with
  | zero => exact absurd HA.out (by simp [packhorseref01_Signs.l0])
  | succ k1 =>
   have H := HA.out; clear HA; simp only [packhorseref01_Signs.l0] at H
   by_cases c4 : x4_1 < (a0.size : Int)
   ·rw [if_pos c4] at H
    have c4b0 : decide (x4_1 < (a0.size : Int)) = true := decide_eq_true c4; clear c4; replace H := obm H; obtain ⟨⟨t313, t314⟩, A50, H⟩ := H; replace H : (if t313 = 0 then (some ([] : List ByteArray)) else (if (x3_1.length : Int) = 0 then (if t314 = true then (if (x3_1.length : Int) = 16 then (some ([] : List ByteArray)) else (if 0 ≤ x4_1 then (if x4_1 ≤ (wrap64 (x4_1 + t313)) then (if (wrap64 (x4_1 + t313)) ≤ (a0.size : Int) then (if x3_1.length < 8796093022208 then (packhorseref01_Signs.l0 k1 a0 (x3_1 ++ [a0.extract (x4_1 : Int).toNat ((wrap64 (x4_1 + t313)) : Int).toNat]) (wrap64 (x4_1 + t313))) else (none)) else (none)) else (none)) else (none))) else (some ([] : List ByteArray))) else (if (x3_1.length : Int) = 16 then (some ([] : List ByteArray)) else (if 0 ≤ x4_1 then (if x4_1 ≤ (wrap64 (x4_1 + t313)) then (if (wrap64 (x4_1 + t313)) ≤ (a0.size : Int) then (if x3_1.length < 8796093022208 then (packhorseref01_Signs.l0 k1 a0 (x3_1 ++ [a0.extract (x4_1 : Int).toNat ((wrap64 (x4_1 + t313)) : Int).toNat]) (wrap64 (x4_1 + t313))) else (none)) else (none)) else (none)) else (none))))) = some r := H; have A5 := am A50; clear A50
    by_cases c6 : t313 = 0
    ·rw [if_pos c6] at H
     have c6b0 : (t313 == 0) = true := beq_iff_eq.mpr c6; have c6b1 : (t313 != 0) = false := bne_eq_false_iff_eq.mpr c6; clear c6; obtain rfl := Option.some.inj H; simp only [Option.some.injEq, Prod.mk.injEq] at H; obtain ⟨rfl⟩ := H
     go_wp2_with (first | ((with_reducible refine gate_callee (f := 64) rfl ?_); refine goesL_ (some 15) rfl rfl Tryd.func64 (by kernel_rfl) rfl #[.string a0, .int .i64 x4_1] rfl ap1 ?_; (with_reducible refine (packhorseref01_sign.calls k1 a0 x4_1 t313 t314 _ A5.out).mono ?_); rintro e w' ⟨rfl, ⟨nd, rfl⟩⟩; refine ⟨_, rfl, ?_⟩))
     go_ret
     exact ⟨_, ap4, by first | exact Kd.R_nil _ _ _ _ _ | exact Kd.N_nil _ _ _ _ _ | exact Kd.V_nil _ _ _ _ _ | exact Kd.Q_nil _ _ _ _ _ | exact Kd.S_nil _ _ _ _ _, beu HB.out⟩
    ·rw [if_neg c6] at H
     have c6b0 : (t313 == 0) = false := beq_eq_false_iff_ne.mpr c6; have c6b1 : (t313 != 0) = true := bne_iff_ne.mpr c6
     by_cases c7 : (x3_1.length : Int) = 0
     ·rw [if_pos c7] at H
      have c7b0 : ((x3_1.length : Int) == 0) = true := beq_iff_eq.mpr c7; have c7b1 : ((x3_1.length : Int) != 0) = false := bne_eq_false_iff_eq.mpr c7; clear c7
      by_cases c8 : t314 = true
      ·subst c8
       have H1 : (if (x3_1.length : Int) = 16 then (some ([] : List ByteArray)) else (if 0 ≤ x4_1 then (if x4_1 ≤ (wrap64 (x4_1 + t313)) then (if (wrap64 (x4_1 + t313)) ≤ (a0.size : Int) then (if x3_1.length < 8796093022208 then (packhorseref01_Signs.l0 k1 a0 (x3_1 ++ [a0.extract (x4_1 : Int).toNat ((wrap64 (x4_1 + t313)) : Int).toNat]) (wrap64 (x4_1 + t313))) else (none)) else (none)) else (none)) else (none))) = some r := by rw [if_pos rfl] at H; exact H
       clear H; have H := H1; clear H1
       by_cases c9 : (x3_1.length : Int) = 16
       ·rw [if_pos c9] at H
        have c9b0 : ((x3_1.length : Int) == 16) = true := beq_iff_eq.mpr c9; have c9b1 : ((x3_1.length : Int) != 16) = false := bne_eq_false_iff_eq.mpr c9; clear c9; obtain rfl := Option.some.inj H; simp only [Option.some.injEq, Prod.mk.injEq] at H; obtain ⟨rfl⟩ := H
        go_wp2_with (first | ((with_reducible refine gate_callee (f := 64) rfl ?_); refine goesL_ (some 15) rfl rfl Tryd.func64 (by kernel_rfl) rfl #[.string a0, .int .i64 x4_1] rfl ap1 ?_; (with_reducible refine (packhorseref01_sign.calls k1 a0 x4_1 t313 true _ A5.out).mono ?_); rintro e w' ⟨rfl, ⟨nd, rfl⟩⟩; refine ⟨_, rfl, ?_⟩; obtain ⟨Ao10, co10, eo10⟩ := Kd.R_slice HO_3.out; subst eo10))
        go_ret
        exact ⟨_, ap4, by first | exact Kd.R_nil _ _ _ _ _ | exact Kd.N_nil _ _ _ _ _ | exact Kd.V_nil _ _ _ _ _ | exact Kd.Q_nil _ _ _ _ _ | exact Kd.S_nil _ _ _ _ _, beu HB.out⟩
       ·rw [if_neg c9] at H
        have c9b0 : ((x3_1.length : Int) == 16) = false := beq_eq_false_iff_ne.mpr c9; have c9b1 : ((x3_1.length : Int) != 16) = true := bne_iff_ne.mpr c9
        by_cases c11 : 0 ≤ x4_1
        ·rw [if_pos c11] at H
         have c11b0 := eq_true c11; have c11b1 : decide (0 ≤ x4_1) = true := decide_eq_true c11; clear c11
         by_cases c12 : x4_1 ≤ (wrap64 (x4_1 + t313))
         ·rw [if_pos c12] at H
          have c12b0 := eq_true c12; have c12b1 : decide (x4_1 ≤ (wrap64 (x4_1 + t313))) = true := decide_eq_true c12
          by_cases c13 : (wrap64 (x4_1 + t313)) ≤ (a0.size : Int)
          ·rw [if_pos c13] at H
           have c13b0 := eq_true c13; have c13b1 : decide ((wrap64 (x4_1 + t313)) ≤ (a0.size : Int)) = true := decide_eq_true c13
           by_cases c14 : x3_1.length < 8796093022208
           ·rw [if_pos c14] at H
            have LMc14 := am c14; clear c14; obtain ⟨y315, hy315⟩ : ∃ y_ : List ByteArray, y_ = (x3_1 ++ [a0.extract (x4_1 : Int).toNat ((wrap64 (x4_1 + t313)) : Int).toNat]) := ⟨_, rfl⟩
            replace H : (packhorseref01_Signs.l0 k1 a0 y315 (wrap64 (x4_1 + t313))) = some r := by first | (rw [hy315]; with_reducible exact H) | (have H2_ := (Option.bind_some _ _).symm.trans H; rw [hy315]; with_reducible exact H2_) | (have H2_ := (Option.bind_some _ _).symm.trans H; with_reducible exact H2_) | with_reducible exact H | (rw [hy315]; exact H) | exact H
            have Ny315 := am hy315; clear hy315; have H' := am H; clear H
            go_wp2_with (first | ((with_reducible refine gate_callee (f := 64) rfl ?_); refine goesL_ (some 15) rfl rfl Tryd.func64 (by kernel_rfl) rfl #[.string a0, .int .i64 x4_1] rfl ap1 ?_; (with_reducible refine (packhorseref01_sign.calls k1 a0 x4_1 t313 true _ A5.out).mono ?_); rintro e w' ⟨rfl, ⟨nd, rfl⟩⟩; refine ⟨_, rfl, ?_⟩; obtain ⟨Ao15, co15, eo15⟩ := Kd.R_slice HO_3.out; subst eo15) | ((with_reducible refine gate_builtin (b := .append) (xs := #[.tmp 34, .tmp 41]) rfl ?_); (try (refine gate_guard (by rfl) ?_; dsimp only)); at_builtin; refine Kd.R_append Kd.string (w0 := w) w.heap.size rfl (.tmp 34) (.tmp 41) 93 9 (.string ⟨#[]⟩) 16 rfl Tryd.underlying93 info9 rfl (by decide) (by omega) (.slice Ao15 x3_1.length co15) x3_1 (a0.extract (x4_1 : Int).toNat ((wrap64 (x4_1 + t313)) : Int).toNat) [.string (a0.extract (x4_1 : Int).toNat ((wrap64 (x4_1 + t313)) : Int).toNat)] (fun _ => True) (fun _ => False) rfl rfl ?aP (fun _ hk => hk.elim) ?aF ?aO ?aB ?aS ?aL ?_; (case aP => exact rfl); (case aB => exact (beu HB.out)); (case aF => exact (fun _ _ => trivial)); (case aO => exact (ru HO_3.out)); (case aS => exact (below_size (beu HB.out))); (case aL => have := LMc14.out; omega); intro v316 w16 ho hb hg hat; rw [← Ny315.out] at ho; have _ := am (hb); have _ := am (ho); clear HB HO_3; rename_i HB HO317; clear ho hb hg hat))
            go_roundg k1
            case measure => have := HK1.out; omega
            case rel => exact ⟨(y315), (wrap64 (x4_1 + t313)), ap3, H', ⟨by have := HK1.out; omega⟩, ⟨ru HO317.out⟩, ⟨beu HB.out⟩⟩
           ·rw [if_neg c14] at H
            exact absurd H (by simp)
          ·rw [if_neg c13] at H
           exact absurd H (by simp)
         ·rw [if_neg c12] at H
          exact absurd H (by simp)
        ·rw [if_neg c11] at H
         exact absurd H (by simp)
      ·replace c8 := Bool.eq_false_iff.mpr c8
       subst c8
       have H1 : (some ([] : List ByteArray)) = some r := by rw [if_neg (show ¬ (false = true) by decide)] at H; exact H
       clear H; have H := H1; clear H1; obtain rfl := Option.some.inj H; simp only [Option.some.injEq, Prod.mk.injEq] at H; obtain ⟨rfl⟩ := H
       go_wp2_with (first | ((with_reducible refine gate_callee (f := 64) rfl ?_); refine goesL_ (some 15) rfl rfl Tryd.func64 (by kernel_rfl) rfl #[.string a0, .int .i64 x4_1] rfl ap1 ?_; (with_reducible refine (packhorseref01_sign.calls k1 a0 x4_1 t313 false _ A5.out).mono ?_); rintro e w' ⟨rfl, ⟨nd, rfl⟩⟩; refine ⟨_, rfl, ?_⟩; obtain ⟨Ao17, co17, eo17⟩ := Kd.R_slice HO_3.out; subst eo17))
       go_ret
       exact ⟨_, ap4, by first | exact Kd.R_nil _ _ _ _ _ | exact Kd.N_nil _ _ _ _ _ | exact Kd.V_nil _ _ _ _ _ | exact Kd.Q_nil _ _ _ _ _ | exact Kd.S_nil _ _ _ _ _, beu HB.out⟩
     ·rw [if_neg c7] at H
      have c7b0 : ((x3_1.length : Int) == 0) = false := beq_eq_false_iff_ne.mpr c7; have c7b1 : ((x3_1.length : Int) != 0) = true := bne_iff_ne.mpr c7
      have c7b2 : ¬ (x3_1 = []) := fun h_ => c7 (by rw [h_]; rfl)
      by_cases c18 : (x3_1.length : Int) = 16
      ·rw [if_pos c18] at H
       have c18b0 : ((x3_1.length : Int) == 16) = true := beq_iff_eq.mpr c18; have c18b1 : ((x3_1.length : Int) != 16) = false := bne_eq_false_iff_eq.mpr c18; clear c18; obtain rfl := Option.some.inj H; simp only [Option.some.injEq, Prod.mk.injEq] at H; obtain ⟨rfl⟩ := H
       go_wp2_with (first | ((with_reducible refine gate_callee (f := 64) rfl ?_); refine goesL_ (some 15) rfl rfl Tryd.func64 (by kernel_rfl) rfl #[.string a0, .int .i64 x4_1] rfl ap1 ?_; (with_reducible refine (packhorseref01_sign.calls k1 a0 x4_1 t313 t314 _ A5.out).mono ?_); rintro e w' ⟨rfl, ⟨nd, rfl⟩⟩; refine ⟨_, rfl, ?_⟩; obtain ⟨Ao19, co19, eo19⟩ := Kd.R_slice HO_3.out; subst eo19))
       go_ret
       exact ⟨_, ap4, by first | exact Kd.R_nil _ _ _ _ _ | exact Kd.N_nil _ _ _ _ _ | exact Kd.V_nil _ _ _ _ _ | exact Kd.Q_nil _ _ _ _ _ | exact Kd.S_nil _ _ _ _ _, beu HB.out⟩
      ·rw [if_neg c18] at H
       have c18b0 : ((x3_1.length : Int) == 16) = false := beq_eq_false_iff_ne.mpr c18; have c18b1 : ((x3_1.length : Int) != 16) = true := bne_iff_ne.mpr c18
       by_cases c20 : 0 ≤ x4_1
       ·rw [if_pos c20] at H
        have c20b0 := eq_true c20; have c20b1 : decide (0 ≤ x4_1) = true := decide_eq_true c20; clear c20
        by_cases c21 : x4_1 ≤ (wrap64 (x4_1 + t313))
        ·rw [if_pos c21] at H
         have c21b0 := eq_true c21; have c21b1 : decide (x4_1 ≤ (wrap64 (x4_1 + t313))) = true := decide_eq_true c21
         by_cases c22 : (wrap64 (x4_1 + t313)) ≤ (a0.size : Int)
         ·rw [if_pos c22] at H
          have c22b0 := eq_true c22; have c22b1 : decide ((wrap64 (x4_1 + t313)) ≤ (a0.size : Int)) = true := decide_eq_true c22
          by_cases c23 : x3_1.length < 8796093022208
          ·rw [if_pos c23] at H
           have LMc23 := am c23; clear c23; obtain ⟨y318, hy318⟩ : ∃ y_ : List ByteArray, y_ = (x3_1 ++ [a0.extract (x4_1 : Int).toNat ((wrap64 (x4_1 + t313)) : Int).toNat]) := ⟨_, rfl⟩
           replace H : (packhorseref01_Signs.l0 k1 a0 y318 (wrap64 (x4_1 + t313))) = some r := by first | (rw [hy318]; with_reducible exact H) | (have H2_ := (Option.bind_some _ _).symm.trans H; rw [hy318]; with_reducible exact H2_) | (have H2_ := (Option.bind_some _ _).symm.trans H; with_reducible exact H2_) | with_reducible exact H | (rw [hy318]; exact H) | exact H
           have Ny318 := am hy318; clear hy318; have H' := am H; clear H
           go_wp2_with (first | ((with_reducible refine gate_callee (f := 64) rfl ?_); refine goesL_ (some 15) rfl rfl Tryd.func64 (by kernel_rfl) rfl #[.string a0, .int .i64 x4_1] rfl ap1 ?_; (with_reducible refine (packhorseref01_sign.calls k1 a0 x4_1 t313 t314 _ A5.out).mono ?_); rintro e w' ⟨rfl, ⟨nd, rfl⟩⟩; refine ⟨_, rfl, ?_⟩; obtain ⟨Ao24, co24, eo24⟩ := Kd.R_slice HO_3.out; subst eo24) | ((with_reducible refine gate_builtin (b := .append) (xs := #[.tmp 34, .tmp 41]) rfl ?_); (try (refine gate_guard (by rfl) ?_; dsimp only)); at_builtin; refine Kd.R_append Kd.string (w0 := w) w.heap.size rfl (.tmp 34) (.tmp 41) 93 9 (.string ⟨#[]⟩) 16 rfl Tryd.underlying93 info9 rfl (by decide) (by omega) (.slice Ao24 x3_1.length co24) x3_1 (a0.extract (x4_1 : Int).toNat ((wrap64 (x4_1 + t313)) : Int).toNat) [.string (a0.extract (x4_1 : Int).toNat ((wrap64 (x4_1 + t313)) : Int).toNat)] (fun _ => True) (fun _ => False) rfl rfl ?aP (fun _ hk => hk.elim) ?aF ?aO ?aB ?aS ?aL ?_; (case aP => exact rfl); (case aB => exact (beu HB.out)); (case aF => exact (fun _ _ => trivial)); (case aO => exact (ru HO_3.out)); (case aS => exact (below_size (beu HB.out))); (case aL => have := LMc23.out; omega); intro v319 w25 ho hb hg hat; rw [← Ny318.out] at ho; have _ := am (hb); have _ := am (ho); clear HB HO_3; rename_i HB HO320; clear ho hb hg hat))
           go_roundg k1
           case measure => have := HK1.out; omega
           case rel => exact ⟨(y318), (wrap64 (x4_1 + t313)), ap3, H', ⟨by have := HK1.out; omega⟩, ⟨ru HO320.out⟩, ⟨beu HB.out⟩⟩
          ·rw [if_neg c23] at H
           exact absurd H (by simp)
         ·rw [if_neg c22] at H
          exact absurd H (by simp)
        ·rw [if_neg c21] at H
         exact absurd H (by simp)
       ·rw [if_neg c20] at H
        exact absurd H (by simp)
   ·rw [if_neg c4] at H
    have c4b0 : decide (x4_1 < (a0.size : Int)) = false := decide_eq_false c4; clear c4; obtain rfl := Option.some.inj H; simp only [Option.some.injEq, Prod.mk.injEq] at H; obtain ⟨rfl⟩ := H
    go_wp2
    go_ret
    exact ⟨_, ap4, ru HO_3.out, beu HB.out⟩
def packhorseref01_Right.f (k : Nat) (a0 : ByteArray) : Option (Bool) := (packhorseref01_Signs.f k a0).bind fun t321 => (some (decide ((t321.length : Int) > 0)))
set_option maxHeartbeats 8000000 in
set_option maxRecDepth 100000 in
theorem packhorseref01_Right.calls (k : Nat) (a0 : ByteArray) (r : Bool) (w : World) (h : packhorseref01_Right.f k a0 = some r) :
  Calls Tryd.prog 57 #[.string a0] w fun e w' => e = .returned (.bool r) ∧ Below w.heap.size w w' := by
 have HB := am (Below.refl w.heap.size w); have H : ((packhorseref01_Signs.f k a0).bind fun t321 => (some (decide ((t321.length : Int) > 0)))) = some r := h; clear h; replace H := obm H; obtain ⟨t321, A20, H⟩ := H; replace H : (some (decide ((t321.length : Int) > 0))) = some r := H; have A2 := am A20; clear A20; obtain rfl := Option.some.inj H; simp only [Option.some.injEq, Prod.mk.injEq] at H; obtain ⟨rfl⟩ := H
 go_enter Tryd.func57, Tryd.ntmps57
 go_wp2_with (first | ((with_reducible refine gate_callee (f := 60) rfl ?_); refine goesL_ (some 4) rfl rfl Tryd.func60 (by kernel_rfl) rfl #[.string a0] rfl ap1 ?_; (with_reducible refine (packhorseref01_Signs.calls k a0 t321 _ A2.out).mono ?_); rintro e w3 ⟨v322, rfl, ho0, hb⟩; refine ⟨_, rfl, ?_⟩; have _ := am (Kd.R_lower ho0 (below_size (beu HB.out))); have _ := am (below_step (beu HB.out) hb); clear HB; rename_i HO323 HB; (try clear hb); (try clear ho0); obtain ⟨Ao4, co4, eo4⟩ := Kd.R_slice HO323.out; subst eo4))
 go_ret
 exact ⟨ap4, beu HB.out⟩
mutual
def packhorseref13_One.j0 : Nat → Bool → Int → Int → Int → Int → Int → ByteArray → Option (Bool)
 | 0, _, _, _, _, _, _, _ => none
 | k + 1, x26, X0, X1, X2, X3, X4, X5 => if x26 = true then (some false) else (if X3 = 3 then (packhorseref13_One.j1 k X3 (X3 == 3) X0 X1 X2 X3 X4 X5) else (packhorseref13_One.j1 k X3 (X3 == 4) X0 X1 X2 X3 X4 X5))
def packhorseref13_One.j1 : Nat → Int → Bool → Int → Int → Int → Int → Int → ByteArray → Option (Bool)
 | 0, _, _, _, _, _, _, _, _ => none
 | k + 1, x28, x29, X0, X1, X2, X3, X4, X5 => if x29 = true then (if X1 > 0 then (if X1 ≤ 1000000000000 then (some (X5.toList == ([] : List UInt8))) else (some false)) else (some false)) else (if x28 = 1 then (if X1 = 0 then ((packhorseref01_Right.f k X5).bind fun t326 => (some t326)) else (some false)) else (if x28 = 2 then (if X1 = 0 then ((packhorseref01_Right.f k X5).bind fun t327 => (some t327)) else (some false)) else (if x28 = 5 then (if X1 = 0 then ((packhorseref01_Right.f k X5).bind fun t328 => (some t328)) else (some false)) else (if x28 = 6 then (if X1 = 0 then ((packhorseref01_Right.f k X5).bind fun t329 => (some t329)) else (some false)) else (if x28 = 7 then (if X1 = 0 then ((packhorseref01_Right.f k X5).bind fun t330 => (some t330)) else (some false)) else (some false))))))
end
def packhorseref13_One.f (k : Nat) (a0_0 : Int) (a0_1 : Int) (a0_2 : Int) (a0_3 : Int) (a0_4 : Int) (a0_5 : ByteArray) : Option (Bool) := if a0_0 < 1 then (packhorseref13_One.j0 k true a0_0 a0_1 a0_2 a0_3 a0_4 a0_5) else (if a0_0 > 1000000000000 then (packhorseref13_One.j0 k true a0_0 a0_1 a0_2 a0_3 a0_4 a0_5) else ((packhorseref03_Right.f a0_2).bind fun t325 => (if t325 = true then (if a0_4 < 0 then (packhorseref13_One.j0 k true a0_0 a0_1 a0_2 a0_3 a0_4 a0_5) else (packhorseref13_One.j0 k (decide (a0_4 > 1000000)) a0_0 a0_1 a0_2 a0_3 a0_4 a0_5)) else (packhorseref13_One.j0 k true a0_0 a0_1 a0_2 a0_3 a0_4 a0_5))))
set_option maxHeartbeats 8000000 in
set_option maxRecDepth 100000 in
theorem packhorseref13_One.calls (k : Nat) (a0_0 : Int) (a0_1 : Int) (a0_2 : Int) (a0_3 : Int) (a0_4 : Int) (a0_5 : ByteArray) (r : Bool) (w : World) (h : packhorseref13_One.f k a0_0 a0_1 a0_2 a0_3 a0_4 a0_5 = some r) :
  Calls Tryd.prog 43 #[.agg #[.int .i64 a0_0, .int .i64 a0_1, .int .i64 a0_2, .int .i64 a0_3, .int .i64 a0_4, .string a0_5]] w fun e w' => e = .returned (.bool r) ∧ Below w.heap.size w w' := by
 have hu27 := Tryd.underlying27; have HB := am (Below.refl w.heap.size w); have H : (if a0_0 < 1 then (packhorseref13_One.j0 k true a0_0 a0_1 a0_2 a0_3 a0_4 a0_5) else (if a0_0 > 1000000000000 then (packhorseref13_One.j0 k true a0_0 a0_1 a0_2 a0_3 a0_4 a0_5) else ((packhorseref03_Right.f a0_2).bind fun t325 => (if t325 = true then (if a0_4 < 0 then (packhorseref13_One.j0 k true a0_0 a0_1 a0_2 a0_3 a0_4 a0_5) else (packhorseref13_One.j0 k (decide (a0_4 > 1000000)) a0_0 a0_1 a0_2 a0_3 a0_4 a0_5)) else (packhorseref13_One.j0 k true a0_0 a0_1 a0_2 a0_3 a0_4 a0_5))))) = some r := h; clear h; have HC2 := am H; clear H
 go_enter Tryd.func43, Tryd.ntmps43
 go_upto_region 1 with (first | ((with_reducible refine gate_dst (N := 1) rfl ?_); refine box_event ?hg (N := 1) ?hd (cs := #[.int .i64 a0_0, .int .i64 a0_1, .int .i64 a0_2, .int .i64 a0_3, .int .i64 a0_4, .string a0_5]) (t := 27) ?hr ?_; (case hd => rfl); (case hg => rfl); (case hr => first | (go_simp; done) | (go_simp; rfl)); intro gb324 hg w3 hbox hb; have _ := am (below_step (beu HB.out) hb); have _ := am (hbox); have _ := am ((by rw [hg]; exact (below_size (beu HB.out)) : w.heap.size ≤ gb324)); have _ := am ((by rw [hg]; exact (below_size (beu HB.out)) : w.heap.size ≤ gb324)); clear HB; rename_i HB BK324 GW324 GE324; clear hb hbox hg))
 (try simp only [Act.put, sA, sB, sC])
 go_cut [26] (fun v26 wc => ∃ (kq : Nat) (x26_1 : Bool), v26 = .bool x26_1 ∧ Aside0 (packhorseref13_One.j0 kq x26_1 a0_0 a0_1 a0_2 a0_3 a0_4 a0_5 = some r) ∧ Aside0 (kq ≤ k) ∧ Aside0 (wc.heap[gb324]? = some (.cells #[.int .i64 a0_0, .int .i64 a0_1, .int .i64 a0_2, .int .i64 a0_3, .int .i64 a0_4, .string a0_5] 27 (0, 0))) ∧ Aside0 (Below w.heap.size w wc))
 case first =>
  have H := HC2.out; clear HC2
  by_cases c4 : a0_0 < 1
  ·rw [if_pos c4] at H
   have c4b0 : decide (a0_0 < 1) = true := decide_eq_true c4; clear c4
   (first | rw [c4b0] | (simp only [i64_w, i32_w]; rw [c4b0]) | skip)
   have H' := am H; clear H; obtain ⟨hcz5_0, hcz5_1, hcz5_2, hcz5_3, hcz5_4, hcz5_5⟩ := cells6 BK324.out; obtain ⟨hfz5_0, hfz5_1, hfz5_2, hfz5_3, hfz5_4, hfz5_5⟩ := frozens6 BK324.out
   go_wp2
   go_meet
   case rel => exact ⟨_, (true), ap3, H', ⟨by first | omega | exact Nat.le_refl _⟩, ⟨by refine bu ?_; exact BK324.out⟩, ⟨beu HB.out⟩⟩
  ·rw [if_neg c4] at H
   have c4b0 : decide (a0_0 < 1) = false := decide_eq_false c4; clear c4
   (first | rw [c4b0] | (simp only [i64_w, i32_w]; rw [c4b0]) | skip)
   by_cases c6 : a0_0 > 1000000000000
   ·rw [if_pos c6] at H
    have c6b0 : decide (1000000000000 < a0_0) = true := decide_eq_true c6; clear c6; have H' := am H; clear H; obtain ⟨hcz7_0, hcz7_1, hcz7_2, hcz7_3, hcz7_4, hcz7_5⟩ := cells6 BK324.out; obtain ⟨hfz7_0, hfz7_1, hfz7_2, hfz7_3, hfz7_4, hfz7_5⟩ := frozens6 BK324.out
    go_wp2
    go_meet
    case rel => exact ⟨_, (true), ap3, H', ⟨by first | omega | exact Nat.le_refl _⟩, ⟨by refine bu ?_; exact BK324.out⟩, ⟨beu HB.out⟩⟩
   ·rw [if_neg c6] at H
    have c6b0 : decide (1000000000000 < a0_0) = false := decide_eq_false c6; clear c6; replace H := obm H; obtain ⟨t325, A80, H⟩ := H; replace H : (if t325 = true then (if a0_4 < 0 then (packhorseref13_One.j0 k true a0_0 a0_1 a0_2 a0_3 a0_4 a0_5) else (packhorseref13_One.j0 k (decide (a0_4 > 1000000)) a0_0 a0_1 a0_2 a0_3 a0_4 a0_5)) else (packhorseref13_One.j0 k true a0_0 a0_1 a0_2 a0_3 a0_4 a0_5)) = some r := H; have A8 := am A80; clear A80
    by_cases c9 : t325 = true
    ·subst c9
     have H1 : (if a0_4 < 0 then (packhorseref13_One.j0 k true a0_0 a0_1 a0_2 a0_3 a0_4 a0_5) else (packhorseref13_One.j0 k (decide (a0_4 > 1000000)) a0_0 a0_1 a0_2 a0_3 a0_4 a0_5)) = some r := by rw [if_pos rfl] at H; exact H
     clear H; have H := H1; clear H1
     by_cases c10 : a0_4 < 0
     ·rw [if_pos c10] at H
      have c10b0 : decide (a0_4 < 0) = true := decide_eq_true c10; clear c10; have H' := am H; clear H; obtain ⟨hcz11_0, hcz11_1, hcz11_2, hcz11_3, hcz11_4, hcz11_5⟩ := cells6 BK324.out; obtain ⟨hfz11_0, hfz11_1, hfz11_2, hfz11_3, hfz11_4, hfz11_5⟩ := frozens6 BK324.out
      go_wp2_with (first | (go_at_call 36; (with_reducible refine (packhorseref03_Right.calls a0_2 true _ A8.out).mono ?_); rintro e w' ⟨rfl, ⟨nd, rfl⟩⟩))
      go_meet
      case rel => exact ⟨_, (true), ap3, H', ⟨by first | omega | exact Nat.le_refl _⟩, ⟨by refine bu ?_; exact BK324.out⟩, ⟨beu HB.out⟩⟩
     ·rw [if_neg c10] at H
      have c10b0 : decide (a0_4 < 0) = false := decide_eq_false c10; clear c10; have H' := am H; clear H; obtain ⟨hcz12_0, hcz12_1, hcz12_2, hcz12_3, hcz12_4, hcz12_5⟩ := cells6 BK324.out; obtain ⟨hfz12_0, hfz12_1, hfz12_2, hfz12_3, hfz12_4, hfz12_5⟩ := frozens6 BK324.out
      go_wp2_with (first | (go_at_call 36; (with_reducible refine (packhorseref03_Right.calls a0_2 true _ A8.out).mono ?_); rintro e w' ⟨rfl, ⟨nd, rfl⟩⟩))
      go_meet
      case rel => exact ⟨_, (decide (a0_4 > 1000000)), ap3, H', ⟨by first | omega | exact Nat.le_refl _⟩, ⟨by refine bu ?_; exact BK324.out⟩, ⟨beu HB.out⟩⟩
    ·replace c9 := Bool.eq_false_iff.mpr c9
     subst c9
     have H1 : (packhorseref13_One.j0 k true a0_0 a0_1 a0_2 a0_3 a0_4 a0_5) = some r := by rw [if_neg (show ¬ (false = true) by decide)] at H; exact H
     clear H; have H := H1; clear H1; have H' := am H; clear H; obtain ⟨hcz13_0, hcz13_1, hcz13_2, hcz13_3, hcz13_4, hcz13_5⟩ := cells6 BK324.out; obtain ⟨hfz13_0, hfz13_1, hfz13_2, hfz13_3, hfz13_4, hfz13_5⟩ := frozens6 BK324.out
     go_wp2_with (first | (go_at_call 36; (with_reducible refine (packhorseref03_Right.calls a0_2 false _ A8.out).mono ?_); rintro e w' ⟨rfl, ⟨nd, rfl⟩⟩))
     go_meet
     case rel => exact ⟨_, (true), ap3, H', ⟨by first | omega | exact Nat.le_refl _⟩, ⟨by refine bu ?_; exact BK324.out⟩, ⟨beu HB.out⟩⟩
 case rest =>
  clear HC2; (try clear c1); (try clear p2); (try clear c4); (try clear c4b0); (try clear c6); (try clear c6b0); (try clear c9); (try clear c10); (try clear c10b0); (try clear hcz11_0); (try clear hcz11_1); (try clear hcz11_2); (try clear hcz11_3); (try clear hcz11_4); (try clear hcz11_5); (try clear hcz12_0); (try clear hcz12_1); (try clear hcz12_2); (try clear hcz12_3); (try clear hcz12_4); (try clear hcz12_5); (try clear hcz13_0); (try clear hcz13_1); (try clear hcz13_2); (try clear hcz13_3); (try clear hcz13_4); (try clear hcz13_5); (try clear hcz5_0); (try clear hcz5_1); (try clear hcz5_2); (try clear hcz5_3); (try clear hcz5_4); (try clear hcz5_5); (try clear hcz7_0); (try clear hcz7_1); (try clear hcz7_2); (try clear hcz7_3); (try clear hcz7_4); (try clear hcz7_5); (try clear hfz11_0); (try clear hfz11_1); (try clear hfz11_2); (try clear hfz11_3); (try clear hfz11_4); (try clear hfz11_5); (try clear hfz12_0); (try clear hfz12_1); (try clear hfz12_2); (try clear hfz12_3); (try clear hfz12_4); (try clear hfz12_5); (try clear hfz13_0); (try clear hfz13_1); (try clear hfz13_2); (try clear hfz13_3); (try clear hfz13_4); (try clear hfz13_5); (try clear hfz5_0); (try clear hfz5_1); (try clear hfz5_2); (try clear hfz5_3); (try clear hfz5_4); (try clear hfz5_5); (try clear hfz7_0); (try clear hfz7_1); (try clear hfz7_2); (try clear hfz7_3); (try clear hfz7_4); (try clear hfz7_5); obtain ⟨kq, x26_1, rfl, HA, HJ1, BK324, HB⟩ := hcut
  cases kq with
  | zero => exact absurd HA.out (by simp [packhorseref13_One.j0])
  | succ kj1 =>
   have H := HA.out; clear HA; simp only [packhorseref13_One.j0] at H
   by_cases c14 : x26_1 = true
   ·subst c14
    have H1 : (some false) = some r := by rw [if_pos rfl] at H; exact H
    clear H; have H := H1; clear H1; obtain rfl := Option.some.inj H; simp only [Option.some.injEq, Prod.mk.injEq] at H; obtain ⟨rfl⟩ := H
    go_wp2
    go_ret
    exact ⟨ap4, beu HB.out⟩
   ·replace c14 := Bool.eq_false_iff.mpr c14
    subst c14
    have H1 : (if a0_3 = 3 then (packhorseref13_One.j1 kj1 a0_3 (a0_3 == 3) a0_0 a0_1 a0_2 a0_3 a0_4 a0_5) else (packhorseref13_One.j1 kj1 a0_3 (a0_3 == 4) a0_0 a0_1 a0_2 a0_3 a0_4 a0_5)) = some r := by rw [if_neg (show ¬ (false = true) by decide)] at H; exact H
    clear H; have H := H1; clear H1; have HC15 := am H; clear H; obtain ⟨hcz16_0, hcz16_1, hcz16_2, hcz16_3, hcz16_4, hcz16_5⟩ := cells6 BK324.out; obtain ⟨hfz16_0, hfz16_1, hfz16_2, hfz16_3, hfz16_4, hfz16_5⟩ := frozens6 BK324.out
    go_upto_if 29 with (fail)
    go_cut [29] (fun v29 wc => ∃ (kq : Nat) (x29_14 : Bool), v29 = .bool x29_14 ∧ Aside0 (packhorseref13_One.j1 kq a0_3 x29_14 a0_0 a0_1 a0_2 a0_3 a0_4 a0_5 = some r) ∧ Aside0 (kq ≤ kj1) ∧ Aside0 (wc.heap[gb324]? = some (.cells #[.int .i64 a0_0, .int .i64 a0_1, .int .i64 a0_2, .int .i64 a0_3, .int .i64 a0_4, .string a0_5] 27 (0, 0))) ∧ Aside0 (Below w.heap.size w wc))
    case first =>
     have H := HC15.out; clear HC15
     by_cases c17 : a0_3 = 3
     ·rw [if_pos c17] at H
      have c17b0 : (a0_3 == 3) = true := beq_iff_eq.mpr c17; have c17b1 : (a0_3 != 3) = false := bne_eq_false_iff_eq.mpr c17; clear c17
      (first | rw [c17b0] | (simp only [i64_w, i32_w]; rw [c17b0]) | skip)
      have H' := am H; clear H
      go_wp2
      go_meet
      case rel => exact ⟨_, ((a0_3 == 3)), ap3, H', ⟨by have := HJ1.out; first | omega | exact Nat.le_refl _⟩, ⟨by refine bu ?_; exact BK324.out⟩, ⟨beu HB.out⟩⟩
     ·rw [if_neg c17] at H
      have c17b0 : (a0_3 == 3) = false := beq_eq_false_iff_ne.mpr c17; have c17b1 : (a0_3 != 3) = true := bne_iff_ne.mpr c17
      (first | rw [c17b0] | (simp only [i64_w, i32_w]; rw [c17b0]) | skip)
      have H' := am H; clear H
      go_wp2
      go_meet
      case rel => exact ⟨_, ((a0_3 == 4)), ap3, H', ⟨by have := HJ1.out; first | omega | exact Nat.le_refl _⟩, ⟨by refine bu ?_; exact BK324.out⟩, ⟨beu HB.out⟩⟩
    case rest =>
     clear HC15; (try clear c1); (try clear p2); (try clear c4); (try clear c4b0); (try clear c6); (try clear c6b0); (try clear c9); (try clear c10); (try clear c10b0); (try clear c14); (try clear c17); (try clear c17b0); (try clear c17b1); (try clear hcz11_0); (try clear hcz11_1); (try clear hcz11_2); (try clear hcz11_3); (try clear hcz11_4); (try clear hcz11_5); (try clear hcz12_0); (try clear hcz12_1); (try clear hcz12_2); (try clear hcz12_3); (try clear hcz12_4); (try clear hcz12_5); (try clear hcz13_0); (try clear hcz13_1); (try clear hcz13_2); (try clear hcz13_3); (try clear hcz13_4); (try clear hcz13_5); (try clear hcz16_0); (try clear hcz16_1); (try clear hcz16_2); (try clear hcz16_3); (try clear hcz16_4); (try clear hcz16_5); (try clear hcz5_0); (try clear hcz5_1); (try clear hcz5_2); (try clear hcz5_3); (try clear hcz5_4); (try clear hcz5_5); (try clear hcz7_0); (try clear hcz7_1); (try clear hcz7_2); (try clear hcz7_3); (try clear hcz7_4); (try clear hcz7_5); (try clear hfz11_0); (try clear hfz11_1); (try clear hfz11_2); (try clear hfz11_3); (try clear hfz11_4); (try clear hfz11_5); (try clear hfz12_0); (try clear hfz12_1); (try clear hfz12_2); (try clear hfz12_3); (try clear hfz12_4); (try clear hfz12_5); (try clear hfz13_0); (try clear hfz13_1); (try clear hfz13_2); (try clear hfz13_3); (try clear hfz13_4); (try clear hfz13_5); (try clear hfz16_0); (try clear hfz16_1); (try clear hfz16_2); (try clear hfz16_3); (try clear hfz16_4); (try clear hfz16_5); (try clear hfz5_0); (try clear hfz5_1); (try clear hfz5_2); (try clear hfz5_3); (try clear hfz5_4); (try clear hfz5_5); (try clear hfz7_0); (try clear hfz7_1); (try clear hfz7_2); (try clear hfz7_3); (try clear hfz7_4); (try clear hfz7_5); (try clear p2); obtain ⟨kq, x29_14, rfl, HA, HJ14, BK324, HB⟩ := hcut
     cases kq with
     | zero => exact absurd HA.out (by simp [packhorseref13_One.j1])
     | succ kj14 =>
      have H := HA.out; clear HA; simp only [packhorseref13_One.j1] at H
      by_cases c18 : x29_14 = true
      ·subst c18
       have H1 : (if a0_1 > 0 then (if a0_1 ≤ 1000000000000 then (some (a0_5.toList == ([] : List UInt8))) else (some false)) else (some false)) = some r := by rw [if_pos rfl] at H; exact H
       clear H; have H := H1; clear H1
       by_cases c19 : a0_1 > 0
       ·rw [if_pos c19] at H
        have c19b0 : decide (0 < a0_1) = true := decide_eq_true c19; clear c19
        by_cases c20 : a0_1 ≤ 1000000000000
        ·rw [if_pos c20] at H
         have c20b0 : decide (a0_1 ≤ 1000000000000) = true := decide_eq_true c20; clear c20; obtain rfl := Option.some.inj H; simp only [Option.some.injEq, Prod.mk.injEq] at H; obtain ⟨rfl⟩ := H; obtain ⟨_, _, _, _, _, _⟩ := cells6 BK324.out; obtain ⟨_, _, _, _, _, _⟩ := frozens6 BK324.out
         go_wp2
         go_ret
         exact ⟨ap4, beu HB.out⟩
        ·rw [if_neg c20] at H
         have c20b0 : decide (a0_1 ≤ 1000000000000) = false := decide_eq_false c20; clear c20; obtain rfl := Option.some.inj H; simp only [Option.some.injEq, Prod.mk.injEq] at H; obtain ⟨rfl⟩ := H; obtain ⟨_, _, _, _, _, _⟩ := cells6 BK324.out; obtain ⟨_, _, _, _, _, _⟩ := frozens6 BK324.out
         go_wp2
         go_ret
         exact ⟨ap4, beu HB.out⟩
       ·rw [if_neg c19] at H
        have c19b0 : decide (0 < a0_1) = false := decide_eq_false c19; clear c19; obtain rfl := Option.some.inj H; simp only [Option.some.injEq, Prod.mk.injEq] at H; obtain ⟨rfl⟩ := H; obtain ⟨_, _, _, _, _, _⟩ := cells6 BK324.out; obtain ⟨_, _, _, _, _, _⟩ := frozens6 BK324.out
        go_wp2
        go_ret
        exact ⟨ap4, beu HB.out⟩
      ·replace c18 := Bool.eq_false_iff.mpr c18
       subst c18
       have H1 : (if a0_3 = 1 then (if a0_1 = 0 then ((packhorseref01_Right.f kj14 a0_5).bind fun t326 => (some t326)) else (some false)) else (if a0_3 = 2 then (if a0_1 = 0 then ((packhorseref01_Right.f kj14 a0_5).bind fun t327 => (some t327)) else (some false)) else (if a0_3 = 5 then (if a0_1 = 0 then ((packhorseref01_Right.f kj14 a0_5).bind fun t328 => (some t328)) else (some false)) else (if a0_3 = 6 then (if a0_1 = 0 then ((packhorseref01_Right.f kj14 a0_5).bind fun t329 => (some t329)) else (some false)) else (if a0_3 = 7 then (if a0_1 = 0 then ((packhorseref01_Right.f kj14 a0_5).bind fun t330 => (some t330)) else (some false)) else (some false)))))) = some r := by rw [if_neg (show ¬ (false = true) by decide)] at H; exact H
       clear H; have H := H1; clear H1
       by_cases c24 : a0_3 = 1
       ·rw [if_pos c24] at H
        have c24b0 : (a0_3 == 1) = true := beq_iff_eq.mpr c24; have c24b1 : (a0_3 != 1) = false := bne_eq_false_iff_eq.mpr c24; clear c24
        by_cases c25 : a0_1 = 0
        ·rw [if_pos c25] at H
         have c25b0 : (a0_1 == 0) = true := beq_iff_eq.mpr c25; have c25b1 : (a0_1 != 0) = false := bne_eq_false_iff_eq.mpr c25; clear c25; replace H := obm H; obtain ⟨t326, A260, H⟩ := H; replace H : (some t326) = some r := H; have A26 := am A260; clear A260; obtain rfl := Option.some.inj H; simp only [Option.some.injEq, Prod.mk.injEq] at H; obtain ⟨rfl⟩ := H; obtain ⟨_, _, _, _, _, _⟩ := cells6 BK324.out; obtain ⟨_, _, _, _, _, _⟩ := frozens6 BK324.out
         go_wp2_with (first | (go_at_call 57; (with_reducible refine (packhorseref01_Right.calls kj14 a0_5 t326 _ A26.out).mono ?_); rintro e w28 ⟨rfl, hb⟩; have _ := am (blk_below (bu BK324.out) hb); have _ := am (below_step (beu HB.out) hb); clear BK324 HB; rename_i BK324 HB; (try clear hb)))
         go_ret
         exact ⟨ap4, beu HB.out⟩
        ·rw [if_neg c25] at H
         have c25b0 : (a0_1 == 0) = false := beq_eq_false_iff_ne.mpr c25; have c25b1 : (a0_1 != 0) = true := bne_iff_ne.mpr c25; obtain rfl := Option.some.inj H; simp only [Option.some.injEq, Prod.mk.injEq] at H; obtain ⟨rfl⟩ := H; obtain ⟨_, _, _, _, _, _⟩ := cells6 BK324.out; obtain ⟨_, _, _, _, _, _⟩ := frozens6 BK324.out
         go_wp2
         go_ret
         exact ⟨ap4, beu HB.out⟩
       ·rw [if_neg c24] at H
        have c24b0 : (a0_3 == 1) = false := beq_eq_false_iff_ne.mpr c24; have c24b1 : (a0_3 != 1) = true := bne_iff_ne.mpr c24
        by_cases c30 : a0_3 = 2
        ·rw [if_pos c30] at H
         have c30b0 : (a0_3 == 2) = true := beq_iff_eq.mpr c30; have c30b1 : (a0_3 != 2) = false := bne_eq_false_iff_eq.mpr c30; clear c30
         by_cases c31 : a0_1 = 0
         ·rw [if_pos c31] at H
          have c31b0 : (a0_1 == 0) = true := beq_iff_eq.mpr c31; have c31b1 : (a0_1 != 0) = false := bne_eq_false_iff_eq.mpr c31; clear c31; replace H := obm H; obtain ⟨t327, A320, H⟩ := H; replace H : (some t327) = some r := H; have A32 := am A320; clear A320; obtain rfl := Option.some.inj H; simp only [Option.some.injEq, Prod.mk.injEq] at H; obtain ⟨rfl⟩ := H; obtain ⟨_, _, _, _, _, _⟩ := cells6 BK324.out; obtain ⟨_, _, _, _, _, _⟩ := frozens6 BK324.out
          go_wp2_with (first | (go_at_call 57; (with_reducible refine (packhorseref01_Right.calls kj14 a0_5 t327 _ A32.out).mono ?_); rintro e w34 ⟨rfl, hb⟩; have _ := am (blk_below (bu BK324.out) hb); have _ := am (below_step (beu HB.out) hb); clear BK324 HB; rename_i BK324 HB; (try clear hb)))
          go_ret
          exact ⟨ap4, beu HB.out⟩
         ·rw [if_neg c31] at H
          have c31b0 : (a0_1 == 0) = false := beq_eq_false_iff_ne.mpr c31; have c31b1 : (a0_1 != 0) = true := bne_iff_ne.mpr c31; obtain rfl := Option.some.inj H; simp only [Option.some.injEq, Prod.mk.injEq] at H; obtain ⟨rfl⟩ := H; obtain ⟨_, _, _, _, _, _⟩ := cells6 BK324.out; obtain ⟨_, _, _, _, _, _⟩ := frozens6 BK324.out
          go_wp2
          go_ret
          exact ⟨ap4, beu HB.out⟩
        ·rw [if_neg c30] at H
         have c30b0 : (a0_3 == 2) = false := beq_eq_false_iff_ne.mpr c30; have c30b1 : (a0_3 != 2) = true := bne_iff_ne.mpr c30
         by_cases c36 : a0_3 = 5
         ·rw [if_pos c36] at H
          have c36b0 : (a0_3 == 5) = true := beq_iff_eq.mpr c36; have c36b1 : (a0_3 != 5) = false := bne_eq_false_iff_eq.mpr c36; clear c36
          by_cases c37 : a0_1 = 0
          ·rw [if_pos c37] at H
           have c37b0 : (a0_1 == 0) = true := beq_iff_eq.mpr c37; have c37b1 : (a0_1 != 0) = false := bne_eq_false_iff_eq.mpr c37; clear c37; replace H := obm H; obtain ⟨t328, A380, H⟩ := H; replace H : (some t328) = some r := H; have A38 := am A380; clear A380; obtain rfl := Option.some.inj H; simp only [Option.some.injEq, Prod.mk.injEq] at H; obtain ⟨rfl⟩ := H; obtain ⟨_, _, _, _, _, _⟩ := cells6 BK324.out; obtain ⟨_, _, _, _, _, _⟩ := frozens6 BK324.out
           go_wp2_with (first | (go_at_call 57; (with_reducible refine (packhorseref01_Right.calls kj14 a0_5 t328 _ A38.out).mono ?_); rintro e w40 ⟨rfl, hb⟩; have _ := am (blk_below (bu BK324.out) hb); have _ := am (below_step (beu HB.out) hb); clear BK324 HB; rename_i BK324 HB; (try clear hb)))
           go_ret
           exact ⟨ap4, beu HB.out⟩
          ·rw [if_neg c37] at H
           have c37b0 : (a0_1 == 0) = false := beq_eq_false_iff_ne.mpr c37; have c37b1 : (a0_1 != 0) = true := bne_iff_ne.mpr c37; obtain rfl := Option.some.inj H; simp only [Option.some.injEq, Prod.mk.injEq] at H; obtain ⟨rfl⟩ := H; obtain ⟨_, _, _, _, _, _⟩ := cells6 BK324.out; obtain ⟨_, _, _, _, _, _⟩ := frozens6 BK324.out
           go_wp2
           go_ret
           exact ⟨ap4, beu HB.out⟩
         ·rw [if_neg c36] at H
          have c36b0 : (a0_3 == 5) = false := beq_eq_false_iff_ne.mpr c36; have c36b1 : (a0_3 != 5) = true := bne_iff_ne.mpr c36
          by_cases c42 : a0_3 = 6
          ·rw [if_pos c42] at H
           have c42b0 : (a0_3 == 6) = true := beq_iff_eq.mpr c42; have c42b1 : (a0_3 != 6) = false := bne_eq_false_iff_eq.mpr c42; clear c42
           by_cases c43 : a0_1 = 0
           ·rw [if_pos c43] at H
            have c43b0 : (a0_1 == 0) = true := beq_iff_eq.mpr c43; have c43b1 : (a0_1 != 0) = false := bne_eq_false_iff_eq.mpr c43; clear c43; replace H := obm H; obtain ⟨t329, A440, H⟩ := H; replace H : (some t329) = some r := H; have A44 := am A440; clear A440; obtain rfl := Option.some.inj H; simp only [Option.some.injEq, Prod.mk.injEq] at H; obtain ⟨rfl⟩ := H; obtain ⟨_, _, _, _, _, _⟩ := cells6 BK324.out; obtain ⟨_, _, _, _, _, _⟩ := frozens6 BK324.out
            go_wp2_with (first | (go_at_call 57; (with_reducible refine (packhorseref01_Right.calls kj14 a0_5 t329 _ A44.out).mono ?_); rintro e w46 ⟨rfl, hb⟩; have _ := am (blk_below (bu BK324.out) hb); have _ := am (below_step (beu HB.out) hb); clear BK324 HB; rename_i BK324 HB; (try clear hb)))
            go_ret
            exact ⟨ap4, beu HB.out⟩
           ·rw [if_neg c43] at H
            have c43b0 : (a0_1 == 0) = false := beq_eq_false_iff_ne.mpr c43; have c43b1 : (a0_1 != 0) = true := bne_iff_ne.mpr c43; obtain rfl := Option.some.inj H; simp only [Option.some.injEq, Prod.mk.injEq] at H; obtain ⟨rfl⟩ := H; obtain ⟨_, _, _, _, _, _⟩ := cells6 BK324.out; obtain ⟨_, _, _, _, _, _⟩ := frozens6 BK324.out
            go_wp2
            go_ret
            exact ⟨ap4, beu HB.out⟩
          ·rw [if_neg c42] at H
           have c42b0 : (a0_3 == 6) = false := beq_eq_false_iff_ne.mpr c42; have c42b1 : (a0_3 != 6) = true := bne_iff_ne.mpr c42
           by_cases c48 : a0_3 = 7
           ·rw [if_pos c48] at H
            have c48b0 : (a0_3 == 7) = true := beq_iff_eq.mpr c48; have c48b1 : (a0_3 != 7) = false := bne_eq_false_iff_eq.mpr c48; clear c48
            by_cases c49 : a0_1 = 0
            ·rw [if_pos c49] at H
             have c49b0 : (a0_1 == 0) = true := beq_iff_eq.mpr c49; have c49b1 : (a0_1 != 0) = false := bne_eq_false_iff_eq.mpr c49; clear c49; replace H := obm H; obtain ⟨t330, A500, H⟩ := H; replace H : (some t330) = some r := H; have A50 := am A500; clear A500; obtain rfl := Option.some.inj H; simp only [Option.some.injEq, Prod.mk.injEq] at H; obtain ⟨rfl⟩ := H; obtain ⟨_, _, _, _, _, _⟩ := cells6 BK324.out; obtain ⟨_, _, _, _, _, _⟩ := frozens6 BK324.out
             go_wp2_with (first | (go_at_call 57; (with_reducible refine (packhorseref01_Right.calls kj14 a0_5 t330 _ A50.out).mono ?_); rintro e w52 ⟨rfl, hb⟩; have _ := am (blk_below (bu BK324.out) hb); have _ := am (below_step (beu HB.out) hb); clear BK324 HB; rename_i BK324 HB; (try clear hb)))
             go_ret
             exact ⟨ap4, beu HB.out⟩
            ·rw [if_neg c49] at H
             have c49b0 : (a0_1 == 0) = false := beq_eq_false_iff_ne.mpr c49; have c49b1 : (a0_1 != 0) = true := bne_iff_ne.mpr c49; obtain rfl := Option.some.inj H; simp only [Option.some.injEq, Prod.mk.injEq] at H; obtain ⟨rfl⟩ := H; obtain ⟨_, _, _, _, _, _⟩ := cells6 BK324.out; obtain ⟨_, _, _, _, _, _⟩ := frozens6 BK324.out
             go_wp2
             go_ret
             exact ⟨ap4, beu HB.out⟩
           ·rw [if_neg c48] at H
            have c48b0 : (a0_3 == 7) = false := beq_eq_false_iff_ne.mpr c48; have c48b1 : (a0_3 != 7) = true := bne_iff_ne.mpr c48; obtain rfl := Option.some.inj H; simp only [Option.some.injEq, Prod.mk.injEq] at H; obtain ⟨rfl⟩ := H
            go_wp2
            go_ret
            exact ⟨ap4, beu HB.out⟩
def packhorseref13_Right.l0 : Nat → Int → List (S27) → Int → Int → Option (Bool)
 | 0, _, _, _, _ => none
 | k + 1, x3, x6, x7, x8 => if x8 < x7 then (if 0 ≤ x8 then (if x8 < (x6.length : Int) then ((packhorseref13_One.f k ((rd_T27 x6 x8).f0) ((rd_T27 x6 x8).f1) ((rd_T27 x6 x8).f2) ((rd_T27 x6 x8).f3) ((rd_T27 x6 x8).f4) ((rd_T27 x6 x8).f5)).bind fun t333 => (if t333 = true then (if ((rd_T27 x6 x8).f0) ≤ x3 then (some false) else (packhorseref13_Right.l0 k ((rd_T27 x6 x8).f0) x6 x7 (wrap64 (x8 + 1)))) else (some false))) else (none)) else (none)) else (some true)
def packhorseref13_Right.f (k : Nat) (l0 : List (S27)) : Option (Bool) := packhorseref13_Right.l0 k 0 l0 (l0.length : Int) 0
set_option maxHeartbeats 8000000 in
set_option maxRecDepth 100000 in
theorem packhorseref13_Right.calls (k : Nat) (A0 : Option Addr) (c0 : Nat) (l0 : List (S27)) (r : Bool) (w : World) (hr0 : Kd.C k27 w A0 l0.length l0) (hc0 : l0.length ≤ c0) (h : packhorseref13_Right.f k l0 = some r) :
  Calls Tryd.prog 27 #[.slice A0 l0.length c0] w fun e w' => e = .returned (.bool r) ∧ Below w.heap.size w w' := by
 have hu27 := Tryd.underlying27; have HR0 := am hr0; have HC0 := am hc0; clear hr0 hc0; have HB := am (Below.refl w.heap.size w); have H : (packhorseref13_Right.l0 k 0 l0 (l0.length : Int) 0) = some r := h; clear h; have H' := am H; clear H
 go_enter Tryd.func27, Tryd.ntmps27
 go_wp2
 go_loopg [3, 8] k (fun kq v3 v8 w' => ∃ (x3_1 : Int) (x8_1 : Int), v3 = .int .i64 x3_1 ∧ v8 = .int .i64 x8_1 ∧ Aside0 (packhorseref13_Right.l0 kq x3_1 l0 (l0.length : Int) x8_1 = some r) ∧ Aside0 (kq ≤ k) ∧ Aside0 (Below w.heap.size w w'))
 case atStart => exact ⟨(0), (0), ap3, ap3, H', ⟨Nat.le_refl _⟩, ⟨beu HB.out⟩⟩
 case round =>
  clear H'; obtain ⟨x3_1, x8_1, rfl, rfl, HA, HK1, HB⟩ := hrel
  cases gk with
  | zero => exact absurd HA.out (by simp [packhorseref13_Right.l0])
  | succ k1 =>
   have H := HA.out; clear HA; simp only [packhorseref13_Right.l0] at H
   by_cases c2 : x8_1 < (l0.length : Int)
   ·rw [if_pos c2] at H
    have c2b0 : decide (x8_1 < (l0.length : Int)) = true := decide_eq_true c2; clear c2
    by_cases c3 : 0 ≤ x8_1
    ·rw [if_pos c3] at H
     have c3b0 : decide (0 ≤ x8_1) = true := decide_eq_true c3; clear c3
     by_cases c4 : x8_1 < (l0.length : Int)
     ·rw [if_pos c4] at H
      have c4b0 : decide (x8_1 < (l0.length : Int)) = true := decide_eq_true c4; clear c4; replace H := obm H; obtain ⟨t333, A50, H⟩ := H; replace H : (if t333 = true then (if ((rd_T27 l0 x8_1).f0) ≤ x3_1 then (some false) else (packhorseref13_Right.l0 k1 ((rd_T27 l0 x8_1).f0) l0 (l0.length : Int) (wrap64 (x8_1 + 1)))) else (some false)) = some r := H; have A5 := am A50; clear A50
      by_cases c6 : t333 = true
      ·subst c6
       have H1 : (if ((rd_T27 l0 x8_1).f0) ≤ x3_1 then (some false) else (packhorseref13_Right.l0 k1 ((rd_T27 l0 x8_1).f0) l0 (l0.length : Int) (wrap64 (x8_1 + 1)))) = some r := by rw [if_pos rfl] at H; exact H
       clear H; have H := H1; clear H1
       by_cases c7 : ((rd_T27 l0 x8_1).f0) ≤ x3_1
       ·rw [if_pos c7] at H
        have c7b0 : decide (((rd_T27 l0 x8_1).f0) ≤ x3_1) = true := decide_eq_true c7; clear c7; obtain rfl := Option.some.inj H; simp only [Option.some.injEq, Prod.mk.injEq] at H; obtain ⟨rfl⟩ := H; have p331 : 0 ≤ (x8_1 : Int) := of_decide_eq_true ap2; have q331 : x8_1 < (l0.length : Int) := of_decide_eq_true ap2; obtain ⟨ad331, e331, hx331_0, hx331_1, hx331_2, hx331_3, hx331_4, hx331_5⟩ := at_T27 HR0.out x8_1 p331 q331
        cases e331
        replace hx331_0 := (HB.out.cell (World.block_lt_of_cell? w _ hx331_0)).trans hx331_0; replace hx331_1 := (HB.out.cell (World.block_lt_of_cell? w _ hx331_1)).trans hx331_1; replace hx331_2 := (HB.out.cell (World.block_lt_of_cell? w _ hx331_2)).trans hx331_2; replace hx331_3 := (HB.out.cell (World.block_lt_of_cell? w _ hx331_3)).trans hx331_3; replace hx331_4 := (HB.out.cell (World.block_lt_of_cell? w _ hx331_4)).trans hx331_4; replace hx331_5 := (HB.out.cell (World.block_lt_of_cell? w _ hx331_5)).trans hx331_5; replace p331 := eq_true p331; replace q331 := eq_true q331
        go_wp2_with (first | ((with_reducible refine gate_dst (N := 5) rfl ?_); refine box_event ?hg (N := 5) ?hd (cs := #[.int .i64 0, .int .i64 0, .int .i64 0, .int .i64 0, .int .i64 0, .string ⟨#[]⟩]) (t := 27) ?hr ?_; (case hd => rfl); (case hg => rfl); (case hr => first | (go_simp; done) | (go_simp; rfl)); intro gb332 hg w8 hbox hb; have _ := am (below_step (beu HB.out) hb); have _ := am (hbox); have _ := am ((by rw [hg]; exact (below_size (beu HB.out)) : w.heap.size ≤ gb332)); have _ := am ((by rw [hg]; exact (below_size (beu HB.out)) : w.heap.size ≤ gb332)); clear HB; rename_i HB BK332 GW332 GE332; clear hb hbox hg; obtain ⟨_, _, _, _, _, _⟩ := cells6 BK332.out; obtain ⟨_, _, _, _, _, _⟩ := frozens6 BK332.out) | ((with_reducible refine gate_callee (f := 43) rfl ?_); refine goesL_ (some 13) rfl rfl Tryd.func43 (by kernel_rfl) rfl #[.agg #[.int .i64 ((rd_T27 l0 x8_1).f0), .int .i64 ((rd_T27 l0 x8_1).f1), .int .i64 ((rd_T27 l0 x8_1).f2), .int .i64 ((rd_T27 l0 x8_1).f3), .int .i64 ((rd_T27 l0 x8_1).f4), .string ((rd_T27 l0 x8_1).f5)]] rfl ap1 ?_; (with_reducible refine (packhorseref13_One.calls k1 ((rd_T27 l0 x8_1).f0) ((rd_T27 l0 x8_1).f1) ((rd_T27 l0 x8_1).f2) ((rd_T27 l0 x8_1).f3) ((rd_T27 l0 x8_1).f4) ((rd_T27 l0 x8_1).f5) true _ A5.out).mono ?_); rintro e w10 ⟨rfl, hb⟩; refine ⟨_, rfl, ?_⟩; have _ := am (blk_below (g := gb332) (o := .cells #[.int .i64 ((rd_T27 l0 x8_1).f0), .int .i64 ((rd_T27 l0 x8_1).f1), .int .i64 ((rd_T27 l0 x8_1).f2), .int .i64 ((rd_T27 l0 x8_1).f3), .int .i64 ((rd_T27 l0 x8_1).f4), .string ((rd_T27 l0 x8_1).f5)] 27 (0, 0)) (by refine bu ?_; refine blk_put (cs := #[.int .i64 ((rd_T27 l0 x8_1).f0), .int .i64 ((rd_T27 l0 x8_1).f1), .int .i64 ((rd_T27 l0 x8_1).f2), .int .i64 ((rd_T27 l0 x8_1).f3), .int .i64 ((rd_T27 l0 x8_1).f4), .string ⟨#[]⟩]) ?_ 5 _ rfl; refine bu ?_; refine blk_put (cs := #[.int .i64 ((rd_T27 l0 x8_1).f0), .int .i64 ((rd_T27 l0 x8_1).f1), .int .i64 ((rd_T27 l0 x8_1).f2), .int .i64 ((rd_T27 l0 x8_1).f3), .int .i64 0, .string ⟨#[]⟩]) ?_ 4 _ rfl; refine bu ?_; refine blk_put (cs := #[.int .i64 ((rd_T27 l0 x8_1).f0), .int .i64 ((rd_T27 l0 x8_1).f1), .int .i64 ((rd_T27 l0 x8_1).f2), .int .i64 0, .int .i64 0, .string ⟨#[]⟩]) ?_ 3 _ rfl; refine bu ?_; refine blk_put (cs := #[.int .i64 ((rd_T27 l0 x8_1).f0), .int .i64 ((rd_T27 l0 x8_1).f1), .int .i64 0, .int .i64 0, .int .i64 0, .string ⟨#[]⟩]) ?_ 2 _ rfl; refine bu ?_; refine blk_put (cs := #[.int .i64 ((rd_T27 l0 x8_1).f0), .int .i64 0, .int .i64 0, .int .i64 0, .int .i64 0, .string ⟨#[]⟩]) ?_ 1 _ rfl; refine bu ?_; refine blk_put (cs := #[.int .i64 0, .int .i64 0, .int .i64 0, .int .i64 0, .int .i64 0, .string ⟨#[]⟩]) ?_ 0 _ rfl; refine bu ?_; exact BK332.out) hb); have _ := am (below_step (beu HB.out) hb); clear BK332 HB; rename_i BK332 HB; (try clear hb); obtain ⟨hcz11_0, hcz11_1, hcz11_2, hcz11_3, hcz11_4, hcz11_5⟩ := cells6 BK332.out; obtain ⟨hfz11_0, hfz11_1, hfz11_2, hfz11_3, hfz11_4, hfz11_5⟩ := frozens6 BK332.out))
        go_ret
        exact ⟨ap4, beu HB.out⟩
       ·rw [if_neg c7] at H
        have c7b0 : decide (((rd_T27 l0 x8_1).f0) ≤ x3_1) = false := decide_eq_false c7; clear c7; have H' := am H; clear H; have p331 : 0 ≤ (x8_1 : Int) := of_decide_eq_true ap2; have q331 : x8_1 < (l0.length : Int) := of_decide_eq_true ap2; obtain ⟨ad331, e331, hx331_0, hx331_1, hx331_2, hx331_3, hx331_4, hx331_5⟩ := at_T27 HR0.out x8_1 p331 q331
        cases e331
        replace hx331_0 := (HB.out.cell (World.block_lt_of_cell? w _ hx331_0)).trans hx331_0; replace hx331_1 := (HB.out.cell (World.block_lt_of_cell? w _ hx331_1)).trans hx331_1; replace hx331_2 := (HB.out.cell (World.block_lt_of_cell? w _ hx331_2)).trans hx331_2; replace hx331_3 := (HB.out.cell (World.block_lt_of_cell? w _ hx331_3)).trans hx331_3; replace hx331_4 := (HB.out.cell (World.block_lt_of_cell? w _ hx331_4)).trans hx331_4; replace hx331_5 := (HB.out.cell (World.block_lt_of_cell? w _ hx331_5)).trans hx331_5; replace p331 := eq_true p331; replace q331 := eq_true q331
        go_wp2_with (first | ((with_reducible refine gate_dst (N := 5) rfl ?_); refine box_event ?hg (N := 5) ?hd (cs := #[.int .i64 0, .int .i64 0, .int .i64 0, .int .i64 0, .int .i64 0, .string ⟨#[]⟩]) (t := 27) ?hr ?_; (case hd => rfl); (case hg => rfl); (case hr => first | (go_simp; done) | (go_simp; rfl)); intro gb332 hg w12 hbox hb; have _ := am (below_step (beu HB.out) hb); have _ := am (hbox); have _ := am ((by rw [hg]; exact (below_size (beu HB.out)) : w.heap.size ≤ gb332)); have _ := am ((by rw [hg]; exact (below_size (beu HB.out)) : w.heap.size ≤ gb332)); clear HB; rename_i HB BK332 GW332 GE332; clear hb hbox hg; obtain ⟨hcz13_0, hcz13_1, hcz13_2, hcz13_3, hcz13_4, hcz13_5⟩ := cells6 BK332.out; obtain ⟨hfz13_0, hfz13_1, hfz13_2, hfz13_3, hfz13_4, hfz13_5⟩ := frozens6 BK332.out) | ((with_reducible refine gate_callee (f := 43) rfl ?_); refine goesL_ (some 13) rfl rfl Tryd.func43 (by kernel_rfl) rfl #[.agg #[.int .i64 ((rd_T27 l0 x8_1).f0), .int .i64 ((rd_T27 l0 x8_1).f1), .int .i64 ((rd_T27 l0 x8_1).f2), .int .i64 ((rd_T27 l0 x8_1).f3), .int .i64 ((rd_T27 l0 x8_1).f4), .string ((rd_T27 l0 x8_1).f5)]] rfl ap1 ?_; (with_reducible refine (packhorseref13_One.calls k1 ((rd_T27 l0 x8_1).f0) ((rd_T27 l0 x8_1).f1) ((rd_T27 l0 x8_1).f2) ((rd_T27 l0 x8_1).f3) ((rd_T27 l0 x8_1).f4) ((rd_T27 l0 x8_1).f5) true _ A5.out).mono ?_); rintro e w14 ⟨rfl, hb⟩; refine ⟨_, rfl, ?_⟩; have _ := am (blk_below (g := gb332) (o := .cells #[.int .i64 ((rd_T27 l0 x8_1).f0), .int .i64 ((rd_T27 l0 x8_1).f1), .int .i64 ((rd_T27 l0 x8_1).f2), .int .i64 ((rd_T27 l0 x8_1).f3), .int .i64 ((rd_T27 l0 x8_1).f4), .string ((rd_T27 l0 x8_1).f5)] 27 (0, 0)) (by refine bu ?_; refine blk_put (cs := #[.int .i64 ((rd_T27 l0 x8_1).f0), .int .i64 ((rd_T27 l0 x8_1).f1), .int .i64 ((rd_T27 l0 x8_1).f2), .int .i64 ((rd_T27 l0 x8_1).f3), .int .i64 ((rd_T27 l0 x8_1).f4), .string ⟨#[]⟩]) ?_ 5 _ rfl; refine bu ?_; refine blk_put (cs := #[.int .i64 ((rd_T27 l0 x8_1).f0), .int .i64 ((rd_T27 l0 x8_1).f1), .int .i64 ((rd_T27 l0 x8_1).f2), .int .i64 ((rd_T27 l0 x8_1).f3), .int .i64 0, .string ⟨#[]⟩]) ?_ 4 _ rfl; refine bu ?_; refine blk_put (cs := #[.int .i64 ((rd_T27 l0 x8_1).f0), .int .i64 ((rd_T27 l0 x8_1).f1), .int .i64 ((rd_T27 l0 x8_1).f2), .int .i64 0, .int .i64 0, .string ⟨#[]⟩]) ?_ 3 _ rfl; refine bu ?_; refine blk_put (cs := #[.int .i64 ((rd_T27 l0 x8_1).f0), .int .i64 ((rd_T27 l0 x8_1).f1), .int .i64 0, .int .i64 0, .int .i64 0, .string ⟨#[]⟩]) ?_ 2 _ rfl; refine bu ?_; refine blk_put (cs := #[.int .i64 ((rd_T27 l0 x8_1).f0), .int .i64 0, .int .i64 0, .int .i64 0, .int .i64 0, .string ⟨#[]⟩]) ?_ 1 _ rfl; refine bu ?_; refine blk_put (cs := #[.int .i64 0, .int .i64 0, .int .i64 0, .int .i64 0, .int .i64 0, .string ⟨#[]⟩]) ?_ 0 _ rfl; refine bu ?_; exact BK332.out) hb); have _ := am (below_step (beu HB.out) hb); clear BK332 HB; rename_i BK332 HB; (try clear hb); obtain ⟨_, _, _, _, _, _⟩ := cells6 BK332.out; obtain ⟨_, _, _, _, _, _⟩ := frozens6 BK332.out))
        go_roundg k1
        case measure => have := HK1.out; omega
        case rel => exact ⟨((rd_T27 l0 x8_1).f0), (wrap64 (x8_1 + 1)), ap3, ap3, H', ⟨by have := HK1.out; omega⟩, ⟨beu HB.out⟩⟩
      ·replace c6 := Bool.eq_false_iff.mpr c6
       subst c6
       have H1 : (some false) = some r := by rw [if_neg (show ¬ (false = true) by decide)] at H; exact H
       clear H; have H := H1; clear H1; obtain rfl := Option.some.inj H; simp only [Option.some.injEq, Prod.mk.injEq] at H; obtain ⟨rfl⟩ := H; have p331 : 0 ≤ (x8_1 : Int) := of_decide_eq_true ap2; have q331 : x8_1 < (l0.length : Int) := of_decide_eq_true ap2; obtain ⟨ad331, e331, hx331_0, hx331_1, hx331_2, hx331_3, hx331_4, hx331_5⟩ := at_T27 HR0.out x8_1 p331 q331
       cases e331
       replace hx331_0 := (HB.out.cell (World.block_lt_of_cell? w _ hx331_0)).trans hx331_0; replace hx331_1 := (HB.out.cell (World.block_lt_of_cell? w _ hx331_1)).trans hx331_1; replace hx331_2 := (HB.out.cell (World.block_lt_of_cell? w _ hx331_2)).trans hx331_2; replace hx331_3 := (HB.out.cell (World.block_lt_of_cell? w _ hx331_3)).trans hx331_3; replace hx331_4 := (HB.out.cell (World.block_lt_of_cell? w _ hx331_4)).trans hx331_4; replace hx331_5 := (HB.out.cell (World.block_lt_of_cell? w _ hx331_5)).trans hx331_5; replace p331 := eq_true p331; replace q331 := eq_true q331
       go_wp2_with (first | ((with_reducible refine gate_dst (N := 5) rfl ?_); refine box_event ?hg (N := 5) ?hd (cs := #[.int .i64 0, .int .i64 0, .int .i64 0, .int .i64 0, .int .i64 0, .string ⟨#[]⟩]) (t := 27) ?hr ?_; (case hd => rfl); (case hg => rfl); (case hr => first | (go_simp; done) | (go_simp; rfl)); intro gb332 hg w16 hbox hb; have _ := am (below_step (beu HB.out) hb); have _ := am (hbox); have _ := am ((by rw [hg]; exact (below_size (beu HB.out)) : w.heap.size ≤ gb332)); have _ := am ((by rw [hg]; exact (below_size (beu HB.out)) : w.heap.size ≤ gb332)); clear HB; rename_i HB BK332 GW332 GE332; clear hb hbox hg; obtain ⟨_, _, _, _, _, _⟩ := cells6 BK332.out; obtain ⟨_, _, _, _, _, _⟩ := frozens6 BK332.out) | ((with_reducible refine gate_callee (f := 43) rfl ?_); refine goesL_ (some 13) rfl rfl Tryd.func43 (by kernel_rfl) rfl #[.agg #[.int .i64 ((rd_T27 l0 x8_1).f0), .int .i64 ((rd_T27 l0 x8_1).f1), .int .i64 ((rd_T27 l0 x8_1).f2), .int .i64 ((rd_T27 l0 x8_1).f3), .int .i64 ((rd_T27 l0 x8_1).f4), .string ((rd_T27 l0 x8_1).f5)]] rfl ap1 ?_; (with_reducible refine (packhorseref13_One.calls k1 ((rd_T27 l0 x8_1).f0) ((rd_T27 l0 x8_1).f1) ((rd_T27 l0 x8_1).f2) ((rd_T27 l0 x8_1).f3) ((rd_T27 l0 x8_1).f4) ((rd_T27 l0 x8_1).f5) false _ A5.out).mono ?_); rintro e w18 ⟨rfl, hb⟩; refine ⟨_, rfl, ?_⟩; have _ := am (blk_below (g := gb332) (o := .cells #[.int .i64 ((rd_T27 l0 x8_1).f0), .int .i64 ((rd_T27 l0 x8_1).f1), .int .i64 ((rd_T27 l0 x8_1).f2), .int .i64 ((rd_T27 l0 x8_1).f3), .int .i64 ((rd_T27 l0 x8_1).f4), .string ((rd_T27 l0 x8_1).f5)] 27 (0, 0)) (by refine bu ?_; refine blk_put (cs := #[.int .i64 ((rd_T27 l0 x8_1).f0), .int .i64 ((rd_T27 l0 x8_1).f1), .int .i64 ((rd_T27 l0 x8_1).f2), .int .i64 ((rd_T27 l0 x8_1).f3), .int .i64 ((rd_T27 l0 x8_1).f4), .string ⟨#[]⟩]) ?_ 5 _ rfl; refine bu ?_; refine blk_put (cs := #[.int .i64 ((rd_T27 l0 x8_1).f0), .int .i64 ((rd_T27 l0 x8_1).f1), .int .i64 ((rd_T27 l0 x8_1).f2), .int .i64 ((rd_T27 l0 x8_1).f3), .int .i64 0, .string ⟨#[]⟩]) ?_ 4 _ rfl; refine bu ?_; refine blk_put (cs := #[.int .i64 ((rd_T27 l0 x8_1).f0), .int .i64 ((rd_T27 l0 x8_1).f1), .int .i64 ((rd_T27 l0 x8_1).f2), .int .i64 0, .int .i64 0, .string ⟨#[]⟩]) ?_ 3 _ rfl; refine bu ?_; refine blk_put (cs := #[.int .i64 ((rd_T27 l0 x8_1).f0), .int .i64 ((rd_T27 l0 x8_1).f1), .int .i64 0, .int .i64 0, .int .i64 0, .string ⟨#[]⟩]) ?_ 2 _ rfl; refine bu ?_; refine blk_put (cs := #[.int .i64 ((rd_T27 l0 x8_1).f0), .int .i64 0, .int .i64 0, .int .i64 0, .int .i64 0, .string ⟨#[]⟩]) ?_ 1 _ rfl; refine bu ?_; refine blk_put (cs := #[.int .i64 0, .int .i64 0, .int .i64 0, .int .i64 0, .int .i64 0, .string ⟨#[]⟩]) ?_ 0 _ rfl; refine bu ?_; exact BK332.out) hb); have _ := am (below_step (beu HB.out) hb); clear BK332 HB; rename_i BK332 HB; (try clear hb)))
       go_ret
       exact ⟨ap4, beu HB.out⟩
     ·rw [if_neg c4] at H
      exact absurd H (by simp)
    ·rw [if_neg c3] at H
     exact absurd H (by simp)
   ·rw [if_neg c2] at H
    have c2b0 : decide (x8_1 < (l0.length : Int)) = false := decide_eq_false c2; clear c2; obtain rfl := Option.some.inj H; simp only [Option.some.injEq, Prod.mk.injEq] at H; obtain ⟨rfl⟩ := H
    go_wp2
    go_ret
    exact ⟨ap4, beu HB.out⟩
mutual
def packhorseref06_Take.l0 : Nat → List Int → Int → Int → Int → Int → Option (Int × Int)
 | 0, _, _, _, _, _ => none
 | k + 1, x0, x1, x6, x7, x8 => if x8 < (x0.length : Int) then (if 0 ≤ x8 then (if x8 = 9 then (if (rd x0 x8) > 1 then (packhorseref06_Take.j1 k x0 x1 x6 x7 x8 (IntKind.u64.wrap (Int.tmod (rd x0 x8) 128)) true) else (if x8 > 9 then (packhorseref06_Take.j1 k x0 x1 x6 x7 x8 (IntKind.u64.wrap (Int.tmod (rd x0 x8) 128)) true) else (if (rd x0 x8) = 0 then (packhorseref06_Take.j1 k x0 x1 x6 x7 x8 (IntKind.u64.wrap (Int.tmod (rd x0 x8) 128)) (decide (x8 > 0))) else (packhorseref06_Take.j1 k x0 x1 x6 x7 x8 (IntKind.u64.wrap (Int.tmod (rd x0 x8) 128)) false)))) else (if x8 > 9 then (packhorseref06_Take.j1 k x0 x1 x6 x7 x8 (IntKind.u64.wrap (Int.tmod (rd x0 x8) 128)) true) else (if (rd x0 x8) = 0 then (packhorseref06_Take.j1 k x0 x1 x6 x7 x8 (IntKind.u64.wrap (Int.tmod (rd x0 x8) 128)) (decide (x8 > 0))) else (packhorseref06_Take.j1 k x0 x1 x6 x7 x8 (IntKind.u64.wrap (Int.tmod (rd x0 x8) 128)) false)))) else (none)) else (some (0, 0))
def packhorseref06_Take.j1 : Nat → List Int → Int → Int → Int → Int → Int → Bool → Option (Int × Int)
 | 0, _, _, _, _, _, _, _ => none
 | k + 1, x0, x1, x6, x7, x8, x9, x45 => if x45 = true then (some (0, (-1))) else (if (IntKind.u64.wrap (x6 + (IntKind.u64.wrap (x9 * x7)))) > x1 then (some (0, (-1))) else (if 0 ≤ x8 then (if x8 < (x0.length : Int) then (if (rd x0 x8) < 128 then (some (IntKind.u64.wrap (x6 + (IntKind.u64.wrap (x9 * x7))), wrap64 (x8 + 1))) else (if (IntKind.u64.wrap (x1 - (IntKind.u64.wrap (x6 + (IntKind.u64.wrap (x9 * x7)))))) < (IntKind.u64.wrap (x7 * 128)) then (some (0, (-1))) else (packhorseref06_Take.l0 k x0 x1 (IntKind.u64.wrap (x6 + (IntKind.u64.wrap (x9 * x7)))) (IntKind.u64.wrap (x7 * 128)) (wrap64 (x8 + 1))))) else (none)) else (none)))
end
def packhorseref06_Take.f (k : Nat) (l0 : List Int) (a1 : Int) : Option (Int × Int) := packhorseref06_Take.l0 k l0 a1 0 1 0
set_option maxHeartbeats 8000000 in
set_option maxRecDepth 100000 in
theorem packhorseref06_Take.calls (k : Nat) (A0 : Option Addr) (c0 : Nat) (l0 : List Int) (a1 : Int) (r1 : Int) (r2 : Int) (w : World) (hr0 : Kd.C (Kd.int .u8) w A0 l0.length l0) (hc0 : l0.length ≤ c0) (h : packhorseref06_Take.f k l0 a1 = some (r1, r2)) :
  Calls Tryd.prog 56 #[.slice A0 l0.length c0, .int .u64 a1] w fun e w' => e = .returned (.tuple #[.int .u64 r1, .int .i64 r2]) ∧ Drawn0 w w' := by
 have HR0 := am hr0; have HC0 := am hc0; clear hr0 hc0; have H : (packhorseref06_Take.l0 k l0 a1 0 1 0) = some (r1, r2) := h; clear h; have H' := am H; clear H
 go_enter Tryd.func56, Tryd.ntmps56
 go_wp2
 go_loopg [6, 7, 8] k (fun kq v6 v7 v8 w' => ∃ (x6_1 : Int) (x7_1 : Int) (x8_1 : Int), v6 = .int .u64 x6_1 ∧ v7 = .int .u64 x7_1 ∧ v8 = .int .i64 x8_1 ∧ Aside0 (packhorseref06_Take.l0 kq l0 a1 x6_1 x7_1 x8_1 = some (r1, r2)) ∧ Aside0 (kq ≤ k) ∧ Drawn0 w w')
 case atStart => exact ⟨(0), (1), (0), ap3, ap3, ap3, H', ⟨Nat.le_refl _⟩, ap5⟩
 case round =>
  clear H'; (try clear p2); obtain ⟨x6_1, x7_1, x8_1, rfl, rfl, rfl, HA, HK1, ⟨m1, rfl⟩⟩ := hrel
  cases gk with
  | zero => exact absurd HA.out (by simp [packhorseref06_Take.l0])
  | succ k1 =>
   have H := HA.out; clear HA; simp only [packhorseref06_Take.l0] at H
   by_cases c3 : x8_1 < (l0.length : Int)
   ·rw [if_pos c3] at H
    have c3b0 : decide (x8_1 < (l0.length : Int)) = true := decide_eq_true c3; clear c3
    by_cases c4 : 0 ≤ x8_1
    ·rw [if_pos c4] at H
     have c4b0 : decide (0 ≤ x8_1) = true := decide_eq_true c4; clear c4; have HC5 := am H; clear H; have p334 : 0 ≤ (x8_1 : Int) := of_decide_eq_true ap2; have q334 : x8_1 < (l0.length : Int) := of_decide_eq_true ap2; obtain ⟨ad334, e334, hx334_0⟩ := Kd.at_int HR0.out x8_1 p334 q334
     cases e334
     replace p334 := eq_true p334; replace q334 := eq_true q334
     go_upto_region 6 with (fail)
     go_cut [45] (fun v45 wc => ∃ (kq : Nat) (x45_4 : Bool), v45 = .bool x45_4 ∧ Aside0 (packhorseref06_Take.j1 kq l0 a1 x6_1 x7_1 x8_1 (IntKind.u64.wrap (Int.tmod (rd l0 x8_1) 128)) x45_4 = some (r1, r2)) ∧ Aside0 (kq ≤ k1) ∧ Drawn0 w wc)
     case first =>
      have H := HC5.out; clear HC5
      by_cases c6 : x8_1 = 9
      ·rw [if_pos c6] at H
       have c6b0 : (x8_1 == 9) = true := beq_iff_eq.mpr c6; have c6b1 : (x8_1 != 9) = false := bne_eq_false_iff_eq.mpr c6; clear c6
       (first | rw [c6b0] | (simp only [i64_w, i32_w]; rw [c6b0]) | skip)
       by_cases c7 : (rd l0 x8_1) > 1
       ·rw [if_pos c7] at H
        have c7b0 : decide (1 < (rd l0 x8_1)) = true := decide_eq_true c7; clear c7; have H' := am H; clear H; have p335 : 0 ≤ (x8_1 : Int) := of_decide_eq_true ap2; have q335 : x8_1 < (l0.length : Int) := of_decide_eq_true ap2; obtain ⟨ad335, e335, hx335_0⟩ := Kd.at_int HR0.out x8_1 p335 q335; obtain rfl : ad334 = ad335 := (by injection e335); replace p335 := eq_true p335; replace q335 := eq_true q335
        go_wp2
        go_meet
        case rel => exact ⟨_, (true), ap3, H', ⟨by have := HK1.out; first | omega | exact Nat.le_refl _⟩, ap5⟩
       ·rw [if_neg c7] at H
        have c7b0 : decide (1 < (rd l0 x8_1)) = false := decide_eq_false c7; clear c7
        by_cases c8 : x8_1 > 9
        ·rw [if_pos c8] at H
         have c8b0 : decide (9 < x8_1) = true := decide_eq_true c8; clear c8; have H' := am H; clear H; have p335 : 0 ≤ (x8_1 : Int) := of_decide_eq_true ap2; have q335 : x8_1 < (l0.length : Int) := of_decide_eq_true ap2; obtain ⟨ad335, e335, hx335_0⟩ := Kd.at_int HR0.out x8_1 p335 q335; obtain rfl : ad334 = ad335 := (by injection e335); replace p335 := eq_true p335; replace q335 := eq_true q335
         go_wp2
         go_meet
         case rel => exact ⟨_, (true), ap3, H', ⟨by have := HK1.out; first | omega | exact Nat.le_refl _⟩, ap5⟩
        ·rw [if_neg c8] at H
         have c8b0 : decide (9 < x8_1) = false := decide_eq_false c8; clear c8
         by_cases c9 : (rd l0 x8_1) = 0
         ·rw [if_pos c9] at H
          have c9b0 : ((rd l0 x8_1) == 0) = true := beq_iff_eq.mpr c9; have c9b1 : ((rd l0 x8_1) != 0) = false := bne_eq_false_iff_eq.mpr c9; clear c9; have H' := am H; clear H; have p335 : 0 ≤ (x8_1 : Int) := of_decide_eq_true ap2; have q335 : x8_1 < (l0.length : Int) := of_decide_eq_true ap2; obtain ⟨ad335, e335, hx335_0⟩ := Kd.at_int HR0.out x8_1 p335 q335; obtain rfl : ad334 = ad335 := (by injection e335); replace p335 := eq_true p335; replace q335 := eq_true q335; have p336 : 0 ≤ (x8_1 : Int) := of_decide_eq_true ap2; have q336 : x8_1 < (l0.length : Int) := of_decide_eq_true ap2; obtain ⟨ad336, e336, hx336_0⟩ := Kd.at_int HR0.out x8_1 p336 q336; obtain rfl : ad334 = ad336 := (by injection e336); replace p336 := eq_true p336; replace q336 := eq_true q336
          go_wp2
          go_meet
          case rel => exact ⟨_, (decide (x8_1 > 0)), ap3, H', ⟨by have := HK1.out; first | omega | exact Nat.le_refl _⟩, ap5⟩
         ·rw [if_neg c9] at H
          have c9b0 : ((rd l0 x8_1) == 0) = false := beq_eq_false_iff_ne.mpr c9; have c9b1 : ((rd l0 x8_1) != 0) = true := bne_iff_ne.mpr c9; have H' := am H; clear H; have p335 : 0 ≤ (x8_1 : Int) := of_decide_eq_true ap2; have q335 : x8_1 < (l0.length : Int) := of_decide_eq_true ap2; obtain ⟨ad335, e335, hx335_0⟩ := Kd.at_int HR0.out x8_1 p335 q335; obtain rfl : ad334 = ad335 := (by injection e335); replace p335 := eq_true p335; replace q335 := eq_true q335; have p336 : 0 ≤ (x8_1 : Int) := of_decide_eq_true ap2; have q336 : x8_1 < (l0.length : Int) := of_decide_eq_true ap2; obtain ⟨ad336, e336, hx336_0⟩ := Kd.at_int HR0.out x8_1 p336 q336; obtain rfl : ad334 = ad336 := (by injection e336); replace p336 := eq_true p336; replace q336 := eq_true q336
          go_wp2
          go_meet
          case rel => exact ⟨_, (false), ap3, H', ⟨by have := HK1.out; first | omega | exact Nat.le_refl _⟩, ap5⟩
      ·rw [if_neg c6] at H
       have c6b0 : (x8_1 == 9) = false := beq_eq_false_iff_ne.mpr c6; have c6b1 : (x8_1 != 9) = true := bne_iff_ne.mpr c6
       (first | rw [c6b0] | (simp only [i64_w, i32_w]; rw [c6b0]) | skip)
       by_cases c10 : x8_1 > 9
       ·rw [if_pos c10] at H
        have c10b0 : decide (9 < x8_1) = true := decide_eq_true c10; clear c10; have H' := am H; clear H
        go_wp2
        go_meet
        case rel => exact ⟨_, (true), ap3, H', ⟨by have := HK1.out; first | omega | exact Nat.le_refl _⟩, ap5⟩
       ·rw [if_neg c10] at H
        have c10b0 : decide (9 < x8_1) = false := decide_eq_false c10; clear c10
        by_cases c11 : (rd l0 x8_1) = 0
        ·rw [if_pos c11] at H
         have c11b0 : ((rd l0 x8_1) == 0) = true := beq_iff_eq.mpr c11; have c11b1 : ((rd l0 x8_1) != 0) = false := bne_eq_false_iff_eq.mpr c11; clear c11; have H' := am H; clear H; have p337 : 0 ≤ (x8_1 : Int) := of_decide_eq_true ap2; have q337 : x8_1 < (l0.length : Int) := of_decide_eq_true ap2; obtain ⟨ad337, e337, hx337_0⟩ := Kd.at_int HR0.out x8_1 p337 q337; obtain rfl : ad334 = ad337 := (by injection e337); replace p337 := eq_true p337; replace q337 := eq_true q337
         go_wp2
         go_meet
         case rel => exact ⟨_, (decide (x8_1 > 0)), ap3, H', ⟨by have := HK1.out; first | omega | exact Nat.le_refl _⟩, ap5⟩
        ·rw [if_neg c11] at H
         have c11b0 : ((rd l0 x8_1) == 0) = false := beq_eq_false_iff_ne.mpr c11; have c11b1 : ((rd l0 x8_1) != 0) = true := bne_iff_ne.mpr c11; have H' := am H; clear H; have p337 : 0 ≤ (x8_1 : Int) := of_decide_eq_true ap2; have q337 : x8_1 < (l0.length : Int) := of_decide_eq_true ap2; obtain ⟨ad337, e337, hx337_0⟩ := Kd.at_int HR0.out x8_1 p337 q337; obtain rfl : ad334 = ad337 := (by injection e337); replace p337 := eq_true p337; replace q337 := eq_true q337
         go_wp2
         go_meet
         case rel => exact ⟨_, (false), ap3, H', ⟨by have := HK1.out; first | omega | exact Nat.le_refl _⟩, ap5⟩
     case rest =>
      clear HC5; (try clear c1); (try clear p2); (try clear c3); (try clear c3b0); (try clear p3); (try clear q3); (try clear hx3); (try clear c4); (try clear c4b0); (try clear c5); (try clear c6); (try clear c6b0); (try clear c6b1); (try clear c7); (try clear c7b0); (try clear c8); (try clear c8b0); (try clear c9); (try clear c9b0); (try clear c9b1); (try clear c10); (try clear c10b0); (try clear c11); (try clear c11b0); (try clear c11b1); (try clear hx334_0); (try clear hx335_0); (try clear hx336_0); (try clear hx337_0); (try clear p2); (try clear p334); (try clear p335); (try clear p336); (try clear p337); (try clear q334); (try clear q335); (try clear q336); (try clear q337); obtain ⟨kq, x45_4, rfl, HA, HJ4, ⟨mc4, rfl⟩⟩ := hcut
      cases kq with
      | zero => exact absurd HA.out (by simp [packhorseref06_Take.j1])
      | succ kj4 =>
       have H := HA.out; clear HA; simp only [packhorseref06_Take.j1] at H
       by_cases c12 : x45_4 = true
       ·subst c12
        have H1 : (some (0, (-1))) = some (r1, r2) := by rw [if_pos rfl] at H; exact H
        clear H; have H := H1; clear H1; simp only [Option.some.injEq, Prod.mk.injEq] at H; obtain ⟨rfl, rfl⟩ := H
        go_wp2
        go_ret2
        exact ⟨ap3, ap5⟩
       ·replace c12 := Bool.eq_false_iff.mpr c12
        subst c12
        have H1 : (if (IntKind.u64.wrap (x6_1 + (IntKind.u64.wrap ((IntKind.u64.wrap (Int.tmod (rd l0 x8_1) 128)) * x7_1)))) > a1 then (some (0, (-1))) else (if 0 ≤ x8_1 then (if x8_1 < (l0.length : Int) then (if (rd l0 x8_1) < 128 then (some (IntKind.u64.wrap (x6_1 + (IntKind.u64.wrap ((IntKind.u64.wrap (Int.tmod (rd l0 x8_1) 128)) * x7_1))), wrap64 (x8_1 + 1))) else (if (IntKind.u64.wrap (a1 - (IntKind.u64.wrap (x6_1 + (IntKind.u64.wrap ((IntKind.u64.wrap (Int.tmod (rd l0 x8_1) 128)) * x7_1)))))) < (IntKind.u64.wrap (x7_1 * 128)) then (some (0, (-1))) else (packhorseref06_Take.l0 kj4 l0 a1 (IntKind.u64.wrap (x6_1 + (IntKind.u64.wrap ((IntKind.u64.wrap (Int.tmod (rd l0 x8_1) 128)) * x7_1)))) (IntKind.u64.wrap (x7_1 * 128)) (wrap64 (x8_1 + 1))))) else (none)) else (none))) = some (r1, r2) := by rw [if_neg (show ¬ (false = true) by decide)] at H; exact H
        clear H; have H := H1; clear H1
        by_cases c13 : (IntKind.u64.wrap (x6_1 + (IntKind.u64.wrap ((IntKind.u64.wrap (Int.tmod (rd l0 x8_1) 128)) * x7_1)))) > a1
        ·rw [if_pos c13] at H
         have c13b0 : decide (a1 < (IntKind.u64.wrap (x6_1 + (IntKind.u64.wrap ((IntKind.u64.wrap (Int.tmod (rd l0 x8_1) 128)) * x7_1))))) = true := decide_eq_true c13; clear c13; simp only [Option.some.injEq, Prod.mk.injEq] at H; obtain ⟨rfl, rfl⟩ := H
         go_wp2
         go_ret2
         exact ⟨ap3, ap5⟩
        ·rw [if_neg c13] at H
         have c13b0 : decide (a1 < (IntKind.u64.wrap (x6_1 + (IntKind.u64.wrap ((IntKind.u64.wrap (Int.tmod (rd l0 x8_1) 128)) * x7_1))))) = false := decide_eq_false c13; clear c13
         by_cases c14 : 0 ≤ x8_1
         ·rw [if_pos c14] at H
          have c14b0 : decide (0 ≤ x8_1) = true := decide_eq_true c14; clear c14
          by_cases c15 : x8_1 < (l0.length : Int)
          ·rw [if_pos c15] at H
           have c15b0 : decide (x8_1 < (l0.length : Int)) = true := decide_eq_true c15; clear c15
           by_cases c16 : (rd l0 x8_1) < 128
           ·rw [if_pos c16] at H
            have c16b0 : decide ((rd l0 x8_1) < 128) = true := decide_eq_true c16; clear c16; simp only [Option.some.injEq, Prod.mk.injEq] at H; obtain ⟨rfl, rfl⟩ := H; have p338 : 0 ≤ (x8_1 : Int) := of_decide_eq_true ap2; have q338 : x8_1 < (l0.length : Int) := of_decide_eq_true ap2; obtain ⟨ad338, e338, hx338_0⟩ := Kd.at_int HR0.out x8_1 p338 q338; obtain rfl : ad334 = ad338 := (by injection e338); replace p338 := eq_true p338; replace q338 := eq_true q338
            go_wp2
            go_ret2
            exact ⟨ap3, ap5⟩
           ·rw [if_neg c16] at H
            have c16b0 : decide ((rd l0 x8_1) < 128) = false := decide_eq_false c16; clear c16
            by_cases c17 : (IntKind.u64.wrap (a1 - (IntKind.u64.wrap (x6_1 + (IntKind.u64.wrap ((IntKind.u64.wrap (Int.tmod (rd l0 x8_1) 128)) * x7_1)))))) < (IntKind.u64.wrap (x7_1 * 128))
            ·rw [if_pos c17] at H
             have c17b0 : decide ((IntKind.u64.wrap (a1 - (IntKind.u64.wrap (x6_1 + (IntKind.u64.wrap ((IntKind.u64.wrap (Int.tmod (rd l0 x8_1) 128)) * x7_1)))))) < (IntKind.u64.wrap (x7_1 * 128))) = true := decide_eq_true c17; clear c17; simp only [Option.some.injEq, Prod.mk.injEq] at H; obtain ⟨rfl, rfl⟩ := H; have p338 : 0 ≤ (x8_1 : Int) := of_decide_eq_true ap2; have q338 : x8_1 < (l0.length : Int) := of_decide_eq_true ap2; obtain ⟨ad338, e338, hx338_0⟩ := Kd.at_int HR0.out x8_1 p338 q338; obtain rfl : ad334 = ad338 := (by injection e338); replace p338 := eq_true p338; replace q338 := eq_true q338
             go_wp2
             go_ret2
             exact ⟨ap3, ap5⟩
            ·rw [if_neg c17] at H
             have c17b0 : decide ((IntKind.u64.wrap (a1 - (IntKind.u64.wrap (x6_1 + (IntKind.u64.wrap ((IntKind.u64.wrap (Int.tmod (rd l0 x8_1) 128)) * x7_1)))))) < (IntKind.u64.wrap (x7_1 * 128))) = false := decide_eq_false c17; clear c17; have H' := am H; clear H; have p338 : 0 ≤ (x8_1 : Int) := of_decide_eq_true ap2; have q338 : x8_1 < (l0.length : Int) := of_decide_eq_true ap2; obtain ⟨ad338, e338, hx338_0⟩ := Kd.at_int HR0.out x8_1 p338 q338; obtain rfl : ad334 = ad338 := (by injection e338); replace p338 := eq_true p338; replace q338 := eq_true q338
             go_wp2
             go_roundg kj4
             case measure => have := HK1.out; have := HJ4.out; omega
             case rel => exact ⟨(IntKind.u64.wrap (x6_1 + (IntKind.u64.wrap ((IntKind.u64.wrap (Int.tmod (rd l0 x8_1) 128)) * x7_1)))), (IntKind.u64.wrap (x7_1 * 128)), (wrap64 (x8_1 + 1)), ap3, ap3, ap3, H', ⟨by have := HK1.out; have := HJ4.out; omega⟩, ap5⟩
          ·rw [if_neg c15] at H
           exact absurd H (by simp)
         ·rw [if_neg c14] at H
          exact absurd H (by simp)
    ·rw [if_neg c4] at H
     exact absurd H (by simp)
   ·rw [if_neg c3] at H
    have c3b0 : decide (x8_1 < (l0.length : Int)) = false := decide_eq_false c3; clear c3; simp only [Option.some.injEq, Prod.mk.injEq] at H; obtain ⟨rfl, rfl⟩ := H
    go_wp2
    go_ret2
    exact ⟨ap3, ap5⟩
def IsS57 (w0 W : World) (g : Nat) (f0 : List Int) (f1 : Bool) : Prop := ∃ A0 c0, W.heap[g]? = some (.cells #[.slice A0 f0.length c0, .bool f1] 57 (0, 0)) ∧ w0.heap.size ≤ g ∧ (Kd.C (Kd.int .u8) w0 A0 f0.length f0 ∧ f0.length ≤ c0)
theorem IsS57.grown {w0 W : World} {g : Nat} {f0 : List Int} {f1 : Bool} {W1 : World} {row : Option Nat} (h : IsS57 w0 W g f0 f1) (hw : W.grownBy W1 row) (hne : some g ≠ row) : IsS57 w0 W1 g f0 f1 := by
 obtain ⟨A0, c0, hb, hg, hr0⟩ := h; exact ⟨A0, c0, blk_grown hb hw hne, hg, hr0⟩
theorem IsS57.below {w0 W : World} {g : Nat} {f0 : List Int} {f1 : Bool} {W1 : World} (h : IsS57 w0 W g f0 f1) (hw : Below W.heap.size W W1) : IsS57 w0 W1 g f0 f1 := h.grown (grown_of_below hw none) (by simp)
theorem IsS57.alloc {w0 W : World} {g : Nat} {f0 : List Int} {f1 : Bool} (h : IsS57 w0 W g f0 f1) (o : Obj) : IsS57 w0 (W.alloc o) g f0 f1 := h.below (below_alloc (Below.refl _ _) o)
theorem IsS57.drewN {w0 W : World} {g : Nat} {f0 : List Int} {f1 : Bool} (h : IsS57 w0 W g f0 f1) (m : Nat) : IsS57 w0 (W.drewN m) g f0 f1 := h
theorem IsS57.drew {w0 W : World} {g : Nat} {f0 : List Int} {f1 : Bool} (h : IsS57 w0 W g f0 f1) : IsS57 w0 W.drew g f0 f1 := h
theorem IsS57.apart {w0 W : World} {g : Nat} {f0 : List Int} {f1 : Bool} {α : Type} {d : Kd α} {e : Nat} {base : Nat} {ok : Nat → Prop} {v : Value} {xs : List α} (h : IsS57 w0 W g f0 f1) (ho : d.R e W base ok v xs) (ht : ∀ q, q ∈ e :: d.E → q ≠ 57) : d.R e W base (fun k => ok k ∧ k ≠ g) v xs := by
 obtain ⟨A0, c0, hb, hg, hr0⟩ := h; exact Kd.R_types ho hb ht
theorem IsS57.own_ne {w0 W : World} {g : Nat} {f0 : List Int} {f1 : Bool} {α : Type} {d : Kd α} {e : Nat} {base : Nat} {ok : Nat → Prop} {v : Value} {xs : List α} (h : IsS57 w0 W g f0 f1) (ho : d.R e W base ok v xs) (ht : e ≠ 57) : some g ≠ v.ownBlock := by
 obtain ⟨A0, c0, hb, hg, hr0⟩ := h; exact Kd.R_ne ho hb ht
theorem IsS57.lt {w0 W : World} {g : Nat} {f0 : List Int} {f1 : Bool} (h : IsS57 w0 W g f0 f1) : g < W.heap.size := by
 obtain ⟨A0, c0, hb, hg, hr0⟩ := h; exact blk_lt hb
theorem IsS57.ge {w0 W : World} {g : Nat} {f0 : List Int} {f1 : Bool} (h : IsS57 w0 W g f0 f1) : w0.heap.size ≤ g := by
 obtain ⟨A0, c0, hb, hg, hr0⟩ := h; exact hg
theorem IsS57.far {w0 W : World} {g : Nat} {f0 : List Int} {f1 : Bool} {p : Addr} (h : IsS57 w0 W g f0 f1) (hne : g ≠ p.block) (u : Value) : IsS57 w0 (W.setCell p u) g f0 f1 := by
 obtain ⟨A0, c0, hb, hg, hr0⟩ := h; exact ⟨A0, c0, blk_far hb hne u, hg, hr0⟩
theorem cellS57_0 {W : World} {g : Nat} {A0 : Option Addr} {c0 : Nat} {f0 : List Int} {f1 : Bool} (h : W.heap[g]? = some (.cells #[.slice A0 f0.length c0, .bool f1] 57 (0, 0))) : W.cell? ⟨g, 0, none⟩ = some (.slice A0 f0.length c0) := (blk_cell h 0).trans rfl
theorem cellS57_1 {W : World} {g : Nat} {A0 : Option Addr} {c0 : Nat} {f0 : List Int} {f1 : Bool} (h : W.heap[g]? = some (.cells #[.slice A0 f0.length c0, .bool f1] 57 (0, 0))) : W.cell? ⟨g, 1, none⟩ = some (.bool f1) := (blk_cell h 1).trans rfl
theorem IsS57.set_1 {w0 W : World} {g : Nat} {f0 : List Int} {f1 : Bool} (h : IsS57 w0 W g f0 f1) (x : Bool) : IsS57 w0 (W.setCell ⟨g, 1, none⟩ (.bool x)) g f0 x := by
 obtain ⟨A0, c0, hb, hg, hr0⟩ := h; exact ⟨A0, c0, by simpa using blk_set hb 1 (.bool x), hg, hr0⟩
theorem IsS57.u {w0 w W : World} {g : Nat} {f0 : List Int} {f1 : Bool} {f0' : List Int} {f1' : Bool} (h : IsS57 w0 w g f0 f1) (hu : IsS57 w0 w g f0 f1 → IsS57 w0 W g f0' f1' := by intro h_; (repeat (first | (with_reducible first | exact h_ | apply IsS57.alloc | apply IsS57.drewN | apply IsS57.drew | apply IsS57.set_1) | refine IsS57.far ?_ (Aside0.out (by assumption)) _ | exact h_)); first | done | fail) : IsS57 w0 W g f0' f1' := hu h
theorem below_keepJ57 {B1 g : Nat} {u v W W' : World} (h : Below u.heap.size u W) (h1 : Below B1 v W) (h2 : Below B1 v W') (hk : KeepBut W W' g none) (hg : u.heap.size ≤ g) : Below u.heap.size u W' :=
 ⟨h2.os.trans (h1.os.symm.trans h.os), h2.tape.trans (h1.tape.symm.trans h.tape), h2.output.trans (h1.output.symm.trans h.output), Nat.le_trans h.size hk.1, fun k hlt => (hk.2 k (Nat.lt_of_lt_of_le hlt h.size) (by omega) (by simp)).trans (h.block k hlt)⟩
def JS57 (w0 W : World) (g : Nat) (f0 : List Int) (f1 : Bool) : Prop := ∃ wS : World, IsS57 wS W g f0 f1 ∧ Below wS.heap.size wS W ∧ Below w0.heap.size w0 wS
theorem JS57.below {w0 W : World} {g : Nat} {f0 : List Int} {f1 : Bool} {W1 : World} (h : JS57 w0 W g f0 f1) (hw : Below W.heap.size W W1) : JS57 w0 W1 g f0 f1 := by
 obtain ⟨wS, h1, h2, h3⟩ := h; exact ⟨wS, h1.below hw, below_then h2 h2.size hw, h3⟩
theorem JS57.alloc {w0 W : World} {g : Nat} {f0 : List Int} {f1 : Bool} (h : JS57 w0 W g f0 f1) (o : Obj) : JS57 w0 (W.alloc o) g f0 f1 := h.below (below_alloc (Below.refl _ _) o)
theorem JS57.drewN {w0 W : World} {g : Nat} {f0 : List Int} {f1 : Bool} (h : JS57 w0 W g f0 f1) (m : Nat) : JS57 w0 (W.drewN m) g f0 f1 := h.below (pw_below_drewN (Below.refl _ _) m)
theorem JS57.drew {w0 W : World} {g : Nat} {f0 : List Int} {f1 : Bool} (h : JS57 w0 W g f0 f1) : JS57 w0 W.drew g f0 f1 := h.below (below_drew (Below.refl _ _))
theorem JS57.far {w0 W : World} {g : Nat} {f0 : List Int} {f1 : Bool} {p : Addr} (h : JS57 w0 W g f0 f1) (hlt : g < p.block) (u : Value) : JS57 w0 (W.setCell p u) g f0 f1 := by
 obtain ⟨wS, h1, h2, h3⟩ := h; exact ⟨wS, h1.far (Nat.ne_of_lt hlt) u, h2.setCell (Nat.le_trans (IsS57.ge h1) (Nat.le_of_lt hlt)) u, h3⟩
theorem JS57.u {w0 w W : World} {g : Nat} {f0 : List Int} {f1 : Bool} {f0' : List Int} {f1' : Bool} (h : JS57 w0 w g f0 f1) (hu : JS57 w0 w g f0 f1 → JS57 w0 W g f0' f1' := by intro h_; (repeat (first | (with_reducible first | exact h_ | apply JS57.alloc | apply JS57.drewN | apply JS57.drew) | refine JS57.far ?_ (Aside0.out (by assumption)) _ | exact h_)); first | done | fail) : JS57 w0 W g f0' f1' := hu h
theorem JS57.apart {w0 W : World} {g : Nat} {f0 : List Int} {f1 : Bool} {α : Type} {d : Kd α} {e : Nat} {base : Nat} {ok : Nat → Prop} {v : Value} {xs : List α} (h : JS57 w0 W g f0 f1) (ho : d.R e W base ok v xs) (ht : ∀ q, q ∈ e :: d.E → q ≠ 57) : d.R e W base (fun k => ok k ∧ k ≠ g) v xs := by
 obtain ⟨wS, h1, h2, h3⟩ := h; exact h1.apart ho ht
theorem JS57.ge {w0 W : World} {g : Nat} {f0 : List Int} {f1 : Bool} (h : JS57 w0 W g f0 f1) : w0.heap.size ≤ g := by
 obtain ⟨wS, h1, h2, h3⟩ := h; exact Nat.le_trans h3.size h1.ge
def packhorseref10_Scan_Number.f (k : Nat) (s0_0 : List Int) (s0_1 : Bool) (a1 : Int) : Option (Int × List Int × Bool) := (packhorseref06_Take.f k s0_0 a1).bind fun p => if s0_1 = false then some (0, s0_0, false) else if p.2 ≤ 0 then some (0, s0_0, false) else if p.2 ≤ (s0_0.length : Int) then some (wrap64 p.1, s0_0.drop p.2.toNat, true) else none
theorem IsS57.cut {w0 W : World} {g : Nat} {f0 : List Int} {f1 : Bool} (h : IsS57 w0 W g f0 f1) (A' : Option Addr) (c' : Nat) (f0' : List Int) (hC : Kd.C (Kd.int .u8) w0 A' f0'.length f0' ∧ f0'.length ≤ c') : IsS57 w0 (W.setCell ⟨g, 0, none⟩ (.slice A' f0'.length c')) g f0' f1 := by
 obtain ⟨A0, c0, hb, hg, hr0⟩ := h; exact ⟨A', c', by simpa using blk_set hb 0 (.slice A' f0'.length c'), hg, hC⟩
set_option maxHeartbeats 8000000 in
set_option maxRecDepth 100000 in
theorem packhorseref10_Scan_Number.calls (k : Nat) (g : Nat) (s0_0 : List Int) (s0_1 : Bool) (a1 : Int) (r1 : Int) (r2 : List Int) (r3 : Bool) (w0 w : World) (hI : IsS57 w0 w g s0_0 s0_1) (hB : Below w0.heap.size w0 w) (h : packhorseref10_Scan_Number.f k s0_0 s0_1 a1 = some (r1, r2, r3)) :
  Calls Tryd.prog 41 #[.pointer (some ⟨g, 0, none⟩), .int .u64 a1] w fun e w' => e = .returned (.int .i64 r1) ∧ IsS57 w0 w' g r2 r3 ∧ Below w0.heap.size w0 w' ∧ KeepBut w w' g none := by
 have HI := am hI; have HB := am hB; obtain ⟨A0, c0, hblk, hge, hC, hle⟩ := hI; have HC := am hC; have HC2 := am (Kd.C_below hC hB); have HL := am hle; have HG := am hge; have hc0 := cellS57_0 hblk; have hc1 := cellS57_1 hblk; have hf0 := blk_frozen hblk 0; have hf1 := blk_frozen hblk 1; clear hB hblk hge hC hle; obtain ⟨i0, hi0, hzz⟩ := Option.map_eq_some_iff.1 info5; simp only [Prod.mk.injEq] at hzz; have HZ := am hzz.2.1; have HI0 := am hi0; clear hzz hi0
 unfold packhorseref10_Scan_Number.f at h
 cases hn : packhorseref06_Take.f k s0_0 a1 with
 | none => rw [hn] at h; cases h
 | some p =>
  obtain ⟨n, u⟩ := p; rw [hn] at h; simp only [Option.bind_some] at h; have HN := am hn; clear hn
  cases s0_1 with
  | false =>
   rw [if_pos rfl] at h; have h := Option.some.inj h; simp only [Prod.mk.injEq] at h; obtain ⟨rfl, rfl, rfl⟩ := h
   go_enter Tryd.func41, Tryd.ntmps41
   go_wp2_with (go_at_call 56; refine (packhorseref06_Take.calls k A0 c0 s0_0 a1 n u _ HC2.out HL.out HN.out).mono ?_; rintro e w' ⟨rfl, ⟨nd, rfl⟩⟩)
   go_ret
   exact ⟨rfl, (HI.out.drewN nd).set_1 false, below_set (pw_below_drewN HB.out nd) HG.out, KeepBut.set_ (keep_drewN (KeepBut.refl w g none) nd) _ _⟩
  | true =>
   rw [if_neg (by decide)] at h
   by_cases c1 : u ≤ 0
   ·rw [if_pos c1] at h
    have h := Option.some.inj h; simp only [Prod.mk.injEq] at h; obtain ⟨rfl, rfl, rfl⟩ := h; have c1b : decide (u ≤ 0) = true := decide_eq_true c1; clear c1
    go_enter Tryd.func41, Tryd.ntmps41
    go_wp2_with (go_at_call 56; refine (packhorseref06_Take.calls k A0 c0 s0_0 a1 n u _ HC2.out HL.out HN.out).mono ?_; rintro e w' ⟨rfl, ⟨nd, rfl⟩⟩)
    go_ret
    exact ⟨rfl, (HI.out.drewN nd).set_1 false, below_set (pw_below_drewN HB.out nd) HG.out, KeepBut.set_ (keep_drewN (KeepBut.refl w g none) nd) _ _⟩
   ·rw [if_neg c1] at h
    have c1b : decide (u ≤ 0) = false := decide_eq_false c1
    by_cases c2 : u ≤ (s0_0.length : Int)
    ·rw [if_pos c2] at h
     have h := Option.some.inj h; simp only [Prod.mk.injEq] at h; obtain ⟨rfl, rfl, rfl⟩ := h; have hcut := cut_from (P := Tryd.prog) 49 5 .i64 Tryd.underlying49 HI0.out 1 HZ.out A0 s0_0.length c0 u (by omega) c2; have hdr := Kd.C_drop (m := u.toNat) HC.out (by omega) HL.out; rw [show (Kd.int .u8).sz = 1 from rfl] at hdr; obtain ⟨A', hA'⟩ : ∃ A' : Option Addr, A' = (if c0 = u.toNat then A0 else A0.map (·.add (u.toNat * 1))) := ⟨_, rfl⟩; rw [← hA'] at hdr hcut; rw [← List.length_drop] at hcut; have HD := am (show Kd.C (Kd.int .u8) w0 A' (s0_0.drop u.toNat).length (s0_0.drop u.toNat) ∧ (s0_0.drop u.toNat).length ≤ c0 - u.toNat from ⟨hdr, by rw [List.length_drop]; have := HL.out; omega⟩); clear hdr hA'; have HU := am c2; clear c2
     go_enter Tryd.func41, Tryd.ntmps41
     go_wp2_with (go_at_call 56; refine (packhorseref06_Take.calls k A0 c0 s0_0 a1 n u _ HC2.out HL.out HN.out).mono ?_; rintro e w' ⟨rfl, ⟨nd, rfl⟩⟩)
     go_ret
     exact ⟨rfl, (by have z_ := (HI.out.drewN nd).cut _ _ _ HD.out; rw [List.length_drop] at z_; exact z_), below_set (pw_below_drewN HB.out nd) HG.out, KeepBut.set_ (keep_drewN (KeepBut.refl w g none) nd) _ _⟩
    ·rw [if_neg c2] at h; cases h
def packhorseref10_Scan_Text.f (k : Nat) (s0_0 : List Int) (s0_1 : Bool) (a1 : Int) : Option (ByteArray × List Int × Bool) := if 0 ≤ a1 ∧ a1 ≤ 1000000 then (packhorseref10_Scan_Number.f k s0_0 s0_1 a1).bind fun p => if p.2.2 = false then some (⟨#[]⟩, p.2.1, false) else if (p.2.1.length : Int) < p.1 then some (⟨#[]⟩, p.2.1, false) else if 0 ≤ p.1 then some (strOfNums (p.2.1.take p.1.toNat), p.2.1.drop p.1.toNat, true) else none else none
set_option maxHeartbeats 8000000 in
set_option maxRecDepth 100000 in
theorem packhorseref10_Scan_Text.calls (k : Nat) (g : Nat) (s0_0 : List Int) (s0_1 : Bool) (a1 : Int) (r1 : ByteArray) (r2 : List Int) (r3 : Bool) (w0 w : World) (hI : IsS57 w0 w g s0_0 s0_1) (hB : Below w0.heap.size w0 w) (h : packhorseref10_Scan_Text.f k s0_0 s0_1 a1 = some (r1, r2, r3)) :
  Calls Tryd.prog 42 #[.pointer (some ⟨g, 0, none⟩), .int .u64 a1] w fun e w' => e = .returned (.string r1) ∧ IsS57 w0 w' g r2 r3 ∧ Below w0.heap.size w0 w' ∧ KeepBut w w' g none := by
 unfold packhorseref10_Scan_Text.f at h
 by_cases ca : 0 ≤ a1 ∧ a1 ≤ 1000000
 ·rw [if_pos ca] at h
  obtain ⟨ca0, ca1⟩ := ca
  cases hn : packhorseref10_Scan_Number.f k s0_0 s0_1 a1 with
  | none => rw [hn] at h; cases h
  | some p =>
   obtain ⟨n, s, b⟩ := p; rw [hn] at h; simp only [Option.bind_some] at h; have HN := am hn; clear hn; have HI := am hI; have HB := am hB; obtain ⟨A0, c0, hblk, hge, hC, hle⟩ := hI; have HG := am hge; have hc0 := cellS57_0 hblk; have hc1 := cellS57_1 hblk; have hf0 := blk_frozen hblk 0; have hf1 := blk_frozen hblk 1; clear hB hblk hge hC hle; obtain ⟨i0, hi0, hzz⟩ := Option.map_eq_some_iff.1 info5; simp only [Prod.mk.injEq] at hzz; have HZ := am hzz.2.1; have HI0 := am hi0; clear hzz hi0; have HS := HI; have CA := am ca1; clear ca1
   cases b
   ·-- false
    rw [if_pos rfl] at h; have h := Option.some.inj h; simp only [Prod.mk.injEq] at h; obtain ⟨rfl, rfl, rfl⟩ := h
    go_enter Tryd.func42, Tryd.ntmps42
    go_wp2_with (go_at_call 41; refine (packhorseref10_Scan_Number.calls k g _ _ _ n s _ w0 _ HS.out HB.out HN.out).mono ?_; rintro e w2 ⟨rfl, hi, hb, hk⟩; have HI2 := am hi; have HB2 := am hb; have HK2 := am hk; obtain ⟨A2, c2, hblk2, hge2, hC2, hle2⟩ := hi; have hd0 := cellS57_0 hblk2; have hd1 := cellS57_1 hblk2; have he0 := blk_frozen hblk2 0; have he1 := blk_frozen hblk2 1; have HC2 := am hC2; have HL2 := am hle2; clear hb hk hblk2 hge2 hC2 hle2)
    go_ret
    exact ⟨rfl, HI2.out.set_1 false, below_set HB2.out HG.out, KeepBut.set_ HK2.out _ _⟩
   ·-- true
    rw [if_neg (by decide)] at h
    by_cases cn : (s.length : Int) < n
    ·rw [if_pos cn] at h
     have cnb : decide ((s.length : Int) < n) = true := decide_eq_true cn; have h := Option.some.inj h; simp only [Prod.mk.injEq] at h; obtain ⟨rfl, rfl, rfl⟩ := h; clear cn
     go_enter Tryd.func42, Tryd.ntmps42
     go_wp2_with (go_at_call 41; refine (packhorseref10_Scan_Number.calls k g _ _ _ n s _ w0 _ HS.out HB.out HN.out).mono ?_; rintro e w2 ⟨rfl, hi, hb, hk⟩; have HI2 := am hi; have HB2 := am hb; have HK2 := am hk; obtain ⟨A2, c2, hblk2, hge2, hC2, hle2⟩ := hi; have hd0 := cellS57_0 hblk2; have hd1 := cellS57_1 hblk2; have he0 := blk_frozen hblk2 0; have he1 := blk_frozen hblk2 1; have HC2 := am hC2; have HL2 := am hle2; clear hb hk hblk2 hge2 hC2 hle2; have hsl := Kd.C_max HC2.out; have hlw : IntKind.i64.wrap ((s.length : Nat) : Int) = ((s.length : Nat) : Int) := IntWalk.i64_in _ ⟨by omega, by omega⟩)
     go_ret
     exact ⟨rfl, HI2.out.set_1 false, below_set HB2.out HG.out, KeepBut.set_ HK2.out _ _⟩
    ·rw [if_neg cn] at h
     have cnb : decide ((s.length : Int) < n) = false := decide_eq_false cn
     by_cases cp : 0 ≤ n
     ·rw [if_pos cp] at h
      have h := Option.some.inj h; simp only [Prod.mk.injEq] at h; obtain ⟨rfl, rfl, rfl⟩ := h; have HP := am cp; have HM := am (show n ≤ (s.length : Int) by omega); clear cn cp
      go_enter Tryd.func42, Tryd.ntmps42
      go_wp2_with (go_at_call 41; refine (packhorseref10_Scan_Number.calls k g _ _ _ n s _ w0 _ HS.out HB.out HN.out).mono ?_; rintro e w2 ⟨rfl, hi, hb, hk⟩; have HI2 := am hi; have HB2 := am hb; have HK2 := am hk; obtain ⟨A2, c2, hblk2, hge2, hC2, hle2⟩ := hi; have hd0 := cellS57_0 hblk2; have hd1 := cellS57_1 hblk2; have he0 := blk_frozen hblk2 0; have he1 := blk_frozen hblk2 1; have HC2 := am hC2; have HL2 := am hle2; clear hb hk hblk2 hge2 hC2 hle2; have htl : (s.take n.toNat).length = n.toNat := (by rw [List.length_take]; have := HM.out; omega); have hcut := cut_to (P := Tryd.prog) 49 5 .i64 Tryd.underlying49 HI0.out A2 s.length c2 n HP.out HM.out HL2.out; have hcu2 := cut_from (P := Tryd.prog) 49 5 .i64 Tryd.underlying49 HI0.out 1 HZ.out A2 s.length c2 n HP.out HM.out; obtain ⟨A3, hA3⟩ : ∃ A3 : Option Addr, A3 = (if c2 = n.toNat then A2 else A2.map (·.add (n.toNat * 1))) := ⟨_, rfl⟩; have HD := am (show Kd.C (Kd.int .u8) w0 A3 (s.drop n.toNat).length (s.drop n.toNat) ∧ (s.drop n.toNat).length ≤ c2 - n.toNat from ⟨by rw [hA3]; exact Kd.C_drop (m := n.toNat) HC2.out (by have := HM.out; omega) HL2.out, by rw [List.length_drop]; have := HL2.out; omega⟩); rw [← hA3] at hcu2; clear hA3; have hst := Kd.C_string (P := Tryd.prog) (w := w2) (src := 49) (dst := 9) (e := 5) (A := A2) (n := n.toNat) (c := c2) (xs := s.take n.toNat) Tryd.underlying49 Tryd.underlying5 Tryd.underlying9 (by have z_ := Kd.C_below (Kd.C_take (m := n.toNat) HC2.out (by have := HM.out; omega)) HB2.out; rw [htl] at z_; exact z_); clear htl; have hsl := Kd.C_max HC2.out; have hlw : IntKind.i64.wrap ((s.length : Nat) : Int) = ((s.length : Nat) : Int) := IntWalk.i64_in _ ⟨by omega, by omega⟩)
      go_ret
      exact ⟨rfl, (by have z_ := HI2.out.cut _ _ _ HD.out; rw [List.length_drop] at z_; exact z_), below_set HB2.out HG.out, KeepBut.set_ HK2.out _ _⟩
     ·rw [if_neg cp] at h; cases h
 ·rw [if_neg ca] at h; cases h
end Go.Proofs.YtnacmehhmheooaaDoor.PAll
