
import Derived.Test.YtnacmehhmheooaaDoorQOutboxCutPAllx0
import Derived.Test.YtnacmehhmheooaaDoorQOutboxCutPAllx3
import Derived.Test.YtnacmehhmheooaaDoorQOutboxCutPAllx4
import Derived.Test.YtnacmehhmheooaaDoorQOutboxCutPAllx5
namespace Go.Proofs.YtnacmehhmheooaaDoor.PAll
open Go.RowKit Go.Proofs.YtnacmehhmheooaaDoorW.PrintWords Go.Proofs.YtnacmehhmheooaaDoorW.PrintLast Go.Proofs.YtnacmehhmheooaaDoorW.PrintMore
attribute [local go_sem] max2_int min2_int max_two min_two
set_option linter.unusedVariables false
set_option linter.unusedSimpArgs false
mutual
def packet_Number.l0 : Nat → List Int → List Int → Int → Int → Option (List Int)
 | 0, _, _, _, _ => none
 | k + 1, x5, x10, x11, x12 => if x12 < x11 then (if 0 ≤ x12 then (if x12 < (x10.length : Int) then (packet_Number.l1 k x5 (rd x10 x12) x10 x11 x12) else (none)) else (none)) else (some x5)
def packet_Number.l1 : Nat → List Int → Int → List Int → Int → Int → Option (List Int)
 | 0, _, _, _, _, _ => none
 | k + 1, x5, x7, x10, x11, x12 => if x7 ≥ 128 then (if x5.length < 140737488355328 then (packet_Number.l1 k (x5 ++ [Go.bits .or .u8 ((x7) % 256) 128]) (x7 / 128) x10 x11 x12) else (none)) else (if x5.length < 140737488355328 then (packet_Number.l0 k (x5 ++ [(x7) % 256]) x10 x11 (wrap64 (x12 + 1))) else (none))
end
def packet_Number.f (k : Nat) (l0 : List Int) (l1 : List Int) : Option (List Int) := (slices_Clone_byte_byte.f l0).bind fun t368 => (packet_Number.l0 k t368 l1 (l1.length : Int) 0)
set_option maxHeartbeats 8000000 in
set_option maxRecDepth 100000 in
theorem packet_Number.calls (k : Nat) (A0 : Option Addr) (c0 : Nat) (l0 : List Int) (A1 : Option Addr) (c1 : Nat) (l1 : List Int) (r : List Int) (w : World) (hr0 : Kd.C (Kd.int .u8) w A0 l0.length l0) (hc0 : l0.length ≤ c0) (hr1 : Kd.C (Kd.int .u64) w A1 l1.length l1) (hc1 : l1.length ≤ c1) (h : packet_Number.f k l0 l1 = some r) :
  Calls Tryd.prog 44 #[.slice A0 l0.length c0, .slice A1 l1.length c1] w fun e w' => ∃ v0_ : Value, e = .returned (v0_) ∧ Kd.R (Kd.int .u8) 5 w' w.heap.size (fun _ => True) v0_ r ∧ Below w.heap.size w w' := by
 have HR0 := am hr0; have HC0 := am hc0; clear hr0 hc0; have HR1 := am hr1; have HC1 := am hc1; clear hr1 hc1; have HB := am (Below.refl w.heap.size w); have H : ((slices_Clone_byte_byte.f l0).bind fun t368 => (packet_Number.l0 k t368 l1 (l1.length : Int) 0)) = some r := h; clear h; replace H := obm H; obtain ⟨t368, A30, H⟩ := H; replace H : (packet_Number.l0 k t368 l1 (l1.length : Int) 0) = some r := H; have A3 := am A30; clear A30; have H' := am H; clear H
 go_enter Tryd.func44, Tryd.ntmps44
 go_wp2_with (first | ((with_reducible refine gate_callee (f := 40) rfl ?_); refine goesL_ (some 9) rfl rfl Tryd.func40 (by kernel_rfl) rfl #[.slice A0 l0.length c0] rfl ap1 ?_; (with_reducible refine (slices_Clone_byte_byte.calls _ _ l0 t368 _ ?side1 ?side2 A3.out).mono ?_); (case side1 => repeat (first | exact HR0.out | (with_reducible refine Kd.C_alloc ?_ _) | (with_reducible refine Kd.C_drewN ?_ _) | (with_reducible refine Kd.C_drew ?_))); (case side2 => exact HC0.out); rintro e w4 ⟨v369, rfl, ho0, hb⟩; refine ⟨_, rfl, ?_⟩; have _ := am (Kd.R_lower ho0 (below_size (beu HB.out))); have _ := am (below_step (beu HB.out) hb); clear HB; rename_i HO370 HB; (try clear hb); (try clear ho0)))
 go_loopg [5, 12] k (fun kq v5 v12 w' => ∃ (x5_1 : List Int) (x12_1 : Int), v12 = .int .i64 x12_1 ∧ Aside0 (packet_Number.l0 kq x5_1 l1 (l1.length : Int) x12_1 = some r) ∧ Aside0 (kq ≤ k) ∧ Aside0 (Kd.R (Kd.int .u8) 5 w' w.heap.size (fun _ => True) v5 x5_1) ∧ Aside0 (Below w.heap.size w w'))
 case atStart => exact ⟨(t368), (0), ap3, H', ⟨Nat.le_refl _⟩, ⟨ru HO370.out⟩, ⟨beu HB.out⟩⟩
 case round =>
  clear H'; (try clear c1); (try clear p2); (try clear c4); obtain ⟨x5_1, x12_1, rfl, HA, HK1, HO_5, HB⟩ := hrel
  cases gk with
  | zero => exact absurd HA.out (by simp [packet_Number.l0])
  | succ k1 =>
   have H := HA.out; clear HA; simp only [packet_Number.l0] at H
   by_cases c5 : x12_1 < (l1.length : Int)
   ·rw [if_pos c5] at H
    have c5b0 : decide (x12_1 < (l1.length : Int)) = true := decide_eq_true c5; clear c5
    by_cases c6 : 0 ≤ x12_1
    ·rw [if_pos c6] at H
     have c6b0 : decide (0 ≤ x12_1) = true := decide_eq_true c6; clear c6
     by_cases c7 : x12_1 < (l1.length : Int)
     ·rw [if_pos c7] at H
      have c7b0 : decide (x12_1 < (l1.length : Int)) = true := decide_eq_true c7; clear c7; have H' := am H; clear H; have p371 : 0 ≤ (x12_1 : Int) := of_decide_eq_true ap2; have q371 : x12_1 < (l1.length : Int) := of_decide_eq_true ap2; obtain ⟨ad371, e371, hx371_0⟩ := Kd.at_int HR1.out x12_1 p371 q371
      cases e371
      replace hx371_0 := (HB.out.cell (World.block_lt_of_cell? w _ hx371_0)).trans hx371_0; replace p371 := eq_true p371; replace q371 := eq_true q371
      go_wp2
      go_loopg [5, 7] k1 (fun kq v5 v7 w' => ∃ (x5_2 : List Int) (x7_2 : Int), v7 = .int .u64 x7_2 ∧ Aside0 (packet_Number.l1 kq x5_2 x7_2 l1 (l1.length : Int) x12_1 = some r) ∧ Aside0 (kq ≤ k1) ∧ Aside0 (Kd.R (Kd.int .u8) 5 w' w.heap.size (fun _ => True) v5 x5_2) ∧ Aside0 (Below w.heap.size w w'))
      case atStart => exact ⟨(x5_1), (rd l1 x12_1), ap3, H', ⟨Nat.le_refl _⟩, ⟨ru HO_5.out⟩, ⟨beu HB.out⟩⟩
      case round =>
       clear H'; (try clear c1); (try clear p2); (try clear p3); (try clear q3); (try clear hx3); (try clear c4); (try clear c5); (try clear c5b0); (try clear c6); (try clear c6b0); (try clear c7); (try clear c7b0); (try clear hx371_0); (try clear p2); (try clear p371); (try clear q371); obtain ⟨x5_2, x7_2, rfl, HA, HK2, HO_5, HB⟩ := hrel
       cases gk with
       | zero => exact absurd HA.out (by simp [packet_Number.l1])
       | succ k2 =>
        have H := HA.out; clear HA; simp only [packet_Number.l1] at H
        by_cases c8 : x7_2 ≥ 128
        ·rw [if_pos c8] at H
         have c8b0 : decide (128 ≤ x7_2) = true := decide_eq_true c8; clear c8
         by_cases c9 : x5_2.length < 140737488355328
         ·rw [if_pos c9] at H
          have LMc9 := am c9; clear c9; obtain ⟨y372, hy372⟩ : ∃ y_ : List Int, y_ = (x5_2 ++ [Go.bits .or .u8 ((x7_2) % 256) 128]) := ⟨_, rfl⟩
          replace H : (packet_Number.l1 k2 y372 (x7_2 / 128) l1 (l1.length : Int) x12_1) = some r := by first | (rw [hy372]; with_reducible exact H) | (have H2_ := (Option.bind_some _ _).symm.trans H; rw [hy372]; with_reducible exact H2_) | (have H2_ := (Option.bind_some _ _).symm.trans H; with_reducible exact H2_) | with_reducible exact H | (rw [hy372]; exact H) | exact H
          have Ny372 := am hy372; clear hy372; have H' := am H; clear H
          go_wp2_with (first | ((with_reducible refine gate_builtin (b := .append) (xs := #[.tmp 20, .tmp 24]) rfl ?_); at_builtin; refine Kd.R_append (Kd.int .u8) (w0 := w) w.heap.size rfl (.tmp 20) (.tmp 24) 49 5 (.int .u8 0) 1 rfl Tryd.underlying49 info5 rfl (by decide) (by omega) u5 x5_2 (Go.bits .or .u8 ((x7_2) % 256) 128) [.int .u8 (Go.bits .or .u8 ((x7_2) % 256) 128)] (fun _ => True) (fun _ => False) rfl rfl ?aP (fun _ hk => hk.elim) ?aF ?aO ?aB ?aS ?aL ?_; (case aP => exact rfl); (case aB => exact (beu HB.out)); (case aF => exact (fun _ _ => trivial)); (case aO => exact (ru HO_5.out)); (case aS => exact (below_size (beu HB.out))); (case aL => have := LMc9.out; omega); intro v373 w10 ho hb hg hat; rw [← Ny372.out] at ho; have _ := am (hb); have _ := am (ho); clear HB HO_5; rename_i HB HO374; clear ho hb hg hat))
          go_roundg k2
          case measure => have := HK1.out; have := HK2.out; omega
          case rel => exact ⟨(y372), (x7_2 / 128), ap3, H', ⟨by have := HK1.out; have := HK2.out; omega⟩, ⟨ru HO374.out⟩, ⟨beu HB.out⟩⟩
         ·rw [if_neg c9] at H
          exact absurd H (by simp)
        ·rw [if_neg c8] at H
         have c8b0 : decide (128 ≤ x7_2) = false := decide_eq_false c8; clear c8
         by_cases c11 : x5_2.length < 140737488355328
         ·rw [if_pos c11] at H
          have LMc11 := am c11; clear c11; obtain ⟨y375, hy375⟩ : ∃ y_ : List Int, y_ = (x5_2 ++ [(x7_2) % 256]) := ⟨_, rfl⟩
          replace H : (packet_Number.l0 k2 y375 l1 (l1.length : Int) (wrap64 (x12_1 + 1))) = some r := by first | (rw [hy375]; with_reducible exact H) | (have H2_ := (Option.bind_some _ _).symm.trans H; rw [hy375]; with_reducible exact H2_) | (have H2_ := (Option.bind_some _ _).symm.trans H; with_reducible exact H2_) | with_reducible exact H | (rw [hy375]; exact H) | exact H
          have Ny375 := am hy375; clear hy375; have H' := am H; clear H
          go_wp2_with (first | ((with_reducible refine gate_builtin (b := .append) (xs := #[.tmp 26, .tmp 29]) rfl ?_); at_builtin; refine Kd.R_append (Kd.int .u8) (w0 := w) w.heap.size rfl (.tmp 26) (.tmp 29) 49 5 (.int .u8 0) 1 rfl Tryd.underlying49 info5 rfl (by decide) (by omega) u5 x5_2 ((x7_2) % 256) [.int .u8 ((x7_2) % 256)] (fun _ => True) (fun _ => False) rfl rfl ?aP (fun _ hk => hk.elim) ?aF ?aO ?aB ?aS ?aL ?_; (case aP => exact rfl); (case aB => exact (beu HB.out)); (case aF => exact (fun _ _ => trivial)); (case aO => exact (ru HO_5.out)); (case aS => exact (below_size (beu HB.out))); (case aL => have := LMc11.out; omega); intro v376 w12 ho hb hg hat; rw [← Ny375.out] at ho; have _ := am (hb); have _ := am (ho); clear HB HO_5; rename_i HB HO377; clear ho hb hg hat))
          go_roundg k2
          case measure => have := HK1.out; have := HK2.out; omega
          case rel => exact ⟨(y375), (wrap64 (x12_1 + 1)), ap3, H', ⟨by have := HK1.out; have := HK2.out; omega⟩, ⟨ru HO377.out⟩, ⟨beu HB.out⟩⟩
         ·rw [if_neg c11] at H
          exact absurd H (by simp)
     ·rw [if_neg c7] at H
      exact absurd H (by simp)
    ·rw [if_neg c6] at H
     exact absurd H (by simp)
   ·rw [if_neg c5] at H
    have c5b0 : decide (x12_1 < (l1.length : Int)) = false := decide_eq_false c5; clear c5; obtain rfl := Option.some.inj H; simp only [Option.some.injEq, Prod.mk.injEq] at H; obtain ⟨rfl⟩ := H
    go_wp2
    go_ret
    exact ⟨_, ap4, ru HO_5.out, beu HB.out⟩
def packet_Text.l0 : Nat → List Int → List ByteArray → Int → Int → Option (List Int)
 | 0, _, _, _, _ => none
 | k + 1, x5, x10, x11, x12 => if x12 < x11 then (if 0 ≤ x12 then (if x12 < (x10.length : Int) then ((packet_Number.f k x5 (([IntKind.u64.wrap (((rdOf ByteArray.empty x10 x12).size : Int))] : List Int))).bind fun t385 => (if t385.length + (rdOf ByteArray.empty x10 x12).size < 140737488355328 then (packet_Text.l0 k (t385 ++ bytesOf (rdOf ByteArray.empty x10 x12)) x10 x11 (wrap64 (x12 + 1))) else (none))) else (none)) else (none)) else (some x5)
def packet_Text.f (k : Nat) (l0 : List Int) (l1 : List ByteArray) : Option (List Int) := (slices_Clone_byte_byte.f l0).bind fun t378 => (packet_Text.l0 k t378 l1 (l1.length : Int) 0)
set_option maxHeartbeats 8000000 in
set_option maxRecDepth 100000 in
theorem packet_Text.calls (k : Nat) (A0 : Option Addr) (c0 : Nat) (l0 : List Int) (A1 : Option Addr) (c1 : Nat) (l1 : List ByteArray) (r : List Int) (w : World) (hr0 : Kd.C (Kd.int .u8) w A0 l0.length l0) (hc0 : l0.length ≤ c0) (hr1 : Kd.C Kd.string w A1 l1.length l1) (hc1 : l1.length ≤ c1) (h : packet_Text.f k l0 l1 = some r) :
  Calls Tryd.prog 45 #[.slice A0 l0.length c0, .slice A1 l1.length c1] w fun e w' => ∃ v0_ : Value, e = .returned (v0_) ∧ Kd.R (Kd.int .u8) 5 w' w.heap.size (fun _ => True) v0_ r ∧ Below w.heap.size w w' := by
 have HR0 := am hr0; have HC0 := am hc0; clear hr0 hc0; have HR1 := am hr1; have HC1 := am hc1; clear hr1 hc1; have HB := am (Below.refl w.heap.size w); have H : ((slices_Clone_byte_byte.f l0).bind fun t378 => (packet_Text.l0 k t378 l1 (l1.length : Int) 0)) = some r := h; clear h; replace H := obm H; obtain ⟨t378, A30, H⟩ := H; replace H : (packet_Text.l0 k t378 l1 (l1.length : Int) 0) = some r := H; have A3 := am A30; clear A30; have H' := am H; clear H
 go_enter Tryd.func45, Tryd.ntmps45
 go_wp2_with (first | ((with_reducible refine gate_callee (f := 40) rfl ?_); refine goesL_ (some 9) rfl rfl Tryd.func40 (by kernel_rfl) rfl #[.slice A0 l0.length c0] rfl ap1 ?_; (with_reducible refine (slices_Clone_byte_byte.calls _ _ l0 t378 _ ?side1 ?side2 A3.out).mono ?_); (case side1 => repeat (first | exact HR0.out | (with_reducible refine Kd.C_alloc ?_ _) | (with_reducible refine Kd.C_drewN ?_ _) | (with_reducible refine Kd.C_drew ?_))); (case side2 => exact HC0.out); rintro e w4 ⟨v379, rfl, ho0, hb⟩; refine ⟨_, rfl, ?_⟩; have _ := am (Kd.R_lower ho0 (below_size (beu HB.out))); have _ := am (below_step (beu HB.out) hb); clear HB; rename_i HO380 HB; (try clear hb); (try clear ho0)))
 go_loopg [5, 12] k (fun kq v5 v12 w' => ∃ (x5_1 : List Int) (x12_1 : Int), v12 = .int .i64 x12_1 ∧ Aside0 (packet_Text.l0 kq x5_1 l1 (l1.length : Int) x12_1 = some r) ∧ Aside0 (kq ≤ k) ∧ Aside0 (Kd.R (Kd.int .u8) 5 w' w.heap.size (fun _ => True) v5 x5_1) ∧ Aside0 (Below w.heap.size w w'))
 case atStart => exact ⟨(t378), (0), ap3, H', ⟨Nat.le_refl _⟩, ⟨ru HO380.out⟩, ⟨beu HB.out⟩⟩
 case round =>
  clear H'; (try clear c1); (try clear p2); (try clear c4); obtain ⟨x5_1, x12_1, rfl, HA, HK1, HO_5, HB⟩ := hrel
  cases gk with
  | zero => exact absurd HA.out (by simp [packet_Text.l0])
  | succ k1 =>
   have H := HA.out; clear HA; simp only [packet_Text.l0] at H
   by_cases c5 : x12_1 < (l1.length : Int)
   ·rw [if_pos c5] at H
    have c5b0 : decide (x12_1 < (l1.length : Int)) = true := decide_eq_true c5; clear c5
    by_cases c6 : 0 ≤ x12_1
    ·rw [if_pos c6] at H
     have c6b0 : decide (0 ≤ x12_1) = true := decide_eq_true c6; clear c6
     by_cases c7 : x12_1 < (l1.length : Int)
     ·rw [if_pos c7] at H
      have c7b0 : decide (x12_1 < (l1.length : Int)) = true := decide_eq_true c7; clear c7; obtain ⟨y382, hy382⟩ : ∃ y_ : List Int, y_ = (([IntKind.u64.wrap (((rdOf ByteArray.empty l1 x12_1).size : Int))] : List Int)) := ⟨_, rfl⟩
      replace H : ((packet_Number.f k1 x5_1 y382).bind fun t385 => (if t385.length + (rdOf ByteArray.empty l1 x12_1).size < 140737488355328 then (packet_Text.l0 k1 (t385 ++ bytesOf (rdOf ByteArray.empty l1 x12_1)) l1 (l1.length : Int) (wrap64 (x12_1 + 1))) else (none))) = some r := by first | (rw [hy382]; with_reducible exact H) | (have H2_ := (Option.bind_some _ _).symm.trans H; rw [hy382]; with_reducible exact H2_) | (have H2_ := (Option.bind_some _ _).symm.trans H; with_reducible exact H2_) | with_reducible exact H | (rw [hy382]; exact H) | exact H
      have Ny382 := am hy382; clear hy382; replace H := obm H; obtain ⟨t385, A80, H⟩ := H; replace H : (if t385.length + (rdOf ByteArray.empty l1 x12_1).size < 140737488355328 then (packet_Text.l0 k1 (t385 ++ bytesOf (rdOf ByteArray.empty l1 x12_1)) l1 (l1.length : Int) (wrap64 (x12_1 + 1))) else (none)) = some r := H; have A8 := am A80; clear A80
      by_cases c9 : t385.length + (rdOf ByteArray.empty l1 x12_1).size < 140737488355328
      ·rw [if_pos c9] at H
       have LMc9 := am c9; clear c9; obtain ⟨y388, hy388⟩ : ∃ y_ : List Int, y_ = (t385 ++ bytesOf (rdOf ByteArray.empty l1 x12_1)) := ⟨_, rfl⟩
       replace H : (packet_Text.l0 k1 y388 l1 (l1.length : Int) (wrap64 (x12_1 + 1))) = some r := by first | (rw [hy388]; with_reducible exact H) | (have H2_ := (Option.bind_some _ _).symm.trans H; rw [hy388]; with_reducible exact H2_) | (have H2_ := (Option.bind_some _ _).symm.trans H; with_reducible exact H2_) | with_reducible exact H | (rw [hy388]; exact H) | exact H
       have Ny388 := am hy388; clear hy388; have H' := am H; clear H; have p381 : 0 ≤ (x12_1 : Int) := of_decide_eq_true ap2; have q381 : x12_1 < (l1.length : Int) := of_decide_eq_true ap2; obtain ⟨ad381, e381, hx381_0⟩ := Kd.at_string HR1.out x12_1 p381 q381
       cases e381
       replace hx381_0 := (HB.out.cell (World.block_lt_of_cell? w _ hx381_0)).trans hx381_0; replace p381 := eq_true p381; replace q381 := eq_true q381
       go_wp2_with (first | ((with_reducible refine gate_dst (N := 20) rfl ?_); refine Kd.R_lit (Kd.int .u64) _ 69 ?hg (N := 20) ?hd (xs := ([IntKind.u64.wrap (((rdOf ByteArray.empty l1 x12_1).size : Int))] : List Int)) (inner := [.int .u64 (IntKind.u64.wrap (((rdOf ByteArray.empty l1 x12_1).size : Int)))]) (ok := fun _ => True) (okp := fun _ => True) ?hr ?hp (fun _ hk => hk) trivial (Below.refl _ _) (Nat.le_refl _) (by simp) ?_; (case hd => rfl); (case hg => rfl); (case hr => first | (go_simp; done) | (go_simp; rfl)); (case hp => exact (Reps.one (show Kd.M (Kd.int .u64) _ _ _ (IntKind.u64.wrap (((rdOf ByteArray.empty l1 x12_1).size : Int))) [.int .u64 (IntKind.u64.wrap (((rdOf ByteArray.empty l1 x12_1).size : Int)))] from rfl) (Reps.none _ _))); intro v383 w10 ho11 hb hg_ hnew_; clear hg_ hnew_; (first | rw [← Ny382.out] at ho11 | (simp only [Int.reduceToNat] at ho11; rw [← Ny382.out] at ho11)); have _ := am (Kd.R_below (ru HO_5.out) hb); have _ := am (Kd.R_lower ho11 (below_size (beu HB.out))); have _ := am (below_step (beu HB.out) hb); clear HO_5 HB; rename_i HO_5 HO384 HB; clear hb ho11; obtain ⟨Ao12, co12, eo12⟩ := Kd.R_slice HO_5.out; subst eo12; obtain ⟨Ao13, co13, eo13⟩ := Kd.R_slice HO384.out; subst eo13) | ((with_reducible refine gate_callee (f := 44) rfl ?_); refine goesL_ (some 21) rfl rfl Tryd.func44 (by kernel_rfl) rfl #[.slice Ao12 x5_1.length co12, .slice Ao13 y382.length co13] rfl ap1 ?_; (with_reducible refine (packet_Number.calls k1 _ _ x5_1 _ _ y382 t385 _ ?side1 ?side2 ?side3 ?side4 A8.out).mono ?_); (case side1 => exact cu (Kd.R_reads' HO_5.out).2.2); (case side2 => exact (Kd.R_reads' HO_5.out).2.1); (case side3 => exact cu (Kd.R_reads' HO384.out).2.2); (case side4 => exact (Kd.R_reads' HO384.out).2.1); rintro e w14 ⟨v386, rfl, ho0, hb⟩; refine ⟨_, rfl, ?_⟩; have _ := am (Kd.R_elder' (ru HO_5.out) (Kd.R_base ho0) hb); have _ := am (Kd.R_below (ru HO384.out) hb); have _ := am (Kd.R_lower (Kd.R_new' ho0 (Kd.R_lt (ru HO_5.out))) (below_size (beu HB.out))); have _ := am (below_step (beu HB.out) hb); clear HO_5 HO384 HB; rename_i HO_5 HO384 HO387 HB; (try clear hb); (try clear ho0)) | (at_builtin; refine print_append_str (w0 := w) w.heap.size rfl (.tmp 21) _ 49 9 5 rfl Tryd.underlying49 Tryd.underlying9 info5 v386 t385 (rdOf ByteArray.empty l1 x12_1) rfl rfl ?aO ?aB ?aS ?aL ?_; (case aB => exact (beu HB.out)); (case aO => exact (Kd.own_of_R (ru (Kd.R_mono HO387.out (fun _ hk => trivial))))); (case aS => exact (below_size (beu HB.out))); (case aL => have := LMc9.out; omega); intro v389 w15 ho0 hb hg; have ho := Kd.R_of_own (h1 := fun _ => rfl) (ok := fun _ => True) ho0 (fun _ _ => trivial); clear ho0; have hat := True.intro; rw [← Ny388.out] at ho; change Kd.R (Kd.int .u8) 5 w15 w.heap.size (fun _ => True) v389 y388 at ho; have _ := am (Kd.R_over' (ru HO384.out) (Kd.R_typed (ru HO387.out)) (by decide) hg); have _ := am (hb); have _ := am (ho); clear HO384 HB HO387; rename_i HO384 HB HO390; clear ho hb hg hat))
       go_roundg k1
       case measure => have := HK1.out; omega
       case rel => exact ⟨(y388), (wrap64 (x12_1 + 1)), ap3, H', ⟨by have := HK1.out; omega⟩, ⟨ru HO390.out⟩, ⟨beu HB.out⟩⟩
      ·rw [if_neg c9] at H
       exact absurd H (by simp)
     ·rw [if_neg c7] at H
      exact absurd H (by simp)
    ·rw [if_neg c6] at H
     exact absurd H (by simp)
   ·rw [if_neg c5] at H
    have c5b0 : decide (x12_1 < (l1.length : Int)) = false := decide_eq_false c5; clear c5; obtain rfl := Option.some.inj H; simp only [Option.some.injEq, Prod.mk.injEq] at H; obtain ⟨rfl⟩ := H
    go_wp2
    go_ret
    exact ⟨_, ap4, ru HO_5.out, beu HB.out⟩
def outbox_Put.l0 : Nat → List Int → List (S27) → Int → Int → Option (List Int)
 | 0, _, _, _, _ => none
 | k + 1, x0, x13, x14, x15 => if x15 < x14 then (if 0 ≤ x15 then (if x15 < (x13.length : Int) then ((packet_Number.f k x0 (([IntKind.u64.wrap ((rd_T27 x13 x15).f0), IntKind.u64.wrap ((rd_T27 x13 x15).f3), IntKind.u64.wrap ((rd_T27 x13 x15).f4), IntKind.u64.wrap ((rd_T27 x13 x15).f2), IntKind.u64.wrap ((rd_T27 x13 x15).f1)] : List Int))).bind fun t402 => ((packet_Text.f k t402 (([(rd_T27 x13 x15).f5] : List ByteArray))).bind fun t408 => (outbox_Put.l0 k t408 x13 x14 (wrap64 (x15 + 1))))) else (none)) else (none)) else (some x0)
def outbox_Put.f (k : Nat) (l0 : List Int) (l1 : List (S27)) : Option (List Int) := (packet_Number.f k l0 (([IntKind.u64.wrap ((l1.length : Int))] : List Int))).bind fun t394 => (outbox_Put.l0 k t394 l1 (l1.length : Int) 0)
set_option maxHeartbeats 8000000 in
set_option maxRecDepth 100000 in
theorem outbox_Put.calls (k : Nat) (A0 : Option Addr) (c0 : Nat) (l0 : List Int) (A1 : Option Addr) (c1 : Nat) (l1 : List (S27)) (r : List Int) (w : World) (hr0 : Kd.C (Kd.int .u8) w A0 l0.length l0) (hc0 : l0.length ≤ c0) (hr1 : Kd.C k27 w A1 l1.length l1) (hc1 : l1.length ≤ c1) (h : outbox_Put.f k l0 l1 = some r) :
  Calls Tryd.prog 28 #[.slice A0 l0.length c0, .slice A1 l1.length c1] w fun e w' => ∃ v0_ : Value, e = .returned (v0_) ∧ Kd.R (Kd.int .u8) 5 w' w.heap.size (fun _ => True) v0_ r ∧ Below w.heap.size w w' := by
 have hu27 := Tryd.underlying27; have HR0 := am hr0; have HC0 := am hc0; clear hr0 hc0; have HR1 := am hr1; have HC1 := am hc1; clear hr1 hc1; have HB := am (Below.refl w.heap.size w); have H : ((packet_Number.f k l0 (([IntKind.u64.wrap ((l1.length : Int))] : List Int))).bind fun t394 => (outbox_Put.l0 k t394 l1 (l1.length : Int) 0)) = some r := h; clear h; obtain ⟨y391, hy391⟩ : ∃ y_ : List Int, y_ = (([IntKind.u64.wrap ((l1.length : Int))] : List Int)) := ⟨_, rfl⟩
 replace H : ((packet_Number.f k l0 y391).bind fun t394 => (outbox_Put.l0 k t394 l1 (l1.length : Int) 0)) = some r := by first | (rw [hy391]; with_reducible exact H) | (have H2_ := (Option.bind_some _ _).symm.trans H; rw [hy391]; with_reducible exact H2_) | (have H2_ := (Option.bind_some _ _).symm.trans H; with_reducible exact H2_) | with_reducible exact H | (rw [hy391]; exact H) | exact H
 have Ny391 := am hy391; clear hy391; replace H := obm H; obtain ⟨t394, A30, H⟩ := H; replace H : (outbox_Put.l0 k t394 l1 (l1.length : Int) 0) = some r := H; have A3 := am A30; clear A30; have H' := am H; clear H
 go_enter Tryd.func28, Tryd.ntmps28
 go_wp2_with (first | ((with_reducible refine gate_dst (N := 11) rfl ?_); refine Kd.R_lit (Kd.int .u64) _ 69 ?hg (N := 11) ?hd (xs := ([IntKind.u64.wrap ((l1.length : Int))] : List Int)) (inner := [.int .u64 (IntKind.u64.wrap ((l1.length : Int)))]) (ok := fun _ => True) (okp := fun _ => True) ?hr ?hp (fun _ hk => hk) trivial (Below.refl _ _) (Nat.le_refl _) (by simp) ?_; (case hd => rfl); (case hg => rfl); (case hr => first | (go_simp; done) | (go_simp; rfl)); (case hp => exact (Reps.one (show Kd.M (Kd.int .u64) _ _ _ (IntKind.u64.wrap ((l1.length : Int))) [.int .u64 (IntKind.u64.wrap ((l1.length : Int)))] from rfl) (Reps.none _ _))); intro v392 w4 ho5 hb hg_ hnew_; clear hg_ hnew_; (first | rw [← Ny391.out] at ho5 | (simp only [Int.reduceToNat] at ho5; rw [← Ny391.out] at ho5)); have _ := am (Kd.R_lower ho5 (below_size (beu HB.out))); have _ := am (below_step (beu HB.out) hb); clear HB; rename_i HO393 HB; clear hb ho5; obtain ⟨Ao6, co6, eo6⟩ := Kd.R_slice HO393.out; subst eo6) | ((with_reducible refine gate_callee (f := 44) rfl ?_); refine goesL_ (some 12) rfl rfl Tryd.func44 (by kernel_rfl) rfl #[.slice A0 l0.length c0, .slice Ao6 y391.length co6] rfl ap1 ?_; (with_reducible refine (packet_Number.calls k _ _ l0 _ _ y391 t394 _ ?side1 ?side2 ?side3 ?side4 A3.out).mono ?_); (case side1 => exact cu (Kd.C_below HR0.out HB.out)); (case side2 => exact HC0.out); (case side3 => exact cu (Kd.R_reads' HO393.out).2.2); (case side4 => exact (Kd.R_reads' HO393.out).2.1); rintro e w7 ⟨v395, rfl, ho0, hb⟩; refine ⟨_, rfl, ?_⟩; have _ := am (Kd.R_below (ru HO393.out) hb); have _ := am (Kd.R_lower ho0 (below_size (beu HB.out))); have _ := am (below_step (beu HB.out) hb); clear HO393 HB; rename_i HO393 HO396 HB; (try clear hb); (try clear ho0)))
 go_loopg [0, 15] k (fun kq v0 v15 w' => ∃ (x0_1 : List Int) (x15_1 : Int), v15 = .int .i64 x15_1 ∧ Aside0 (outbox_Put.l0 kq x0_1 l1 (l1.length : Int) x15_1 = some r) ∧ Aside0 (kq ≤ k) ∧ Aside0 (Kd.R (Kd.int .u8) 5 w' w.heap.size (fun _ => True) v0 x0_1) ∧ Aside0 (Below w.heap.size w w'))
 case atStart => exact ⟨(t394), (0), ap3, H', ⟨Nat.le_refl _⟩, ⟨ru HO396.out⟩, ⟨beu HB.out⟩⟩
 case round =>
  clear H'; (try clear c1); (try clear c2); (try clear p2); (try clear c4); obtain ⟨x0_1, x15_1, rfl, HA, HK1, HO_0, HB⟩ := hrel
  cases gk with
  | zero => exact absurd HA.out (by simp [outbox_Put.l0])
  | succ k1 =>
   have H := HA.out; clear HA; simp only [outbox_Put.l0] at H
   by_cases c8 : x15_1 < (l1.length : Int)
   ·rw [if_pos c8] at H
    have c8b0 : decide (x15_1 < (l1.length : Int)) = true := decide_eq_true c8; clear c8
    by_cases c9 : 0 ≤ x15_1
    ·rw [if_pos c9] at H
     have c9b0 : decide (0 ≤ x15_1) = true := decide_eq_true c9; clear c9
     by_cases c10 : x15_1 < (l1.length : Int)
     ·rw [if_pos c10] at H
      have c10b0 : decide (x15_1 < (l1.length : Int)) = true := decide_eq_true c10; clear c10; obtain ⟨y399, hy399⟩ : ∃ y_ : List Int, y_ = (([IntKind.u64.wrap ((rd_T27 l1 x15_1).f0), IntKind.u64.wrap ((rd_T27 l1 x15_1).f3), IntKind.u64.wrap ((rd_T27 l1 x15_1).f4), IntKind.u64.wrap ((rd_T27 l1 x15_1).f2), IntKind.u64.wrap ((rd_T27 l1 x15_1).f1)] : List Int)) := ⟨_, rfl⟩
      replace H : ((packet_Number.f k1 x0_1 y399).bind fun t402 => ((packet_Text.f k1 t402 (([(rd_T27 l1 x15_1).f5] : List ByteArray))).bind fun t408 => (outbox_Put.l0 k1 t408 l1 (l1.length : Int) (wrap64 (x15_1 + 1))))) = some r := by first | (rw [hy399]; with_reducible exact H) | (have H2_ := (Option.bind_some _ _).symm.trans H; rw [hy399]; with_reducible exact H2_) | (have H2_ := (Option.bind_some _ _).symm.trans H; with_reducible exact H2_) | with_reducible exact H | (rw [hy399]; exact H) | exact H
      have Ny399 := am hy399; clear hy399; replace H := obm H; obtain ⟨t402, A110, H⟩ := H; replace H : ((packet_Text.f k1 t402 (([(rd_T27 l1 x15_1).f5] : List ByteArray))).bind fun t408 => (outbox_Put.l0 k1 t408 l1 (l1.length : Int) (wrap64 (x15_1 + 1)))) = some r := H; have A11 := am A110; clear A110; obtain ⟨y405, hy405⟩ : ∃ y_ : List ByteArray, y_ = (([(rd_T27 l1 x15_1).f5] : List ByteArray)) := ⟨_, rfl⟩
      replace H : ((packet_Text.f k1 t402 y405).bind fun t408 => (outbox_Put.l0 k1 t408 l1 (l1.length : Int) (wrap64 (x15_1 + 1)))) = some r := by first | (rw [hy405]; with_reducible exact H) | (have H2_ := (Option.bind_some _ _).symm.trans H; rw [hy405]; with_reducible exact H2_) | (have H2_ := (Option.bind_some _ _).symm.trans H; with_reducible exact H2_) | with_reducible exact H | (rw [hy405]; exact H) | exact H
      have Ny405 := am hy405; clear hy405; replace H := obm H; obtain ⟨t408, A120, H⟩ := H; replace H : (outbox_Put.l0 k1 t408 l1 (l1.length : Int) (wrap64 (x15_1 + 1))) = some r := H; have A12 := am A120; clear A120; have H' := am H; clear H; have p397 : 0 ≤ (x15_1 : Int) := of_decide_eq_true ap2; have q397 : x15_1 < (l1.length : Int) := of_decide_eq_true ap2; obtain ⟨ad397, e397, hx397_0, hx397_1, hx397_2, hx397_3, hx397_4, hx397_5⟩ := at_T27 HR1.out x15_1 p397 q397
      cases e397
      replace hx397_0 := (HB.out.cell (World.block_lt_of_cell? w _ hx397_0)).trans hx397_0; replace hx397_1 := (HB.out.cell (World.block_lt_of_cell? w _ hx397_1)).trans hx397_1; replace hx397_2 := (HB.out.cell (World.block_lt_of_cell? w _ hx397_2)).trans hx397_2; replace hx397_3 := (HB.out.cell (World.block_lt_of_cell? w _ hx397_3)).trans hx397_3; replace hx397_4 := (HB.out.cell (World.block_lt_of_cell? w _ hx397_4)).trans hx397_4; replace hx397_5 := (HB.out.cell (World.block_lt_of_cell? w _ hx397_5)).trans hx397_5; replace p397 := eq_true p397; replace q397 := eq_true q397
      go_wp2_with (first | ((with_reducible refine gate_dst (N := 6) rfl ?_); refine box_event ?hg (N := 6) ?hd (cs := #[.int .i64 0, .int .i64 0, .int .i64 0, .int .i64 0, .int .i64 0, .string ⟨#[]⟩]) (t := 27) ?hr ?_; (case hd => rfl); (case hg => rfl); (case hr => first | (go_simp; done) | (go_simp; rfl)); intro gb398 hg w13 hbox hb; have _ := am (Kd.R_below (ru HO_0.out) hb); have _ := am (below_step (beu HB.out) hb); have _ := am (hbox); have _ := am ((by rw [hg]; exact (below_size (beu HB.out)) : w.heap.size ≤ gb398)); have _ := am ((by rw [hg]; exact (below_size (beu HB.out)) : w.heap.size ≤ gb398)); clear HO_0 HB; rename_i HO_0 HB BK398 GW398 GE398; clear hb hbox hg; obtain ⟨_, _, _, _, _, _⟩ := cells6 BK398.out; obtain ⟨_, _, _, _, _, _⟩ := frozens6 BK398.out) | ((with_reducible refine gate_dst (N := 35) rfl ?_); refine Kd.R_lit (Kd.int .u64) _ 69 ?hg (N := 35) ?hd (xs := ([IntKind.u64.wrap ((rd_T27 l1 x15_1).f0), IntKind.u64.wrap ((rd_T27 l1 x15_1).f3), IntKind.u64.wrap ((rd_T27 l1 x15_1).f4), IntKind.u64.wrap ((rd_T27 l1 x15_1).f2), IntKind.u64.wrap ((rd_T27 l1 x15_1).f1)] : List Int)) (inner := [.int .u64 (IntKind.u64.wrap ((rd_T27 l1 x15_1).f0)), .int .u64 (IntKind.u64.wrap ((rd_T27 l1 x15_1).f3)), .int .u64 (IntKind.u64.wrap ((rd_T27 l1 x15_1).f4)), .int .u64 (IntKind.u64.wrap ((rd_T27 l1 x15_1).f2)), .int .u64 (IntKind.u64.wrap ((rd_T27 l1 x15_1).f1))]) (ok := fun _ => True) (okp := fun _ => True) ?hr ?hp (fun _ hk => hk) trivial (Below.refl _ _) (Nat.le_refl _) (by simp) ?_; (case hd => rfl); (case hg => rfl); (case hr => first | (go_simp; done) | (go_simp; rfl)); (case hp => exact (Reps.one (show Kd.M (Kd.int .u64) _ _ _ (IntKind.u64.wrap ((rd_T27 l1 x15_1).f0)) [.int .u64 (IntKind.u64.wrap ((rd_T27 l1 x15_1).f0))] from rfl) (Reps.one (show Kd.M (Kd.int .u64) _ _ _ (IntKind.u64.wrap ((rd_T27 l1 x15_1).f3)) [.int .u64 (IntKind.u64.wrap ((rd_T27 l1 x15_1).f3))] from rfl) (Reps.one (show Kd.M (Kd.int .u64) _ _ _ (IntKind.u64.wrap ((rd_T27 l1 x15_1).f4)) [.int .u64 (IntKind.u64.wrap ((rd_T27 l1 x15_1).f4))] from rfl) (Reps.one (show Kd.M (Kd.int .u64) _ _ _ (IntKind.u64.wrap ((rd_T27 l1 x15_1).f2)) [.int .u64 (IntKind.u64.wrap ((rd_T27 l1 x15_1).f2))] from rfl) (Reps.one (show Kd.M (Kd.int .u64) _ _ _ (IntKind.u64.wrap ((rd_T27 l1 x15_1).f1)) [.int .u64 (IntKind.u64.wrap ((rd_T27 l1 x15_1).f1))] from rfl) (Reps.none _ _))))))); intro v400 w15 ho16 hb hg_ hnew_; clear hg_ hnew_; (first | rw [← Ny399.out] at ho16 | (simp only [Int.reduceToNat] at ho16; rw [← Ny399.out] at ho16)); have _ := am (Kd.R_below (ru (Kd.R_mono (rf gb398 5 (rf gb398 4 (rf gb398 3 (rf gb398 2 (rf gb398 1 (rf gb398 0 (Kd.R_types HO_0.out BK398.out (by decide)) (.int .i64 ((rd_T27 l1 x15_1).f0))) (.int .i64 ((rd_T27 l1 x15_1).f1))) (.int .i64 ((rd_T27 l1 x15_1).f2))) (.int .i64 ((rd_T27 l1 x15_1).f3))) (.int .i64 ((rd_T27 l1 x15_1).f4))) (.string ((rd_T27 l1 x15_1).f5))) (fun _ h_ => h_.1))) hb); have _ := am (Kd.R_lower ho16 (below_size (beu HB.out))); have _ := am (blk_below (g := gb398) (o := .cells #[.int .i64 ((rd_T27 l1 x15_1).f0), .int .i64 ((rd_T27 l1 x15_1).f1), .int .i64 ((rd_T27 l1 x15_1).f2), .int .i64 ((rd_T27 l1 x15_1).f3), .int .i64 ((rd_T27 l1 x15_1).f4), .string ((rd_T27 l1 x15_1).f5)] 27 (0, 0)) (by refine bu ?_; refine blk_put (cs := #[.int .i64 ((rd_T27 l1 x15_1).f0), .int .i64 ((rd_T27 l1 x15_1).f1), .int .i64 ((rd_T27 l1 x15_1).f2), .int .i64 ((rd_T27 l1 x15_1).f3), .int .i64 ((rd_T27 l1 x15_1).f4), .string ⟨#[]⟩]) ?_ 5 _ rfl; refine bu ?_; refine blk_put (cs := #[.int .i64 ((rd_T27 l1 x15_1).f0), .int .i64 ((rd_T27 l1 x15_1).f1), .int .i64 ((rd_T27 l1 x15_1).f2), .int .i64 ((rd_T27 l1 x15_1).f3), .int .i64 0, .string ⟨#[]⟩]) ?_ 4 _ rfl; refine bu ?_; refine blk_put (cs := #[.int .i64 ((rd_T27 l1 x15_1).f0), .int .i64 ((rd_T27 l1 x15_1).f1), .int .i64 ((rd_T27 l1 x15_1).f2), .int .i64 0, .int .i64 0, .string ⟨#[]⟩]) ?_ 3 _ rfl; refine bu ?_; refine blk_put (cs := #[.int .i64 ((rd_T27 l1 x15_1).f0), .int .i64 ((rd_T27 l1 x15_1).f1), .int .i64 0, .int .i64 0, .int .i64 0, .string ⟨#[]⟩]) ?_ 2 _ rfl; refine bu ?_; refine blk_put (cs := #[.int .i64 ((rd_T27 l1 x15_1).f0), .int .i64 0, .int .i64 0, .int .i64 0, .int .i64 0, .string ⟨#[]⟩]) ?_ 1 _ rfl; refine bu ?_; refine blk_put (cs := #[.int .i64 0, .int .i64 0, .int .i64 0, .int .i64 0, .int .i64 0, .string ⟨#[]⟩]) ?_ 0 _ rfl; refine bu ?_; exact BK398.out) hb); have _ := am (below_step (beu HB.out) hb); clear HO_0 BK398 HB; rename_i HO_0 HO401 BK398 HB; clear hb ho16; obtain ⟨Ao17, co17, eo17⟩ := Kd.R_slice HO_0.out; subst eo17; obtain ⟨Ao18, co18, eo18⟩ := Kd.R_slice HO401.out; subst eo18) | ((with_reducible refine gate_callee (f := 44) rfl ?_); refine goesL_ (some 36) rfl rfl Tryd.func44 (by kernel_rfl) rfl #[.slice Ao17 x0_1.length co17, .slice Ao18 y399.length co18] rfl ap1 ?_; (with_reducible refine (packet_Number.calls k1 _ _ x0_1 _ _ y399 t402 _ ?side1 ?side2 ?side3 ?side4 A11.out).mono ?_); (case side1 => exact cu (Kd.R_reads' HO_0.out).2.2); (case side2 => exact (Kd.R_reads' HO_0.out).2.1); (case side3 => exact cu (Kd.R_reads' HO401.out).2.2); (case side4 => exact (Kd.R_reads' HO401.out).2.1); rintro e w19 ⟨v403, rfl, ho0, hb⟩; refine ⟨_, rfl, ?_⟩; have _ := am (Kd.R_elder' (ru HO_0.out) (Kd.R_base ho0) hb); have _ := am (Kd.R_below (ru HO401.out) hb); have _ := am (Kd.R_lower (Kd.R_new' ho0 (Kd.R_lt (ru HO_0.out))) (below_size (beu HB.out))); have _ := am (blk_below (bu BK398.out) hb); have _ := am (below_step (beu HB.out) hb); clear HO_0 HO401 BK398 HB; rename_i HO_0 HO401 HO404 BK398 HB; (try clear hb); (try clear ho0); obtain ⟨_, _, _, _, _, _⟩ := cells6 BK398.out; obtain ⟨_, _, _, _, _, _⟩ := frozens6 BK398.out) | ((with_reducible refine gate_dst (N := 40) rfl ?_); refine Kd.R_lit Kd.string _ 9 ?hg (N := 40) ?hd (xs := ([(rd_T27 l1 x15_1).f5] : List ByteArray)) (inner := [.string ((rd_T27 l1 x15_1).f5)]) (ok := fun _ => True) (okp := fun _ => True) ?hr ?hp (fun _ hk => hk) trivial (Below.refl _ _) (Nat.le_refl _) (by simp) ?_; (case hd => rfl); (case hg => rfl); (case hr => first | (go_simp; done) | (go_simp; rfl)); (case hp => exact (Reps.one (show Kd.M Kd.string _ _ _ ((rd_T27 l1 x15_1).f5) [.string ((rd_T27 l1 x15_1).f5)] from rfl) (Reps.none _ _))); intro v406 w21 ho22 hb hg_ hnew_; clear hg_ hnew_; (first | rw [← Ny405.out] at ho22 | (simp only [Int.reduceToNat] at ho22; rw [← Ny405.out] at ho22)); have _ := am (Kd.R_below (ru HO_0.out) hb); have _ := am (Kd.R_below (ru HO401.out) hb); have _ := am (Kd.R_below (ru HO404.out) hb); have _ := am (Kd.R_lower ho22 (below_size (beu HB.out))); have _ := am (blk_below (bu BK398.out) hb); have _ := am (below_step (beu HB.out) hb); clear HO_0 HO401 HO404 BK398 HB; rename_i HO_0 HO401 HO404 HO407 BK398 HB; clear hb ho22; obtain ⟨Ao23, co23, eo23⟩ := Kd.R_slice HO404.out; subst eo23; obtain ⟨Ao24, co24, eo24⟩ := Kd.R_slice HO407.out; subst eo24) | ((with_reducible refine gate_callee (f := 45) rfl ?_); refine goesL_ (some 41) rfl rfl Tryd.func45 (by kernel_rfl) rfl #[.slice Ao23 t402.length co23, .slice Ao24 y405.length co24] rfl ap1 ?_; (with_reducible refine (packet_Text.calls k1 _ _ t402 _ _ y405 t408 _ ?side1 ?side2 ?side3 ?side4 A12.out).mono ?_); (case side1 => exact cu (Kd.R_reads' HO404.out).2.2); (case side2 => exact (Kd.R_reads' HO404.out).2.1); (case side3 => exact cu (Kd.R_reads' HO407.out).2.2); (case side4 => exact (Kd.R_reads' HO407.out).2.1); rintro e w25 ⟨v409, rfl, ho0, hb⟩; refine ⟨_, rfl, ?_⟩; have _ := am (Kd.R_elder' (ru HO_0.out) (Kd.R_base ho0) hb); have _ := am (Kd.R_below (ru HO401.out) hb); have _ := am (Kd.R_elder' (ru HO404.out) (Kd.R_base ho0) hb); have _ := am (Kd.R_below (ru HO407.out) hb); have _ := am (Kd.R_lower (Kd.R_new' (Kd.R_new' ho0 (Kd.R_lt (ru HO_0.out))) (Kd.R_lt (ru HO404.out))) (below_size (beu HB.out))); have _ := am (blk_below (bu BK398.out) hb); have _ := am (below_step (beu HB.out) hb); clear HO_0 HO401 HO404 HO407 BK398 HB; rename_i HO_0 HO401 HO404 HO407 HO410 BK398 HB; (try clear hb); (try clear ho0)))
      go_roundg k1
      case measure => have := HK1.out; omega
      case rel => exact ⟨(t408), (wrap64 (x15_1 + 1)), ap3, H', ⟨by have := HK1.out; omega⟩, ⟨ru (Kd.R_mono HO410.out (fun _ hk => trivial))⟩, ⟨beu HB.out⟩⟩
     ·rw [if_neg c10] at H
      exact absurd H (by simp)
    ·rw [if_neg c9] at H
     exact absurd H (by simp)
   ·rw [if_neg c8] at H
    have c8b0 : decide (x15_1 < (l1.length : Int)) = false := decide_eq_false c8; clear c8; obtain rfl := Option.some.inj H; simp only [Option.some.injEq, Prod.mk.injEq] at H; obtain ⟨rfl⟩ := H
    go_wp2
    go_ret
    exact ⟨_, ap4, ru HO_0.out, beu HB.out⟩
end Go.Proofs.YtnacmehhmheooaaDoor.PAll
