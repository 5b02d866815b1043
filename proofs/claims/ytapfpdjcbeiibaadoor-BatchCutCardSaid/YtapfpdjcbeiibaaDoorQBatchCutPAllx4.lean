
import Derived.Test.YtapfpdjcbeiibaaDoorQBatchCutPAllx0
import Derived.Test.YtapfpdjcbeiibaaDoorQBatchCutPAllx3
namespace Go.Proofs.YtapfpdjcbeiibaaDoor.PAll
open Go.RowKit Go.Proofs.YtapfpdjcbeiibaaDoorW.PrintWords Go.Proofs.YtapfpdjcbeiibaaDoorW.PrintLast Go.Proofs.YtapfpdjcbeiibaaDoorW.PrintMore
attribute [local go_sem] max2_int max_two
set_option linter.unusedVariables false
set_option linter.unusedSimpArgs false
def packet_New.f (l0 : List Int) : Option (List Int × Bool) := if l0.length < 140737488355328 then some (l0, false) else none
theorem packet_New.calls (A0 : Option Addr) (c0 : Nat) (l0 : List Int) (r1 : List Int) (r2 : Bool) (w0 w : World) (hB : Below w0.heap.size w0 w) (hr0 : Kd.C (Kd.int .u8) w A0 l0.length l0) (hc0 : l0.length ≤ c0) (h : packet_New.f l0 = some (r1, r2)) :
  Calls Tryd.prog 26 #[.slice A0 l0.length c0] w fun e w' => ∃ g_ : Nat, e = .returned (.pointer (some ⟨g_, 0, none⟩)) ∧ JS80 w0 w' g_ r1 r2 ∧ Below w0.heap.size w0 w' ∧ Below w.heap.size w w' := by
 have hl : l0.length < 140737488355328 := by
  by_cases c : l0.length < 140737488355328
  ·exact c
  ·rw [packet_New.f, if_neg c] at h; cases h
 rw [packet_New.f, if_pos hl] at h; have h := Option.some.inj h; simp only [Prod.mk.injEq] at h; obtain ⟨rfl, rfl⟩ := h; have HB0 := Aside0.mk hB; have HR := Aside0.mk hr0; have HC := Aside0.mk hc0; have HN := Aside0.mk (show slices_Clone_byte_byte.f l0 = some l0 from if_pos hl); clear hr0 hc0 hl hB
 go_enter Tryd.func26, Tryd.ntmps26
 go_wp2_with (go_at_call 49; refine (slices_Clone_byte_byte.calls _ _ l0 l0 _ HR.out HC.out HN.out).mono ?_; rintro e w1 ⟨v1, rfl, ho, hb⟩; obtain ⟨A1, c1, eo⟩ := Kd.R_slice ho; subst eo; have HO := Aside0.mk ho; have HB := Aside0.mk hb; clear ho hb)
 go_ret
 exact ⟨_, rfl, ⟨w1, IsS80.new w1 w1 A1 c1 l0 false (Below.refl _ _) ⟨(Kd.R_reads' HO.out).2.2, (Kd.R_reads' HO.out).2.1⟩, below_alloc (Below.refl _ _) _, below_then HB0.out HB0.out.size HB.out⟩, below_then HB0.out HB0.out.size (below_alloc HB.out _), below_alloc HB.out _⟩
mutual
def packet_Number.l0 : Nat → List Int → List Int → Int → Int → Option (List Int)
 | 0, _, _, _, _ => none
 | k + 1, x5, x10, x11, x12 => if x12 < x11 then (if 0 ≤ x12 then (if x12 < (x10.length : Int) then (packet_Number.l1 k x5 (rd x10 x12) x10 x11 x12) else (none)) else (none)) else (some x5)
def packet_Number.l1 : Nat → List Int → Int → List Int → Int → Int → Option (List Int)
 | 0, _, _, _, _, _ => none
 | k + 1, x5, x7, x10, x11, x12 => if x7 ≥ 128 then (if x5.length < 140737488355328 then (packet_Number.l1 k (x5 ++ [Go.bits .or .u8 ((x7) % 256) 128]) (x7 / 128) x10 x11 x12) else (none)) else (if x5.length < 140737488355328 then (packet_Number.l0 k (x5 ++ [(x7) % 256]) x10 x11 (wrap64 (x12 + 1))) else (none))
end
def packet_Number.f (k : Nat) (l0 : List Int) (l1 : List Int) : Option (List Int) := (slices_Clone_byte_byte.f l0).bind fun t249 => (packet_Number.l0 k t249 l1 (l1.length : Int) 0)
theorem packet_Number.mono_l : ∀ k, (∀ y0 y1 y2 y3, LeO (packet_Number.l0 k y0 y1 y2 y3) (packet_Number.l0 (k + 1) y0 y1 y2 y3)) ∧ (∀ y0 y1 y2 y3 y4, LeO (packet_Number.l1 k y0 y1 y2 y3 y4) (packet_Number.l1 (k + 1) y0 y1 y2 y3 y4))
 | 0 => ⟨fun _ _ _ _ r h => by simp [packet_Number.l0] at h, fun _ _ _ _ _ r h => by simp [packet_Number.l1] at h⟩
 | k + 1 => by
  obtain ⟨ih0, ih1⟩ := packet_Number.mono_l k
  refine ⟨?_, ?_⟩
  ·intro y0 y1 y2 y3
   unfold packet_Number.l0
   repeat' first
   | (with_reducible exact ih0 _ _ _ _)
   | (with_reducible exact ih1 _ _ _ _ _)
   | (with_reducible exact LeO.refl _)
   | (with_reducible exact LeO.none _)
   | (with_reducible refine LeO.ite ?_ ?_)
   | (with_reducible refine LeO.bind ?_ (fun _ => ?_))
   | exact ih0 _ _ _ _
   | exact ih1 _ _ _ _ _
   | exact LeO.none _
   | refine LeO.ite ?_ ?_
   | refine LeO.bind ?_ (fun _ => ?_)
  ·intro y0 y1 y2 y3 y4
   unfold packet_Number.l1
   repeat' first
   | (with_reducible exact ih0 _ _ _ _)
   | (with_reducible exact ih1 _ _ _ _ _)
   | (with_reducible exact LeO.refl _)
   | (with_reducible exact LeO.none _)
   | (with_reducible refine LeO.ite ?_ ?_)
   | (with_reducible refine LeO.bind ?_ (fun _ => ?_))
   | exact ih0 _ _ _ _
   | exact ih1 _ _ _ _ _
   | exact LeO.none _
   | refine LeO.ite ?_ ?_
   | refine LeO.bind ?_ (fun _ => ?_)
theorem packet_Number.mono : ∀ a0 a1 k, LeO (packet_Number.f k a0 a1) (packet_Number.f (k + 1) a0 a1) := by
 intro a0 a1 k; obtain ⟨ih0, ih1⟩ := packet_Number.mono_l k
 unfold packet_Number.f
 repeat' first
   | (with_reducible exact ih0 _ _ _ _)
   | (with_reducible exact ih1 _ _ _ _ _)
   | (with_reducible exact LeO.refl _)
   | (with_reducible exact LeO.none _)
   | (with_reducible refine LeO.ite ?_ ?_)
   | (with_reducible refine LeO.bind ?_ (fun _ => ?_))
   | exact ih0 _ _ _ _
   | exact ih1 _ _ _ _ _
   | exact LeO.none _
   | refine LeO.ite ?_ ?_
   | refine LeO.bind ?_ (fun _ => ?_)
set_option maxHeartbeats 8000000 in
set_option maxRecDepth 100000 in
theorem packet_Number.calls (k : Nat) (A0 : Option Addr) (c0 : Nat) (l0 : List Int) (A1 : Option Addr) (c1 : Nat) (l1 : List Int) (r : List Int) (w : World) (hr0 : Kd.C (Kd.int .u8) w A0 l0.length l0) (hc0 : l0.length ≤ c0) (hr1 : Kd.C (Kd.int .u64) w A1 l1.length l1) (hc1 : l1.length ≤ c1) (h : packet_Number.f k l0 l1 = some r) :
  Calls Tryd.prog 52 #[.slice A0 l0.length c0, .slice A1 l1.length c1] w fun e w' => ∃ v0_ : Value, e = .returned (v0_) ∧ Kd.R (Kd.int .u8) 5 w' w.heap.size (fun _ => True) v0_ r ∧ Below w.heap.size w w' := by
 have HR0 := Aside0.mk hr0; have HC0 := Aside0.mk hc0; clear hr0 hc0; have HR1 := Aside0.mk hr1; have HC1 := Aside0.mk hc1; clear hr1 hc1; have HB := Aside0.mk (Below.refl w.heap.size w); have H : ((slices_Clone_byte_byte.f l0).bind fun t249 => (packet_Number.l0 k t249 l1 (l1.length : Int) 0)) = some r := h; clear h; replace H := obm H; obtain ⟨t249, A30, H⟩ := H; replace H : (packet_Number.l0 k t249 l1 (l1.length : Int) 0) = some r := H; have A3 := Aside0.mk A30; clear A30; have H' := Aside0.mk H; clear H
 go_enter Tryd.func52, Tryd.ntmps52
 go_wp2_with (first | ((with_reducible refine gate_callee (f := 49) rfl ?_); refine goesL_ (some 9) rfl rfl Tryd.func49 (by kernel_rfl) rfl #[.slice A0 l0.length c0] rfl ap1 ?_; (with_reducible refine (slices_Clone_byte_byte.calls _ _ l0 t249 _ ?side1 ?side2 A3.out).mono ?_); (case side1 => repeat (first | exact HR0.out | (with_reducible refine Kd.C_alloc ?_ _) | (with_reducible refine Kd.C_drewN ?_ _) | (with_reducible refine Kd.C_drew ?_))); (case side2 => exact HC0.out); rintro e w4 ⟨v250, rfl, ho0, hb⟩; refine ⟨_, rfl, ?_⟩; have _ := Aside0.mk (Kd.R_lower ho0 (below_size (beu HB.out))); have _ := Aside0.mk (below_step (beu HB.out) hb); clear HB; rename_i HO251 HB; (try clear hb); (try clear hb2); (try clear hk); (try clear hi); (try clear ho0)))
 go_loopg [5, 12] k (fun kq v5 v12 w' => ∃ (x5_1 : List Int) (x12_1 : Int), v12 = .int .i64 x12_1 ∧ Aside0 (packet_Number.l0 kq x5_1 l1 (l1.length : Int) x12_1 = some r) ∧ Aside0 (kq ≤ k) ∧ Aside0 (Kd.R (Kd.int .u8) 5 w' w.heap.size (fun _ => True) v5 x5_1) ∧ Aside0 (Below w.heap.size w w'))
 case atStart => exact ⟨(t249), (0), ap3, H', ⟨Nat.le_refl _⟩, ⟨ru HO251.out⟩, ⟨beu HB.out⟩⟩
 case round =>
  clear H'; (try clear c1); (try clear p2); (try clear c4); obtain ⟨x5_1, x12_1, rfl, HA, HK1, HO_5, HB⟩ := hrel
  cases gk with
  | zero => exact absurd HA.out (by simp [packet_Number.l0])
  | succ k1 =>
   have H := HA.out; clear HA; simp only [packet_Number.l0] at H
   by_cases c5 : x12_1 < (l1.length : Int)
   ·rw [if_pos c5] at H
    have c5b0 : decide (x12_1 < (l1.length : Int)) = true := decide_eq_true c5; clear c5
    by_cases c6 : 0 ≤ x12_1
    ·rw [if_pos c6] at H
     have c6b0 : decide (0 ≤ x12_1) = true := decide_eq_true c6; clear c6
     by_cases c7 : x12_1 < (l1.length : Int)
     ·rw [if_pos c7] at H
      have c7b0 : decide (x12_1 < (l1.length : Int)) = true := decide_eq_true c7; clear c7; have H' := Aside0.mk H; clear H; have p252 : 0 ≤ (x12_1 : Int) := of_decide_eq_true ap2; have q252 : x12_1 < (l1.length : Int) := of_decide_eq_true ap2; obtain ⟨ad252, e252, hx252_0⟩ := Kd.at_int HR1.out x12_1 p252 q252
      cases e252
      replace hx252_0 := (HB.out.cell (World.block_lt_of_cell? w _ hx252_0)).trans hx252_0; replace p252 := eq_true p252; replace q252 := eq_true q252
      go_wp2
      go_loopg [5, 7] k1 (fun kq v5 v7 w' => ∃ (x5_2 : List Int) (x7_2 : Int), v7 = .int .u64 x7_2 ∧ Aside0 (packet_Number.l1 kq x5_2 x7_2 l1 (l1.length : Int) x12_1 = some r) ∧ Aside0 (kq ≤ k1) ∧ Aside0 (Kd.R (Kd.int .u8) 5 w' w.heap.size (fun _ => True) v5 x5_2) ∧ Aside0 (Below w.heap.size w w'))
      case atStart => exact ⟨(x5_1), (rd l1 x12_1), ap3, H', ⟨Nat.le_refl _⟩, ⟨ru HO_5.out⟩, ⟨beu HB.out⟩⟩
      case round =>
       clear H'; (try clear c1); (try clear p2); (try clear q2); (try clear hx2); (try clear c4); (try clear c5); (try clear c5b0); (try clear c6); (try clear c6b0); (try clear c7); (try clear c7b0); (try clear hx252_0); (try clear p2); (try clear p252); (try clear q252); obtain ⟨x5_2, x7_2, rfl, HA, HK2, HO_5, HB⟩ := hrel
       cases gk with
       | zero => exact absurd HA.out (by simp [packet_Number.l1])
       | succ k2 =>
        have H := HA.out; clear HA; simp only [packet_Number.l1] at H
        by_cases c8 : x7_2 ≥ 128
        ·rw [if_pos c8] at H
         have c8b0 : decide (128 ≤ x7_2) = true := decide_eq_true c8; clear c8
         by_cases c9 : x5_2.length < 140737488355328
         ·rw [if_pos c9] at H
          have LMc9 := Aside0.mk c9; clear c9; obtain ⟨y253, hy253⟩ : ∃ y_ : List Int, y_ = (x5_2 ++ [Go.bits .or .u8 ((x7_2) % 256) 128]) := ⟨_, rfl⟩
          replace H : (packet_Number.l1 k2 y253 (x7_2 / 128) l1 (l1.length : Int) x12_1) = some r := by first | (rw [hy253]; with_reducible exact H) | (have H2_ := (Option.bind_some _ _).symm.trans H; rw [hy253]; with_reducible exact H2_) | (have H2_ := (Option.bind_some _ _).symm.trans H; with_reducible exact H2_) | with_reducible exact H | (rw [hy253]; exact H) | exact H
          have Ny253 := Aside0.mk hy253; clear hy253; have H' := Aside0.mk H; clear H
          go_wp2_with (first | ((with_reducible refine gate_builtin (b := .append) (xs := #[.tmp 20, .tmp 24]) rfl ?_); at_builtin; refine Kd.R_append (Kd.int .u8) (w0 := w) w.heap.size rfl (.tmp 20) (.tmp 24) 52 5 (.int .u8 0) 1 rfl Tryd.underlying52 info5 rfl (by decide) (by omega) u5 x5_2 (Go.bits .or .u8 ((x7_2) % 256) 128) [.int .u8 (Go.bits .or .u8 ((x7_2) % 256) 128)] (fun _ => True) (fun _ => False) rfl rfl ?aP (fun _ hk => hk.elim) ?aF ?aO ?aB ?aS ?aL ?_; (case aP => exact rfl); (case aB => exact (beu HB.out)); (case aF => exact (fun _ _ => trivial)); (case aO => exact (ru HO_5.out)); (case aS => exact (below_size (beu HB.out))); (case aL => have := LMc9.out; omega); intro v254 w10 ho hb hg hat; rw [← Ny253.out] at ho; have _ := Aside0.mk (hb); have _ := Aside0.mk (ho); clear HB HO_5; rename_i HB HO255; clear ho hb hg hat))
          go_roundg k2
          case measure => have := HK1.out; have := HK2.out; omega
          case rel => exact ⟨(y253), (x7_2 / 128), ap3, H', ⟨by have := HK1.out; have := HK2.out; omega⟩, ⟨ru HO255.out⟩, ⟨beu HB.out⟩⟩
         ·rw [if_neg c9] at H
          exact absurd H (by simp)
        ·rw [if_neg c8] at H
         have c8b0 : decide (128 ≤ x7_2) = false := decide_eq_false c8; clear c8
         by_cases c11 : x5_2.length < 140737488355328
         ·rw [if_pos c11] at H
          have LMc11 := Aside0.mk c11; clear c11; obtain ⟨y256, hy256⟩ : ∃ y_ : List Int, y_ = (x5_2 ++ [(x7_2) % 256]) := ⟨_, rfl⟩
          replace H : (packet_Number.l0 k2 y256 l1 (l1.length : Int) (wrap64 (x12_1 + 1))) = some r := by first | (rw [hy256]; with_reducible exact H) | (have H2_ := (Option.bind_some _ _).symm.trans H; rw [hy256]; with_reducible exact H2_) | (have H2_ := (Option.bind_some _ _).symm.trans H; with_reducible exact H2_) | with_reducible exact H | (rw [hy256]; exact H) | exact H
          have Ny256 := Aside0.mk hy256; clear hy256; have H' := Aside0.mk H; clear H
          go_wp2_with (first | ((with_reducible refine gate_builtin (b := .append) (xs := #[.tmp 26, .tmp 29]) rfl ?_); at_builtin; refine Kd.R_append (Kd.int .u8) (w0 := w) w.heap.size rfl (.tmp 26) (.tmp 29) 52 5 (.int .u8 0) 1 rfl Tryd.underlying52 info5 rfl (by decide) (by omega) u5 x5_2 ((x7_2) % 256) [.int .u8 ((x7_2) % 256)] (fun _ => True) (fun _ => False) rfl rfl ?aP (fun _ hk => hk.elim) ?aF ?aO ?aB ?aS ?aL ?_; (case aP => exact rfl); (case aB => exact (beu HB.out)); (case aF => exact (fun _ _ => trivial)); (case aO => exact (ru HO_5.out)); (case aS => exact (below_size (beu HB.out))); (case aL => have := LMc11.out; omega); intro v257 w12 ho hb hg hat; rw [← Ny256.out] at ho; have _ := Aside0.mk (hb); have _ := Aside0.mk (ho); clear HB HO_5; rename_i HB HO258; clear ho hb hg hat))
          go_roundg k2
          case measure => have := HK1.out; have := HK2.out; omega
          case rel => exact ⟨(y256), (wrap64 (x12_1 + 1)), ap3, H', ⟨by have := HK1.out; have := HK2.out; omega⟩, ⟨ru HO258.out⟩, ⟨beu HB.out⟩⟩
         ·rw [if_neg c11] at H
          exact absurd H (by simp)
     ·rw [if_neg c7] at H
      exact absurd H (by simp)
    ·rw [if_neg c6] at H
     exact absurd H (by simp)
   ·rw [if_neg c5] at H
    have c5b0 : decide (x12_1 < (l1.length : Int)) = false := decide_eq_false c5; clear c5; obtain rfl := Option.some.inj H; simp only [Option.some.injEq, Prod.mk.injEq] at H; obtain ⟨rfl⟩ := H
    go_wp2
    go_ret
    exact ⟨_, ap4, ru HO_5.out, beu HB.out⟩
def packet_Text.l0 : Nat → List Int → List ByteArray → Int → Int → Option (List Int)
 | 0, _, _, _, _ => none
 | k + 1, x5, x10, x11, x12 => if x12 < x11 then (if 0 ≤ x12 then (if x12 < (x10.length : Int) then ((packet_Number.f k x5 (([IntKind.u64.wrap (((rdOf ByteArray.empty x10 x12).size : Int))] : List Int))).bind fun t266 => (if t266.length + (rdOf ByteArray.empty x10 x12).size < 140737488355328 then (packet_Text.l0 k (t266 ++ bytesOf (rdOf ByteArray.empty x10 x12)) x10 x11 (wrap64 (x12 + 1))) else (none))) else (none)) else (none)) else (some x5)
def packet_Text.f (k : Nat) (l0 : List Int) (l1 : List ByteArray) : Option (List Int) := (slices_Clone_byte_byte.f l0).bind fun t259 => (packet_Text.l0 k t259 l1 (l1.length : Int) 0)
theorem packet_Text.mono_l : ∀ k, (∀ y0 y1 y2 y3, LeO (packet_Text.l0 k y0 y1 y2 y3) (packet_Text.l0 (k + 1) y0 y1 y2 y3))
 | 0 => fun _ _ _ _ r h => by simp [packet_Text.l0] at h
 | k + 1 => by
  have ih0 := packet_Text.mono_l k
  ·intro y0 y1 y2 y3
   unfold packet_Text.l0
   repeat' first
   | (with_reducible exact ih0 _ _ _ _)
   | (with_reducible exact packet_Number.mono _ _ _)
   | (with_reducible exact LeO.refl _)
   | (with_reducible exact LeO.none _)
   | (with_reducible refine LeO.ite ?_ ?_)
   | (with_reducible refine LeO.bind ?_ (fun _ => ?_))
   | exact ih0 _ _ _ _
   | exact packet_Number.mono _ _ _
   | exact LeO.none _
   | refine LeO.ite ?_ ?_
   | refine LeO.bind ?_ (fun _ => ?_)
theorem packet_Text.mono : ∀ a0 a1 k, LeO (packet_Text.f k a0 a1) (packet_Text.f (k + 1) a0 a1) := by
 intro a0 a1 k; have ih0 := packet_Text.mono_l k
 unfold packet_Text.f
 repeat' first
   | (with_reducible exact ih0 _ _ _ _)
   | (with_reducible exact packet_Number.mono _ _ _)
   | (with_reducible exact LeO.refl _)
   | (with_reducible exact LeO.none _)
   | (with_reducible refine LeO.ite ?_ ?_)
   | (with_reducible refine LeO.bind ?_ (fun _ => ?_))
   | exact ih0 _ _ _ _
   | exact packet_Number.mono _ _ _
   | exact LeO.none _
   | refine LeO.ite ?_ ?_
   | refine LeO.bind ?_ (fun _ => ?_)
set_option maxHeartbeats 8000000 in
set_option maxRecDepth 100000 in
theorem packet_Text.calls (k : Nat) (A0 : Option Addr) (c0 : Nat) (l0 : List Int) (A1 : Option Addr) (c1 : Nat) (l1 : List ByteArray) (r : List Int) (w : World) (hr0 : Kd.C (Kd.int .u8) w A0 l0.length l0) (hc0 : l0.length ≤ c0) (hr1 : Kd.C Kd.string w A1 l1.length l1) (hc1 : l1.length ≤ c1) (h : packet_Text.f k l0 l1 = some r) :
  Calls Tryd.prog 53 #[.slice A0 l0.length c0, .slice A1 l1.length c1] w fun e w' => ∃ v0_ : Value, e = .returned (v0_) ∧ Kd.R (Kd.int .u8) 5 w' w.heap.size (fun _ => True) v0_ r ∧ Below w.heap.size w w' := by
 have HR0 := Aside0.mk hr0; have HC0 := Aside0.mk hc0; clear hr0 hc0; have HR1 := Aside0.mk hr1; have HC1 := Aside0.mk hc1; clear hr1 hc1; have HB := Aside0.mk (Below.refl w.heap.size w); have H : ((slices_Clone_byte_byte.f l0).bind fun t259 => (packet_Text.l0 k t259 l1 (l1.length : Int) 0)) = some r := h; clear h; replace H := obm H; obtain ⟨t259, A30, H⟩ := H; replace H : (packet_Text.l0 k t259 l1 (l1.length : Int) 0) = some r := H; have A3 := Aside0.mk A30; clear A30; have H' := Aside0.mk H; clear H
 go_enter Tryd.func53, Tryd.ntmps53
 go_wp2_with (first | ((with_reducible refine gate_callee (f := 49) rfl ?_); refine goesL_ (some 9) rfl rfl Tryd.func49 (by kernel_rfl) rfl #[.slice A0 l0.length c0] rfl ap1 ?_; (with_reducible refine (slices_Clone_byte_byte.calls _ _ l0 t259 _ ?side1 ?side2 A3.out).mono ?_); (case side1 => repeat (first | exact HR0.out | (with_reducible refine Kd.C_alloc ?_ _) | (with_reducible refine Kd.C_drewN ?_ _) | (with_reducible refine Kd.C_drew ?_))); (case side2 => exact HC0.out); rintro e w4 ⟨v260, rfl, ho0, hb⟩; refine ⟨_, rfl, ?_⟩; have _ := Aside0.mk (Kd.R_lower ho0 (below_size (beu HB.out))); have _ := Aside0.mk (below_step (beu HB.out) hb); clear HB; rename_i HO261 HB; (try clear hb); (try clear hb2); (try clear hk); (try clear hi); (try clear ho0)))
 go_loopg [5, 12] k (fun kq v5 v12 w' => ∃ (x5_1 : List Int) (x12_1 : Int), v12 = .int .i64 x12_1 ∧ Aside0 (packet_Text.l0 kq x5_1 l1 (l1.length : Int) x12_1 = some r) ∧ Aside0 (kq ≤ k) ∧ Aside0 (Kd.R (Kd.int .u8) 5 w' w.heap.size (fun _ => True) v5 x5_1) ∧ Aside0 (Below w.heap.size w w'))
 case atStart => exact ⟨(t259), (0), ap3, H', ⟨Nat.le_refl _⟩, ⟨ru HO261.out⟩, ⟨beu HB.out⟩⟩
 case round =>
  clear H'; (try clear c1); (try clear p2); (try clear c4); obtain ⟨x5_1, x12_1, rfl, HA, HK1, HO_5, HB⟩ := hrel
  cases gk with
  | zero => exact absurd HA.out (by simp [packet_Text.l0])
  | succ k1 =>
   have H := HA.out; clear HA; simp only [packet_Text.l0] at H
   by_cases c5 : x12_1 < (l1.length : Int)
   ·rw [if_pos c5] at H
    have c5b0 : decide (x12_1 < (l1.length : Int)) = true := decide_eq_true c5; clear c5
    by_cases c6 : 0 ≤ x12_1
    ·rw [if_pos c6] at H
     have c6b0 : decide (0 ≤ x12_1) = true := decide_eq_true c6; clear c6
     by_cases c7 : x12_1 < (l1.length : Int)
     ·rw [if_pos c7] at H
      have c7b0 : decide (x12_1 < (l1.length : Int)) = true := decide_eq_true c7; clear c7; obtain ⟨y263, hy263⟩ : ∃ y_ : List Int, y_ = (([IntKind.u64.wrap (((rdOf ByteArray.empty l1 x12_1).size : Int))] : List Int)) := ⟨_, rfl⟩
      replace H : ((packet_Number.f k1 x5_1 y263).bind fun t266 => (if t266.length + (rdOf ByteArray.empty l1 x12_1).size < 140737488355328 then (packet_Text.l0 k1 (t266 ++ bytesOf (rdOf ByteArray.empty l1 x12_1)) l1 (l1.length : Int) (wrap64 (x12_1 + 1))) else (none))) = some r := by first | (rw [hy263]; with_reducible exact H) | (have H2_ := (Option.bind_some _ _).symm.trans H; rw [hy263]; with_reducible exact H2_) | (have H2_ := (Option.bind_some _ _).symm.trans H; with_reducible exact H2_) | with_reducible exact H | (rw [hy263]; exact H) | exact H
      have Ny263 := Aside0.mk hy263; clear hy263; replace H := obm H; obtain ⟨t266, A80, H⟩ := H; replace H : (if t266.length + (rdOf ByteArray.empty l1 x12_1).size < 140737488355328 then (packet_Text.l0 k1 (t266 ++ bytesOf (rdOf ByteArray.empty l1 x12_1)) l1 (l1.length : Int) (wrap64 (x12_1 + 1))) else (none)) = some r := H; have A8 := Aside0.mk A80; clear A80
      by_cases c9 : t266.length + (rdOf ByteArray.empty l1 x12_1).size < 140737488355328
      ·rw [if_pos c9] at H
       have LMc9 := Aside0.mk c9; clear c9; obtain ⟨y269, hy269⟩ : ∃ y_ : List Int, y_ = (t266 ++ bytesOf (rdOf ByteArray.empty l1 x12_1)) := ⟨_, rfl⟩
       replace H : (packet_Text.l0 k1 y269 l1 (l1.length : Int) (wrap64 (x12_1 + 1))) = some r := by first | (rw [hy269]; with_reducible exact H) | (have H2_ := (Option.bind_some _ _).symm.trans H; rw [hy269]; with_reducible exact H2_) | (have H2_ := (Option.bind_some _ _).symm.trans H; with_reducible exact H2_) | with_reducible exact H | (rw [hy269]; exact H) | exact H
       have Ny269 := Aside0.mk hy269; clear hy269; have H' := Aside0.mk H; clear H; have p262 : 0 ≤ (x12_1 : Int) := of_decide_eq_true ap2; have q262 : x12_1 < (l1.length : Int) := of_decide_eq_true ap2; obtain ⟨ad262, e262, hx262_0⟩ := Kd.at_string HR1.out x12_1 p262 q262
       cases e262
       replace hx262_0 := (HB.out.cell (World.block_lt_of_cell? w _ hx262_0)).trans hx262_0; replace p262 := eq_true p262; replace q262 := eq_true q262
       go_wp2_with (first | ((with_reducible refine gate_dst (N := 20) rfl ?_); refine Kd.R_lit (Kd.int .u64) _ 75 ?hg (N := 20) ?hd (xs := ([IntKind.u64.wrap (((rdOf ByteArray.empty l1 x12_1).size : Int))] : List Int)) (inner := [.int .u64 (IntKind.u64.wrap (((rdOf ByteArray.empty l1 x12_1).size : Int)))]) (ok := fun _ => True) (okp := fun _ => True) ?hr ?hp (fun _ hk => hk) trivial (Below.refl _ _) (Nat.le_refl _) (by simp) ?_; (case hd => rfl); (case hg => rfl); (case hr => first | (go_simp; done) | (go_simp; rfl)); (case hp => exact (Reps.one (show Kd.M (Kd.int .u64) _ _ _ (IntKind.u64.wrap (((rdOf ByteArray.empty l1 x12_1).size : Int))) [.int .u64 (IntKind.u64.wrap (((rdOf ByteArray.empty l1 x12_1).size : Int)))] from rfl) (Reps.none _ _))); intro v264 w10 ho11 hb hg_ hnew_; clear hg_ hnew_; (first | rw [← Ny263.out] at ho11 | (simp only [Int.reduceToNat] at ho11; rw [← Ny263.out] at ho11)); have _ := Aside0.mk (Kd.R_below (ru HO_5.out) hb); have _ := Aside0.mk (Kd.R_lower ho11 (below_size (beu HB.out))); have _ := Aside0.mk (below_step (beu HB.out) hb); clear HO_5 HB; rename_i HO_5 HO265 HB; clear hb ho11; obtain ⟨Ao12, co12, eo12⟩ := Kd.R_slice HO_5.out; subst eo12; obtain ⟨Ao13, co13, eo13⟩ := Kd.R_slice HO265.out; subst eo13) | ((with_reducible refine gate_callee (f := 52) rfl ?_); refine goesL_ (some 21) rfl rfl Tryd.func52 (by kernel_rfl) rfl #[.slice Ao12 x5_1.length co12, .slice Ao13 y263.length co13] rfl ap1 ?_; (with_reducible refine (packet_Number.calls k1 _ _ x5_1 _ _ y263 t266 _ ?side1 ?side2 ?side3 ?side4 A8.out).mono ?_); (case side1 => exact cu (Kd.R_reads' HO_5.out).2.2); (case side2 => exact (Kd.R_reads' HO_5.out).2.1); (case side3 => exact cu (Kd.R_reads' HO265.out).2.2); (case side4 => exact (Kd.R_reads' HO265.out).2.1); rintro e w14 ⟨v267, rfl, ho0, hb⟩; refine ⟨_, rfl, ?_⟩; have _ := Aside0.mk (Kd.R_elder' (ru HO_5.out) (Kd.R_base ho0) hb); have _ := Aside0.mk (Kd.R_below (ru HO265.out) hb); have _ := Aside0.mk (Kd.R_lower (Kd.R_new' ho0 (Kd.R_lt (ru HO_5.out))) (below_size (beu HB.out))); have _ := Aside0.mk (below_step (beu HB.out) hb); clear HO_5 HO265 HB; rename_i HO_5 HO265 HO268 HB; (try clear hb); (try clear hb2); (try clear hk); (try clear hi); (try clear ho0)) | (at_builtin; refine print_append_str (w0 := w) w.heap.size rfl (.tmp 21) _ 52 9 5 rfl Tryd.underlying52 Tryd.underlying9 info5 v267 t266 (rdOf ByteArray.empty l1 x12_1) rfl rfl ?aO ?aB ?aS ?aL ?_; (case aB => exact (beu HB.out)); (case aO => exact (Kd.own_of_R (ru (Kd.R_mono HO268.out (fun _ hk => trivial))))); (case aS => exact (below_size (beu HB.out))); (case aL => have := LMc9.out; omega); intro v270 w15 ho0 hb hg; have ho := Kd.R_of_own (h1 := fun _ => rfl) (ok := fun _ => True) ho0 (fun _ _ => trivial); clear ho0; have hat := True.intro; rw [← Ny269.out] at ho; change Kd.R (Kd.int .u8) 5 w15 w.heap.size (fun _ => True) v270 y269 at ho; have _ := Aside0.mk (Kd.R_over' (ru HO265.out) (Kd.R_typed (ru HO268.out)) (by decide) hg); have _ := Aside0.mk (hb); have _ := Aside0.mk (ho); clear HO265 HB HO268; rename_i HO265 HB HO271; clear ho hb hg hat))
       go_roundg k1
       case measure => have := HK1.out; omega
       case rel => exact ⟨(y269), (wrap64 (x12_1 + 1)), ap3, H', ⟨by have := HK1.out; omega⟩, ⟨ru HO271.out⟩, ⟨beu HB.out⟩⟩
      ·rw [if_neg c9] at H
       exact absurd H (by simp)
     ·rw [if_neg c7] at H
      exact absurd H (by simp)
    ·rw [if_neg c6] at H
     exact absurd H (by simp)
   ·rw [if_neg c5] at H
    have c5b0 : decide (x12_1 < (l1.length : Int)) = false := decide_eq_false c5; clear c5; obtain rfl := Option.some.inj H; simp only [Option.some.injEq, Prod.mk.injEq] at H; obtain ⟨rfl⟩ := H
    go_wp2
    go_ret
    exact ⟨_, ap4, ru HO_5.out, beu HB.out⟩
def batch_Put.f (k : Nat) (l0 : List Int) (a1_0 : Int) (a1_1 : Int) (a1_2 : Int) (a1_3 : Int) (a1_4 : Int) (a1_5 : ByteArray) (a1_6 : ByteArray) (a1_7 : ByteArray) (l1_8 : List ByteArray) : Option (List Int) := (packet_Number.f k l0 (([IntKind.u64.wrap (a1_0), IntKind.u64.wrap (a1_3), IntKind.u64.wrap (a1_4), IntKind.u64.wrap (a1_1), IntKind.u64.wrap (a1_2)] : List Int))).bind fun t276 => ((packet_Text.f k t276 (([a1_5, a1_6, a1_7] : List ByteArray))).bind fun t282 => ((packet_Number.f k t282 (([IntKind.u64.wrap ((l1_8.length : Int))] : List Int))).bind fun t288 => ((packet_Text.f k t288 l1_8).bind fun t291 => (some t291))))
theorem batch_Put.mono : ∀ a0 a1 a2 a3 a4 a5 a6 a7 a8 a9 k, LeO (batch_Put.f k a0 a1 a2 a3 a4 a5 a6 a7 a8 a9) (batch_Put.f (k + 1) a0 a1 a2 a3 a4 a5 a6 a7 a8 a9) := by
 intro a0 a1 a2 a3 a4 a5 a6 a7 a8 a9 k
 unfold batch_Put.f
 repeat' first
   | (with_reducible exact packet_Number.mono _ _ _)
   | (with_reducible exact packet_Text.mono _ _ _)
   | (with_reducible exact LeO.refl _)
   | (with_reducible exact LeO.none _)
   | (with_reducible refine LeO.ite ?_ ?_)
   | (with_reducible refine LeO.bind ?_ (fun _ => ?_))
   | exact packet_Number.mono _ _ _
   | exact packet_Text.mono _ _ _
   | exact LeO.none _
   | refine LeO.ite ?_ ?_
   | refine LeO.bind ?_ (fun _ => ?_)
def batch_Put.T2 : Bool × List (List Nat × List Nat) := (true, [([], []), ([], []), ([1], [1]), ([2], [2]), ([], []), ([4], [4]), ([5], [5]), ([], []), ([7], [7]), ([8], [8]), ([3, 6, 9], [3, 6, 9]), ([0, 10], [0, 10]), ([], []), ([12], [12]), ([13], [13]), ([14], [14]), ([15], [15]), ([11, 16, 11], [11, 16]), ([17, 17, 0, 1, 2, 3, 4, 5, 6, 7, 8, 9, 10, 11, 12, 13, 14, 15, 16, 17], [0, 17])])
def batch_Put.B2 : List Nat := [0, 0, 2, 6, 0, 16, 48, 0, 128, 384, 1022, 2047, 0, 4096, 12288, 28672, 61440, 131071, 262143]
theorem batch_Put.tab2 : rtab .any (opsOf Tryd.f28 2) = batch_Put.T2 := by kernel_rfl
theorem batch_Put.bits2 : waitsOk batch_Put.T2.2 batch_Put.B2 = true := by kernel_rfl
set_option maxHeartbeats 8000000 in
set_option maxRecDepth 100000 in
theorem batch_Put.calls (k : Nat) (A0 : Option Addr) (c0 : Nat) (l0 : List Int) (a1_0 : Int) (a1_1 : Int) (a1_2 : Int) (a1_3 : Int) (a1_4 : Int) (a1_5 : ByteArray) (a1_6 : ByteArray) (a1_7 : ByteArray) (A1_8 : Option Addr) (c1_8 : Nat) (l1_8 : List ByteArray) (r : List Int) (w : World) (hr0 : Kd.C (Kd.int .u8) w A0 l0.length l0) (hc0 : l0.length ≤ c0) (hr1_8 : Kd.C Kd.string w A1_8 l1_8.length l1_8) (hc1_8 : l1_8.length ≤ c1_8) (h : batch_Put.f k l0 a1_0 a1_1 a1_2 a1_3 a1_4 a1_5 a1_6 a1_7 l1_8 = some r) :
  Calls Tryd.prog 28 #[.slice A0 l0.length c0, .agg #[.int .i64 a1_0, .int .i64 a1_1, .int .i64 a1_2, .int .i64 a1_3, .int .i64 a1_4, .string a1_5, .string a1_6, .string a1_7, .slice A1_8 l1_8.length c1_8]] w fun e w' => ∃ v0_ : Value, e = .returned (v0_) ∧ Kd.R (Kd.int .u8) 5 w' w.heap.size (fun _ => True) v0_ r ∧ Below w.heap.size w w' := by
 have hu31 := Tryd.underlying31; have HR0 := Aside0.mk hr0; have HC0 := Aside0.mk hc0; clear hr0 hc0; have HR1_8 := Aside0.mk hr1_8; have HC1_8 := Aside0.mk hc1_8; clear hr1_8 hc1_8; have HB := Aside0.mk (Below.refl w.heap.size w); have H : ((packet_Number.f k l0 (([IntKind.u64.wrap (a1_0), IntKind.u64.wrap (a1_3), IntKind.u64.wrap (a1_4), IntKind.u64.wrap (a1_1), IntKind.u64.wrap (a1_2)] : List Int))).bind fun t276 => ((packet_Text.f k t276 (([a1_5, a1_6, a1_7] : List ByteArray))).bind fun t282 => ((packet_Number.f k t282 (([IntKind.u64.wrap ((l1_8.length : Int))] : List Int))).bind fun t288 => ((packet_Text.f k t288 l1_8).bind fun t291 => (some t291))))) = some r := h; clear h; obtain ⟨y273, hy273⟩ : ∃ y_ : List Int, y_ = (([IntKind.u64.wrap (a1_0), IntKind.u64.wrap (a1_3), IntKind.u64.wrap (a1_4), IntKind.u64.wrap (a1_1), IntKind.u64.wrap (a1_2)] : List Int)) := ⟨_, rfl⟩
 replace H : ((packet_Number.f k l0 y273).bind fun t276 => ((packet_Text.f k t276 (([a1_5, a1_6, a1_7] : List ByteArray))).bind fun t282 => ((packet_Number.f k t282 (([IntKind.u64.wrap ((l1_8.length : Int))] : List Int))).bind fun t288 => ((packet_Text.f k t288 l1_8).bind fun t291 => (some t291))))) = some r := by first | (rw [hy273]; with_reducible exact H) | (have H2_ := (Option.bind_some _ _).symm.trans H; rw [hy273]; with_reducible exact H2_) | (have H2_ := (Option.bind_some _ _).symm.trans H; with_reducible exact H2_) | with_reducible exact H | (rw [hy273]; exact H) | exact H
 have Ny273 := Aside0.mk hy273; clear hy273; replace H := obm H; obtain ⟨t276, A30, H⟩ := H; replace H : ((packet_Text.f k t276 (([a1_5, a1_6, a1_7] : List ByteArray))).bind fun t282 => ((packet_Number.f k t282 (([IntKind.u64.wrap ((l1_8.length : Int))] : List Int))).bind fun t288 => ((packet_Text.f k t288 l1_8).bind fun t291 => (some t291)))) = some r := H; have A3 := Aside0.mk A30; clear A30; obtain ⟨y279, hy279⟩ : ∃ y_ : List ByteArray, y_ = (([a1_5, a1_6, a1_7] : List ByteArray)) := ⟨_, rfl⟩
 replace H : ((packet_Text.f k t276 y279).bind fun t282 => ((packet_Number.f k t282 (([IntKind.u64.wrap ((l1_8.length : Int))] : List Int))).bind fun t288 => ((packet_Text.f k t288 l1_8).bind fun t291 => (some t291)))) = some r := by first | (rw [hy279]; with_reducible exact H) | (have H2_ := (Option.bind_some _ _).symm.trans H; rw [hy279]; with_reducible exact H2_) | (have H2_ := (Option.bind_some _ _).symm.trans H; with_reducible exact H2_) | with_reducible exact H | (rw [hy279]; exact H) | exact H
 have Ny279 := Aside0.mk hy279; clear hy279; replace H := obm H; obtain ⟨t282, A40, H⟩ := H; replace H : ((packet_Number.f k t282 (([IntKind.u64.wrap ((l1_8.length : Int))] : List Int))).bind fun t288 => ((packet_Text.f k t288 l1_8).bind fun t291 => (some t291))) = some r := H; have A4 := Aside0.mk A40; clear A40; obtain ⟨y285, hy285⟩ : ∃ y_ : List Int, y_ = (([IntKind.u64.wrap ((l1_8.length : Int))] : List Int)) := ⟨_, rfl⟩
 replace H : ((packet_Number.f k t282 y285).bind fun t288 => ((packet_Text.f k t288 l1_8).bind fun t291 => (some t291))) = some r := by first | (rw [hy285]; with_reducible exact H) | (have H2_ := (Option.bind_some _ _).symm.trans H; rw [hy285]; with_reducible exact H2_) | (have H2_ := (Option.bind_some _ _).symm.trans H; with_reducible exact H2_) | with_reducible exact H | (rw [hy285]; exact H) | exact H
 have Ny285 := Aside0.mk hy285; clear hy285; replace H := obm H; obtain ⟨t288, A50, H⟩ := H; replace H : ((packet_Text.f k t288 l1_8).bind fun t291 => (some t291)) = some r := H; have A5 := Aside0.mk A50; clear A50; replace H := obm H; obtain ⟨t291, A60, H⟩ := H; replace H : (some t291) = some r := H; have A6 := Aside0.mk A60; clear A60; obtain rfl := Option.some.inj H; simp only [Option.some.injEq, Prod.mk.injEq] at H; obtain ⟨rfl⟩ := H
 go_enter Tryd.func28, Tryd.ntmps28
 try go_wp2_with (first | ((with_reducible refine gate_dst (N := 3) rfl ?_); refine box_event ?hg (N := 3) ?hd (cs := #[.int .i64 a1_0, .int .i64 a1_1, .int .i64 a1_2, .int .i64 a1_3, .int .i64 a1_4, .string a1_5, .string a1_6, .string a1_7, .slice A1_8 l1_8.length c1_8]) (t := 31) ?hr ?_; (case hd => rfl); (case hg => rfl); (case hr => first | (go_simp; done) | (go_simp; rfl)); intro gb272 hg w7 hbox hb; have _ := Aside0.mk (below_step (beu HB.out) hb); have _ := Aside0.mk (hbox); have _ := Aside0.mk ((by rw [hg]; exact (below_size (beu HB.out)) : w.heap.size ≤ gb272)); have _ := Aside0.mk ((by rw [hg]; exact (below_size (beu HB.out)) : w.heap.size ≤ gb272)); clear HB; rename_i HB BK272 GW272 GE272; clear hb hbox hg; obtain ⟨hcz8_0, hcz8_1, hcz8_2, hcz8_3, hcz8_4, hcz8_5, hcz8_6, hcz8_7, hcz8_8⟩ := cells9 BK272.out; obtain ⟨hfz8_0, hfz8_1, hfz8_2, hfz8_3, hfz8_4, hfz8_5, hfz8_6, hfz8_7, hfz8_8⟩ := frozens9 BK272.out) | ((with_reducible refine gate_dst (N := 21) rfl ?_); refine Kd.R_lit (Kd.int .u64) _ 75 ?hg (N := 21) ?hd (xs := ([IntKind.u64.wrap (a1_0), IntKind.u64.wrap (a1_3), IntKind.u64.wrap (a1_4), IntKind.u64.wrap (a1_1), IntKind.u64.wrap (a1_2)] : List Int)) (inner := [.int .u64 (IntKind.u64.wrap (a1_0)), .int .u64 (IntKind.u64.wrap (a1_3)), .int .u64 (IntKind.u64.wrap (a1_4)), .int .u64 (IntKind.u64.wrap (a1_1)), .int .u64 (IntKind.u64.wrap (a1_2))]) (ok := fun _ => True) (okp := fun _ => True) ?hr ?hp (fun _ hk => hk) trivial (Below.refl _ _) (Nat.le_refl _) (by simp) ?_; (case hd => rfl); (case hg => rfl); (case hr => first | (go_simp; done) | (go_simp; rfl)); (case hp => exact (Reps.one (show Kd.M (Kd.int .u64) _ _ _ (IntKind.u64.wrap (a1_0)) [.int .u64 (IntKind.u64.wrap (a1_0))] from rfl) (Reps.one (show Kd.M (Kd.int .u64) _ _ _ (IntKind.u64.wrap (a1_3)) [.int .u64 (IntKind.u64.wrap (a1_3))] from rfl) (Reps.one (show Kd.M (Kd.int .u64) _ _ _ (IntKind.u64.wrap (a1_4)) [.int .u64 (IntKind.u64.wrap (a1_4))] from rfl) (Reps.one (show Kd.M (Kd.int .u64) _ _ _ (IntKind.u64.wrap (a1_1)) [.int .u64 (IntKind.u64.wrap (a1_1))] from rfl) (Reps.one (show Kd.M (Kd.int .u64) _ _ _ (IntKind.u64.wrap (a1_2)) [.int .u64 (IntKind.u64.wrap (a1_2))] from rfl) (Reps.none _ _))))))); intro v274 w9 ho10 hb hg_ hnew_; clear hg_ hnew_; (first | rw [← Ny273.out] at ho10 | (simp only [Int.reduceToNat] at ho10; rw [← Ny273.out] at ho10)); have _ := Aside0.mk (Kd.R_lower ho10 (below_size (beu HB.out))); have _ := Aside0.mk (blk_below (bu BK272.out) hb); have _ := Aside0.mk (below_step (beu HB.out) hb); clear BK272 HB; rename_i HO275 BK272 HB; clear hb ho10; obtain ⟨Ao11, co11, eo11⟩ := Kd.R_slice HO275.out; subst eo11) | ((with_reducible refine gate_callee (f := 52) rfl ?_); refine goesL_ (some 22) rfl rfl Tryd.func52 (by kernel_rfl) rfl #[.slice A0 l0.length c0, .slice Ao11 y273.length co11] rfl ap1 ?_; (with_reducible refine (packet_Number.calls k _ _ l0 _ _ y273 t276 _ ?side1 ?side2 ?side3 ?side4 A3.out).mono ?_); (case side1 => exact cu (Kd.C_below HR0.out HB.out)); (case side2 => exact HC0.out); (case side3 => exact cu (Kd.R_reads' HO275.out).2.2); (case side4 => exact (Kd.R_reads' HO275.out).2.1); rintro e w12 ⟨v277, rfl, ho0, hb⟩; refine ⟨_, rfl, ?_⟩; have _ := Aside0.mk (Kd.R_below (ru HO275.out) hb); have _ := Aside0.mk (Kd.R_lower ho0 (below_size (beu HB.out))); have _ := Aside0.mk (blk_below (bu BK272.out) hb); have _ := Aside0.mk (below_step (beu HB.out) hb); clear HO275 BK272 HB; rename_i HO275 HO278 BK272 HB; (try clear hb); (try clear hb2); (try clear hk); (try clear hi); (try clear ho0); obtain ⟨Ao13, co13, eo13⟩ := Kd.R_slice HO278.out; subst eo13))
 (try (rw [drewN_self w12]; generalize hq_ : World.drewN w12 _ = w12; have _ := Aside0.mk (show Kd.R _ _ w12 _ _ _ _ from by rw [← hq_]; exact Kd.R_drewN HO275.out _); have _ := Aside0.mk (show Kd.R _ _ w12 _ _ _ _ from by rw [← hq_]; exact Kd.R_drewN HO278.out _); have _ := Aside0.mk (blk_at hq_ BK272.out); have _ := Aside0.mk (below_at hq_ HB.out); clear hq_ HO275 HO278 BK272 HB; rename_i HO275 HO278 BK272 HB))
 have n0_ := Aside0.mk (Kd.R_drew HO275.out); have n1_ := Aside0.mk (Kd.R_drew HO278.out); have n2_ := Aside0.mk (blk_drew BK272.out); have n3_ := Aside0.mk (below_drew1 HB.out); clear HO275 HO278 BK272 HB; have HO275 := n0_; have HO278 := n1_; have BK272 := n2_; have HB := n3_; clear n0_ n1_ n2_ n3_
 refine start_ (n := 19) (S := fun w' => w'.cell? ⟨gb272, 0, none⟩ = some (.int .i64 a1_0) ∧ w'.cell? ⟨gb272, 1, none⟩ = some (.int .i64 a1_1) ∧ w'.cell? ⟨gb272, 2, none⟩ = some (.int .i64 a1_2) ∧ w'.cell? ⟨gb272, 3, none⟩ = some (.int .i64 a1_3) ∧ w'.cell? ⟨gb272, 4, none⟩ = some (.int .i64 a1_4) ∧ w'.cell? ⟨gb272, 5, none⟩ = some (.string a1_5) ∧ w'.cell? ⟨gb272, 6, none⟩ = some (.string a1_6) ∧ w'.cell? ⟨gb272, 7, none⟩ = some (.string a1_7) ∧ w'.cell? ⟨gb272, 8, none⟩ = some (.slice A1_8 l1_8.length c1_8)) (ds := []) #[false, false, false, false, false, false, false, false, false, false, false, false, false, false, false, false, false, false, false] (by kernel_rfl) rfl rfl ⟨(blk_cell BK272.out 0).trans rfl, (blk_cell BK272.out 1).trans rfl, (blk_cell BK272.out 2).trans rfl, (blk_cell BK272.out 3).trans rfl, (blk_cell BK272.out 4).trans rfl, (blk_cell BK272.out 5).trans rfl, (blk_cell BK272.out 6).trans rfl, (blk_cell BK272.out 7).trans rfl, (blk_cell BK272.out 8).trans rfl⟩ (fun hHeld => ?_); refine with_tabW batch_Put.tab2 batch_Put.bits2 (fun HT_ HW_ => ?_)
 generalize w12.drew = w14 at HO275 HO278 BK272 HB hHeld ⊢
 refine pure_ (i := 0) (N := some 23) (v := ?_) (a' := ?_) (bs 19 1) rfl rfl (any_of HT_.out (by kernel_rfl)) (fun _ _ _ h => h) (Or.inl ⟨by rfl, ?_⟩) ?_ ?_
 rotate_left
 ·intro w'
  go_simp
  with_reducible rfl
 rotate_left
 ·simp only [Act.put, List.setIfInBounds_toArray, List.set_cons_zero, List.set_cons_succ, i64_w, i32_w]
  rfl
 refine pure_ (i := 1) (N := some 24) (v := ?_) (a' := ?_) (bs 19 3) rfl rfl (any_of HT_.out (by kernel_rfl)) (fun _ _ _ h => h) (Or.inl ⟨by rfl, ?_⟩) ?_ ?_
 rotate_left
 ·intro w'
  go_simp
  with_reducible rfl
 rotate_left
 ·simp only [Act.put, List.setIfInBounds_toArray, List.set_cons_zero, List.set_cons_succ, i64_w, i32_w]
  rfl
 refine pure_ (i := 2) (N := some 25) (v := ?_) (a' := ?_) (bs 19 7) rfl rfl (any_of HT_.out (by kernel_rfl)) (fun _ _ _ h => h) (Or.inl ⟨by rfl, ?_⟩) ?_ ?_
 rotate_left
 ·intro w'
  go_simp
  with_reducible rfl
 rotate_left
 ·simp only [Act.put, List.setIfInBounds_toArray, List.set_cons_zero, List.set_cons_succ, i64_w, i32_w]
  rfl
 refine pure_ (i := 4) (N := some 27) (v := ?_) (a' := ?_) (bs 19 23) rfl rfl (any_of HT_.out (by kernel_rfl)) (fun _ _ _ h => h) (Or.inl ⟨by rfl, ?_⟩) ?_ ?_
 rotate_left
 ·intro w'
  go_simp
  with_reducible rfl
 rotate_left
 ·simp only [Act.put, List.setIfInBounds_toArray, List.set_cons_zero, List.set_cons_succ, i64_w, i32_w]
  rfl
 refine pure_ (i := 5) (N := some 28) (v := ?_) (a' := ?_) (bs 19 55) rfl rfl (any_of HT_.out (by kernel_rfl)) (fun _ _ _ h => h) (Or.inl ⟨by rfl, ?_⟩) ?_ ?_
 rotate_left
 ·intro w'
  go_simp
  with_reducible rfl
 rotate_left
 ·simp only [Act.put, List.setIfInBounds_toArray, List.set_cons_zero, List.set_cons_succ, i64_w, i32_w]
  rfl
 refine pure_ (i := 7) (N := some 30) (v := ?_) (a' := ?_) (bs 19 183) rfl rfl (any_of HT_.out (by kernel_rfl)) (fun _ _ _ h => h) (Or.inl ⟨by rfl, ?_⟩) ?_ ?_
 rotate_left
 ·intro w'
  go_simp
  with_reducible rfl
 rotate_left
 ·simp only [Act.put, List.setIfInBounds_toArray, List.set_cons_zero, List.set_cons_succ, i64_w, i32_w]
  rfl
 refine pure_ (i := 8) (N := some 31) (v := ?_) (a' := ?_) (bs 19 439) rfl rfl (any_of HT_.out (by kernel_rfl)) (fun _ _ _ h => h) (Or.inl ⟨by rfl, ?_⟩) ?_ ?_
 rotate_left
 ·intro w'
  go_simp
  with_reducible rfl
 rotate_left
 ·simp only [Act.put, List.setIfInBounds_toArray, List.set_cons_zero, List.set_cons_succ, i64_w, i32_w]
  rfl
 refine pure_ (i := 12) (N := some 35) (v := ?_) (a' := ?_) (bs 19 4535) rfl rfl (any_of HT_.out (by kernel_rfl)) (fun _ _ _ h => h) (Or.inl ⟨by rfl, ?_⟩) ?_ ?_
 rotate_left
 ·intro w'
  go_simp
  with_reducible rfl
 rotate_left
 ·simp only [Act.put, List.setIfInBounds_toArray, List.set_cons_zero, List.set_cons_succ, i64_w, i32_w]
  rfl
 refine take_ (i := 3) (N := some 26) (v := ?_) (a' := ?_) (bs 19 4543) rfl rfl (take_ofW HT_.out HW_.out (by kernel_rfl)) (fun _ _ _ h => h) (Or.inl ⟨by rfl, ?_⟩) hHeld ?_ ?_
 rotate_left
 ·rintro w' ⟨s0, s1, s2, s3, s4, s5, s6, s7, s8⟩
  go_simp
  with_reducible rfl
 rotate_left
 ·simp only [Act.put, List.setIfInBounds_toArray, List.set_cons_zero, List.set_cons_succ, i64_w, i32_w]
  rfl
 refine take_ (i := 6) (N := some 29) (v := ?_) (a' := ?_) (bs 19 4607) rfl rfl (take_ofW HT_.out HW_.out (by kernel_rfl)) (fun _ _ _ h => h) (Or.inl ⟨by rfl, ?_⟩) hHeld ?_ ?_
 rotate_left
 ·rintro w' ⟨s0, s1, s2, s3, s4, s5, s6, s7, s8⟩
  go_simp
  with_reducible rfl
 rotate_left
 ·simp only [Act.put, List.setIfInBounds_toArray, List.set_cons_zero, List.set_cons_succ, i64_w, i32_w]
  rfl
 refine take_ (i := 9) (N := some 32) (v := ?_) (a' := ?_) (bs 19 5119) rfl rfl (take_ofW HT_.out HW_.out (by kernel_rfl)) (fun _ _ _ h => h) (Or.inl ⟨by rfl, ?_⟩) hHeld ?_ ?_
 rotate_left
 ·rintro w' ⟨s0, s1, s2, s3, s4, s5, s6, s7, s8⟩
  go_simp
  with_reducible rfl
 rotate_left
 ·simp only [Act.put, List.setIfInBounds_toArray, List.set_cons_zero, List.set_cons_succ, i64_w, i32_w]
  rfl
 refine take_ (i := 13) (N := some 36) (v := ?_) (a' := ?_) (bs 19 13311) rfl rfl (take_ofW HT_.out HW_.out (by kernel_rfl)) (fun _ _ _ h => h) (Or.inl ⟨by rfl, ?_⟩) hHeld ?_ ?_
 rotate_left
 ·rintro w' ⟨s0, s1, s2, s3, s4, s5, s6, s7, s8⟩
  go_simp
  with_reducible rfl
 rotate_left
 ·simp only [Act.put, List.setIfInBounds_toArray, List.set_cons_zero, List.set_cons_succ, i64_w, i32_w]
  rfl
 refine pure_ (i := 14) (N := some 37) (v := ?_) (a' := ?_) (bs 19 29695) rfl rfl (any_of HT_.out (by kernel_rfl)) (fun _ _ _ h => h) (Or.inl ⟨by rfl, ?_⟩) ?_ ?_
 rotate_left
 ·intro w'
  go_simp
  with_reducible rfl
 rotate_left
 ·simp only [Act.put, List.setIfInBounds_toArray, List.set_cons_zero, List.set_cons_succ, i64_w, i32_w]
  rfl
 refine pure_ (i := 15) (N := some 38) (v := ?_) (a' := ?_) (bs 19 62463) rfl rfl (any_of HT_.out (by kernel_rfl)) (fun _ _ _ h => h) (Or.inl ⟨by rfl, ?_⟩) ?_ ?_
 rotate_left
 ·intro w'
  go_simp
  with_reducible rfl
 rotate_left
 ·simp only [Act.put, List.setIfInBounds_toArray, List.set_cons_zero, List.set_cons_succ, i64_w, i32_w]
  rfl
 refine join_ (σ := Value × Value × Value) 2 #[true, true, true, true, true, true, true, true, true, true, true, true, true, true, true, true, true, false, false] (fun s_ => [(33, s_.1), (34, s_.2.1), (39, s_.2.2)]) (fun s_ w' => (w'.cell? ⟨gb272, 0, none⟩ = some (.int .i64 a1_0) ∧ w'.cell? ⟨gb272, 1, none⟩ = some (.int .i64 a1_1) ∧ w'.cell? ⟨gb272, 2, none⟩ = some (.int .i64 a1_2) ∧ w'.cell? ⟨gb272, 3, none⟩ = some (.int .i64 a1_3) ∧ w'.cell? ⟨gb272, 4, none⟩ = some (.int .i64 a1_4) ∧ w'.cell? ⟨gb272, 5, none⟩ = some (.string a1_5) ∧ w'.cell? ⟨gb272, 6, none⟩ = some (.string a1_6) ∧ w'.cell? ⟨gb272, 7, none⟩ = some (.string a1_7) ∧ w'.cell? ⟨gb272, 8, none⟩ = some (.slice A1_8 l1_8.length c1_8)) ∧ (Kd.R (Kd.int .u64) 75 w' w.heap.size (fun k_ => some k_ ≠ (s_.2.2 : Value).ownBlock) (.slice Ao11 y273.length co11) y273) ∧ (Kd.R (Kd.int .u8) 5 w' w.heap.size (fun k_ => some k_ ≠ (s_.2.1 : Value).ownBlock) (.slice Ao13 t276.length co13) t276) ∧ (Kd.R Kd.string 9 w' w.heap.size (fun _ => True) s_.1 y279) ∧ (Kd.R (Kd.int .u8) 5 w' w.heap.size (fun k_ => some k_ ≠ (.slice Ao13 t276.length co13 : Value).ownBlock) s_.2.1 t282) ∧ (Kd.R (Kd.int .u64) 75 w' w.heap.size (fun k_ => some k_ ≠ (.slice Ao11 y273.length co11 : Value).ownBlock) s_.2.2 y285) ∧ (w'.heap[gb272]? = some (.cells #[.int .i64 a1_0, .int .i64 a1_1, .int .i64 a1_2, .int .i64 a1_3, .int .i64 a1_4, .string a1_5, .string a1_6, .string a1_7, .slice A1_8 l1_8.length c1_8] 31 (0, 0))) ∧ (Below w.heap.size w w')) ?_ ?_
 rotate_left
 ·intro hCont
  refine two_ (i := 10) (j := 16) (Ni := some 33) (Nj := some 39) #[true, true, true, true, true, true, true, true, true, true, true, false, true, true, true, true, false, false, false] #[true, true, true, true, true, true, true, true, true, true, false, false, true, true, true, true, true, false, false] rfl rfl rfl rfl (two_of HT_.out (by kernel_rfl)) (by decide) (by decide) (fun K hK => ?_) (fun K hK => ?_)
  ·skip
   refine Kd.R_lit_step Kd.string _ 9 ?hg (N := 33) ?hd (xs := ([a1_5, a1_6, a1_7] : List ByteArray)) (inner := [.string a1_5, .string a1_6, .string a1_7]) (ok := fun _ => True) (okp := fun _ => True) ?hr ?hp (fun _ hk => hk) trivial (Below.refl _ _) (Nat.le_refl _) (by simp) ?_; (case hd => rfl); (case hg => rfl); (case hr => first | (go_simp; done) | (go_simp; rfl)); (case hp => exact (Reps.one (show Kd.M Kd.string _ _ _ a1_5 [.string a1_5] from rfl) (Reps.one (show Kd.M Kd.string _ _ _ a1_6 [.string a1_6] from rfl) (Reps.one (show Kd.M Kd.string _ _ _ a1_7 [.string a1_7] from rfl) (Reps.none _ _)))))
   intro v280 w15 ho16 hb hg_ hnew_; clear hg_ hnew_
   (first | rw [← Ny279.out] at ho16 | (simp only [Int.reduceToNat] at ho16; rw [← Ny279.out] at ho16))
   have n0_ := Aside0.mk (Kd.R_below (ru HO275.out) hb); have n1_ := Aside0.mk (Kd.R_below (ru HO278.out) hb); have n2_ := Aside0.mk (Kd.R_lower ho16 (below_size (beu HB.out))); have n3_ := Aside0.mk (blk_below (bu BK272.out) hb); have n4_ := Aside0.mk (below_step (beu HB.out) hb); clear HO275 HO278 BK272 HB; have HO275 := n0_; have HO278 := n1_; have HO281 := n2_; have BK272 := n3_; have HB := n4_; clear n0_ n1_ n2_ n3_ n4_ hb ho16; obtain ⟨Ao17, co17, eo17⟩ := Kd.R_slice HO281.out
   (first | subst eo17 | (injection eo17 with f1_ f2_ f3_; have f4_ := f1_.symm; have f5_ := f3_.symm; clear f1_ f2_ f3_; subst f4_; subst f5_))
   refine hK.out _ _ ⟨(blk_cell BK272.out 0).trans rfl, (blk_cell BK272.out 1).trans rfl, (blk_cell BK272.out 2).trans rfl, (blk_cell BK272.out 3).trans rfl, (blk_cell BK272.out 4).trans rfl, (blk_cell BK272.out 5).trans rfl, (blk_cell BK272.out 6).trans rfl, (blk_cell BK272.out 7).trans rfl, (blk_cell BK272.out 8).trans rfl⟩ (fun hHeld => ?_)
   clear hK K
   refine norm_ (a' := ?_) ?_ ?_
   rotate_left
   ·show Act.put _ (some 33) _ = _
    simp only [Act.put, List.setIfInBounds_toArray, List.set_cons_zero, List.set_cons_succ, i64_w, i32_w]
    rfl
   refine two_ (i := 11) (j := 16) (Ni := some 34) (Nj := some 39) #[true, true, true, true, true, true, true, true, true, true, true, true, true, true, true, true, false, false, false] #[true, true, true, true, true, true, true, true, true, true, true, false, true, true, true, true, true, false, false] rfl rfl rfl rfl (two_of HT_.out (by kernel_rfl)) (by decide) (by decide) (fun K hK => ?_) (fun K hK => ?_)
   ·skip
    refine goes_ Tryd.func53 (by kernel_rfl) rfl #[.slice Ao13 t276.length co13, .slice Ao17 y279.length co17] (by rfl) rfl rfl ap1 ?_
    with_reducible refine (packet_Text.calls k _ _ t276 _ _ y279 t282 _ ?side1 ?side2 ?side3 ?side4 A4.out).mono ?_
    (case side1 => exact cu (Kd.R_reads' HO278.out).2.2)
    (case side2 => exact (Kd.R_reads' HO278.out).2.1)
    (case side3 => exact cu (Kd.R_reads' HO281.out).2.2)
    (case side4 => exact (Kd.R_reads' HO281.out).2.1)
    rintro e w18 ⟨v283, rfl, ho0, hb⟩
    refine ⟨_, rfl, ?_⟩
    have n0_ := Aside0.mk (Kd.R_below (ru HO275.out) hb); have n1_ := Aside0.mk (Kd.R_elder' (ru HO278.out) (Kd.R_base ho0) hb); have n2_ := Aside0.mk (Kd.R_below (ru HO281.out) hb); have n3_ := Aside0.mk (Kd.R_lower (Kd.R_new' ho0 (Kd.R_lt (ru HO278.out))) (below_size (beu HB.out))); have n4_ := Aside0.mk (blk_below (bu BK272.out) hb); have n5_ := Aside0.mk (below_step (beu HB.out) hb); clear HO275 HO278 HO281 BK272 HB; have HO275 := n0_; have HO278 := n1_; have HO281 := n2_; have HO284 := n3_; have BK272 := n4_; have HB := n5_; clear n0_ n1_ n2_ n3_ n4_ n5_
    (try clear hb)
    (try clear hb2)
    (try clear hk)
    (try clear hi)
    (try clear ho0)
    refine hK.out _ _ ⟨(blk_cell BK272.out 0).trans rfl, (blk_cell BK272.out 1).trans rfl, (blk_cell BK272.out 2).trans rfl, (blk_cell BK272.out 3).trans rfl, (blk_cell BK272.out 4).trans rfl, (blk_cell BK272.out 5).trans rfl, (blk_cell BK272.out 6).trans rfl, (blk_cell BK272.out 7).trans rfl, (blk_cell BK272.out 8).trans rfl⟩ (fun hHeld => ?_)
    clear hK K
    refine norm_ (a' := ?_) ?_ ?_
    rotate_left
    ·show Act.put _ (some 34) _ = _
     simp only [Act.put, List.setIfInBounds_toArray, List.set_cons_zero, List.set_cons_succ, i64_w, i32_w]
     rfl
    refine one_ (i := 16) (N := some 39) (bs 19 131071) rfl rfl (one_of HT_.out (by kernel_rfl)) (by decide) (fun K hK => ?_)
    refine Kd.R_lit_step (Kd.int .u64) _ 75 ?hg (N := 39) ?hd (xs := ([IntKind.u64.wrap ((l1_8.length : Int))] : List Int)) (inner := [.int .u64 (IntKind.u64.wrap ((l1_8.length : Int)))]) (ok := fun _ => True) (okp := fun _ => True) ?hr ?hp (fun _ hk => hk) trivial (Below.refl _ _) (Nat.le_refl _) (by simp) ?_; (case hd => rfl); (case hg => rfl); (case hr => first | (go_simp; done) | (go_simp; rfl)); (case hp => exact (Reps.one (show Kd.M (Kd.int .u64) _ _ _ (IntKind.u64.wrap ((l1_8.length : Int))) [.int .u64 (IntKind.u64.wrap ((l1_8.length : Int)))] from rfl) (Reps.none _ _)))
    intro v286 w19 ho20 hb hg_ hnew_; clear hg_ hnew_
    (first | rw [← Ny285.out] at ho20 | (simp only [Int.reduceToNat] at ho20; rw [← Ny285.out] at ho20))
    have n0_ := Aside0.mk (Kd.R_elder' (ru HO275.out) (Kd.R_base ho20) hb); have n1_ := Aside0.mk (Kd.R_below (ru HO278.out) hb); have n2_ := Aside0.mk (Kd.R_below (ru HO281.out) hb); have n3_ := Aside0.mk (Kd.R_below (ru HO284.out) hb); have n4_ := Aside0.mk (Kd.R_lower (Kd.R_new' ho20 (Kd.R_lt (ru HO275.out))) (below_size (beu HB.out))); have n5_ := Aside0.mk (blk_below (bu BK272.out) hb); have n6_ := Aside0.mk (below_step (beu HB.out) hb); clear HO275 HO278 HO281 HO284 BK272 HB; have HO275 := n0_; have HO278 := n1_; have HO281 := n2_; have HO284 := n3_; have HO287 := n4_; have BK272 := n5_; have HB := n6_; clear n0_ n1_ n2_ n3_ n4_ n5_ n6_ hb ho20
    refine hK.out _ _ ⟨(blk_cell BK272.out 0).trans rfl, (blk_cell BK272.out 1).trans rfl, (blk_cell BK272.out 2).trans rfl, (blk_cell BK272.out 3).trans rfl, (blk_cell BK272.out 4).trans rfl, (blk_cell BK272.out 5).trans rfl, (blk_cell BK272.out 6).trans rfl, (blk_cell BK272.out 7).trans rfl, (blk_cell BK272.out 8).trans rfl⟩ (fun hHeld => ?_)
    clear hK K
    refine norm_ (a' := ?_) ?_ ?_
    rotate_left
    ·show Act.put _ (some 39) _ = _
     simp only [Act.put, List.setIfInBounds_toArray, List.set_cons_zero, List.set_cons_succ, i64_w, i32_w]
     rfl
    exact norm_ (by simp only [putAll, Act.put, List.setIfInBounds_toArray, List.set_cons_zero, List.set_cons_succ]) (hCont (.slice Ao17 y279.length co17, v283, v286) _ ⟨hHeld, (ru (Kd.R_mono HO275.out (fun _ hk => by first | exact hk.2 | exact trivial))), (ru (Kd.R_mono HO278.out (fun _ hk => by first | exact hk.2 | exact trivial))), (ru HO281.out), (ru (Kd.R_mono HO284.out (fun _ hk => by first | exact hk.2 | exact trivial))), (ru (Kd.R_mono HO287.out (fun _ hk => by first | exact hk.2 | exact trivial))), (bu BK272.out), (beu HB.out)⟩)
   ·skip
    refine Kd.R_lit_step (Kd.int .u64) _ 75 ?hg (N := 39) ?hd (xs := ([IntKind.u64.wrap ((l1_8.length : Int))] : List Int)) (inner := [.int .u64 (IntKind.u64.wrap ((l1_8.length : Int)))]) (ok := fun _ => True) (okp := fun _ => True) ?hr ?hp (fun _ hk => hk) trivial (Below.refl _ _) (Nat.le_refl _) (by simp) ?_; (case hd => rfl); (case hg => rfl); (case hr => first | (go_simp; done) | (go_simp; rfl)); (case hp => exact (Reps.one (show Kd.M (Kd.int .u64) _ _ _ (IntKind.u64.wrap ((l1_8.length : Int))) [.int .u64 (IntKind.u64.wrap ((l1_8.length : Int)))] from rfl) (Reps.none _ _)))
    intro v286 w17 ho18 hb hg_ hnew_; clear hg_ hnew_
    (first | rw [← Ny285.out] at ho18 | (simp only [Int.reduceToNat] at ho18; rw [← Ny285.out] at ho18))
    have n0_ := Aside0.mk (Kd.R_elder' (ru HO275.out) (Kd.R_base ho18) hb); have n1_ := Aside0.mk (Kd.R_below (ru HO278.out) hb); have n2_ := Aside0.mk (Kd.R_below (ru HO281.out) hb); have n3_ := Aside0.mk (Kd.R_lower (Kd.R_new' ho18 (Kd.R_lt (ru HO275.out))) (below_size (beu HB.out))); have n4_ := Aside0.mk (blk_below (bu BK272.out) hb); have n5_ := Aside0.mk (below_step (beu HB.out) hb); clear HO275 HO278 HO281 BK272 HB; have HO275 := n0_; have HO278 := n1_; have HO281 := n2_; have HO287 := n3_; have BK272 := n4_; have HB := n5_; clear n0_ n1_ n2_ n3_ n4_ n5_ hb ho18; obtain ⟨Ao19, co19, eo19⟩ := Kd.R_slice HO281.out
    (first | subst eo19 | (injection eo19 with f1_ f2_ f3_; have f4_ := f1_.symm; have f5_ := f3_.symm; clear f1_ f2_ f3_; subst f4_; subst f5_))
    refine hK.out _ _ ⟨(blk_cell BK272.out 0).trans rfl, (blk_cell BK272.out 1).trans rfl, (blk_cell BK272.out 2).trans rfl, (blk_cell BK272.out 3).trans rfl, (blk_cell BK272.out 4).trans rfl, (blk_cell BK272.out 5).trans rfl, (blk_cell BK272.out 6).trans rfl, (blk_cell BK272.out 7).trans rfl, (blk_cell BK272.out 8).trans rfl⟩ (fun hHeld => ?_)
    clear hK K
    refine norm_ (a' := ?_) ?_ ?_
    rotate_left
    ·show Act.put _ (some 39) _ = _
     simp only [Act.put, List.setIfInBounds_toArray, List.set_cons_zero, List.set_cons_succ, i64_w, i32_w]
     rfl
    refine one_ (i := 11) (N := some 34) (bs 19 131071) rfl rfl (one_of HT_.out (by kernel_rfl)) (by decide) (fun K hK => ?_)
    refine goes_ Tryd.func53 (by kernel_rfl) rfl #[.slice Ao13 t276.length co13, .slice Ao19 y279.length co19] (by rfl) rfl rfl ap1 ?_
    with_reducible refine (packet_Text.calls k _ _ t276 _ _ y279 t282 _ ?side1 ?side2 ?side3 ?side4 A4.out).mono ?_
    (case side1 => exact cu (Kd.R_reads' HO278.out).2.2)
    (case side2 => exact (Kd.R_reads' HO278.out).2.1)
    (case side3 => exact cu (Kd.R_reads' HO281.out).2.2)
    (case side4 => exact (Kd.R_reads' HO281.out).2.1)
    rintro e w20 ⟨v283, rfl, ho0, hb⟩
    refine ⟨_, rfl, ?_⟩
    have n0_ := Aside0.mk (Kd.R_below (ru HO275.out) hb); have n1_ := Aside0.mk (Kd.R_elder' (ru HO278.out) (Kd.R_base ho0) hb); have n2_ := Aside0.mk (Kd.R_below (ru HO281.out) hb); have n3_ := Aside0.mk (Kd.R_below (ru HO287.out) hb); have n4_ := Aside0.mk (Kd.R_lower (Kd.R_new' ho0 (Kd.R_lt (ru HO278.out))) (below_size (beu HB.out))); have n5_ := Aside0.mk (blk_below (bu BK272.out) hb); have n6_ := Aside0.mk (below_step (beu HB.out) hb); clear HO275 HO278 HO281 HO287 BK272 HB; have HO275 := n0_; have HO278 := n1_; have HO281 := n2_; have HO287 := n3_; have HO284 := n4_; have BK272 := n5_; have HB := n6_; clear n0_ n1_ n2_ n3_ n4_ n5_ n6_
    (try clear hb)
    (try clear hb2)
    (try clear hk)
    (try clear hi)
    (try clear ho0)
    refine hK.out _ _ ⟨(blk_cell BK272.out 0).trans rfl, (blk_cell BK272.out 1).trans rfl, (blk_cell BK272.out 2).trans rfl, (blk_cell BK272.out 3).trans rfl, (blk_cell BK272.out 4).trans rfl, (blk_cell BK272.out 5).trans rfl, (blk_cell BK272.out 6).trans rfl, (blk_cell BK272.out 7).trans rfl, (blk_cell BK272.out 8).trans rfl⟩ (fun hHeld => ?_)
    clear hK K
    refine norm_ (a' := ?_) ?_ ?_
    rotate_left
    ·show Act.put _ (some 34) _ = _
     simp only [Act.put, List.setIfInBounds_toArray, List.set_cons_zero, List.set_cons_succ, i64_w, i32_w]
     rfl
    exact norm_ (by simp only [putAll, Act.put, List.setIfInBounds_toArray, List.set_cons_zero, List.set_cons_succ]) (hCont (.slice Ao19 y279.length co19, v283, v286) _ ⟨hHeld, (ru (Kd.R_mono HO275.out (fun _ hk => by first | exact hk.2 | exact trivial))), (ru (Kd.R_mono HO278.out (fun _ hk => by first | exact hk.2 | exact trivial))), (ru HO281.out), (ru (Kd.R_mono HO284.out (fun _ hk => by first | exact hk.2 | exact trivial))), (ru (Kd.R_mono HO287.out (fun _ hk => by first | exact hk.2 | exact trivial))), (bu BK272.out), (beu HB.out)⟩)
  ·skip
   refine Kd.R_lit_step (Kd.int .u64) _ 75 ?hg (N := 39) ?hd (xs := ([IntKind.u64.wrap ((l1_8.length : Int))] : List Int)) (inner := [.int .u64 (IntKind.u64.wrap ((l1_8.length : Int)))]) (ok := fun _ => True) (okp := fun _ => True) ?hr ?hp (fun _ hk => hk) trivial (Below.refl _ _) (Nat.le_refl _) (by simp) ?_; (case hd => rfl); (case hg => rfl); (case hr => first | (go_simp; done) | (go_simp; rfl)); (case hp => exact (Reps.one (show Kd.M (Kd.int .u64) _ _ _ (IntKind.u64.wrap ((l1_8.length : Int))) [.int .u64 (IntKind.u64.wrap ((l1_8.length : Int)))] from rfl) (Reps.none _ _)))
   intro v286 w15 ho16 hb hg_ hnew_; clear hg_ hnew_
   (first | rw [← Ny285.out] at ho16 | (simp only [Int.reduceToNat] at ho16; rw [← Ny285.out] at ho16))
   have n0_ := Aside0.mk (Kd.R_elder' (ru HO275.out) (Kd.R_base ho16) hb); have n1_ := Aside0.mk (Kd.R_below (ru HO278.out) hb); have n2_ := Aside0.mk (Kd.R_lower (Kd.R_new' ho16 (Kd.R_lt (ru HO275.out))) (below_size (beu HB.out))); have n3_ := Aside0.mk (blk_below (bu BK272.out) hb); have n4_ := Aside0.mk (below_step (beu HB.out) hb); clear HO275 HO278 BK272 HB; have HO275 := n0_; have HO278 := n1_; have HO287 := n2_; have BK272 := n3_; have HB := n4_; clear n0_ n1_ n2_ n3_ n4_ hb ho16
   refine hK.out _ _ ⟨(blk_cell BK272.out 0).trans rfl, (blk_cell BK272.out 1).trans rfl, (blk_cell BK272.out 2).trans rfl, (blk_cell BK272.out 3).trans rfl, (blk_cell BK272.out 4).trans rfl, (blk_cell BK272.out 5).trans rfl, (blk_cell BK272.out 6).trans rfl, (blk_cell BK272.out 7).trans rfl, (blk_cell BK272.out 8).trans rfl⟩ (fun hHeld => ?_)
   clear hK K
   refine norm_ (a' := ?_) ?_ ?_
   rotate_left
   ·show Act.put _ (some 39) _ = _
    simp only [Act.put, List.setIfInBounds_toArray, List.set_cons_zero, List.set_cons_succ, i64_w, i32_w]
    rfl
   refine one_ (i := 10) (N := some 33) (bs 19 129023) rfl rfl (one_of HT_.out (by kernel_rfl)) (by decide) (fun K hK => ?_)
   refine Kd.R_lit_step Kd.string _ 9 ?hg (N := 33) ?hd (xs := ([a1_5, a1_6, a1_7] : List ByteArray)) (inner := [.string a1_5, .string a1_6, .string a1_7]) (ok := fun _ => True) (okp := fun _ => True) ?hr ?hp (fun _ hk => hk) trivial (Below.refl _ _) (Nat.le_refl _) (by simp) ?_; (case hd => rfl); (case hg => rfl); (case hr => first | (go_simp; done) | (go_simp; rfl)); (case hp => exact (Reps.one (show Kd.M Kd.string _ _ _ a1_5 [.string a1_5] from rfl) (Reps.one (show Kd.M Kd.string _ _ _ a1_6 [.string a1_6] from rfl) (Reps.one (show Kd.M Kd.string _ _ _ a1_7 [.string a1_7] from rfl) (Reps.none _ _)))))
   intro v280 w17 ho18 hb hg_ hnew_; clear hg_ hnew_
   (first | rw [← Ny279.out] at ho18 | (simp only [Int.reduceToNat] at ho18; rw [← Ny279.out] at ho18))
   have n0_ := Aside0.mk (Kd.R_below (ru HO275.out) hb); have n1_ := Aside0.mk (Kd.R_below (ru HO278.out) hb); have n2_ := Aside0.mk (Kd.R_below (ru HO287.out) hb); have n3_ := Aside0.mk (Kd.R_lower ho18 (below_size (beu HB.out))); have n4_ := Aside0.mk (blk_below (bu BK272.out) hb); have n5_ := Aside0.mk (below_step (beu HB.out) hb); clear HO275 HO278 HO287 BK272 HB; have HO275 := n0_; have HO278 := n1_; have HO287 := n2_; have HO281 := n3_; have BK272 := n4_; have HB := n5_; clear n0_ n1_ n2_ n3_ n4_ n5_ hb ho18; obtain ⟨Ao19, co19, eo19⟩ := Kd.R_slice HO281.out
   (first | subst eo19 | (injection eo19 with f1_ f2_ f3_; have f4_ := f1_.symm; have f5_ := f3_.symm; clear f1_ f2_ f3_; subst f4_; subst f5_))
   refine hK.out _ _ ⟨(blk_cell BK272.out 0).trans rfl, (blk_cell BK272.out 1).trans rfl, (blk_cell BK272.out 2).trans rfl, (blk_cell BK272.out 3).trans rfl, (blk_cell BK272.out 4).trans rfl, (blk_cell BK272.out 5).trans rfl, (blk_cell BK272.out 6).trans rfl, (blk_cell BK272.out 7).trans rfl, (blk_cell BK272.out 8).trans rfl⟩ (fun hHeld => ?_)
   clear hK K
   refine norm_ (a' := ?_) ?_ ?_
   rotate_left
   ·show Act.put _ (some 33) _ = _
    simp only [Act.put, List.setIfInBounds_toArray, List.set_cons_zero, List.set_cons_succ, i64_w, i32_w]
    rfl
   refine one_ (i := 11) (N := some 34) (bs 19 131071) rfl rfl (one_of HT_.out (by kernel_rfl)) (by decide) (fun K hK => ?_)
   refine goes_ Tryd.func53 (by kernel_rfl) rfl #[.slice Ao13 t276.length co13, .slice Ao19 y279.length co19] (by rfl) rfl rfl ap1 ?_
   with_reducible refine (packet_Text.calls k _ _ t276 _ _ y279 t282 _ ?side1 ?side2 ?side3 ?side4 A4.out).mono ?_
   (case side1 => exact cu (Kd.R_reads' HO278.out).2.2)
   (case side2 => exact (Kd.R_reads' HO278.out).2.1)
   (case side3 => exact cu (Kd.R_reads' HO281.out).2.2)
   (case side4 => exact (Kd.R_reads' HO281.out).2.1)
   rintro e w20 ⟨v283, rfl, ho0, hb⟩
   refine ⟨_, rfl, ?_⟩
   have n0_ := Aside0.mk (Kd.R_below (ru HO275.out) hb); have n1_ := Aside0.mk (Kd.R_elder' (ru HO278.out) (Kd.R_base ho0) hb); have n2_ := Aside0.mk (Kd.R_below (ru HO287.out) hb); have n3_ := Aside0.mk (Kd.R_below (ru HO281.out) hb); have n4_ := Aside0.mk (Kd.R_lower (Kd.R_new' ho0 (Kd.R_lt (ru HO278.out))) (below_size (beu HB.out))); have n5_ := Aside0.mk (blk_below (bu BK272.out) hb); have n6_ := Aside0.mk (below_step (beu HB.out) hb); clear HO275 HO278 HO287 HO281 BK272 HB; have HO275 := n0_; have HO278 := n1_; have HO287 := n2_; have HO281 := n3_; have HO284 := n4_; have BK272 := n5_; have HB := n6_; clear n0_ n1_ n2_ n3_ n4_ n5_ n6_
   (try clear hb)
   (try clear hb2)
   (try clear hk)
   (try clear hi)
   (try clear ho0)
   refine hK.out _ _ ⟨(blk_cell BK272.out 0).trans rfl, (blk_cell BK272.out 1).trans rfl, (blk_cell BK272.out 2).trans rfl, (blk_cell BK272.out 3).trans rfl, (blk_cell BK272.out 4).trans rfl, (blk_cell BK272.out 5).trans rfl, (blk_cell BK272.out 6).trans rfl, (blk_cell BK272.out 7).trans rfl, (blk_cell BK272.out 8).trans rfl⟩ (fun hHeld => ?_)
   clear hK K
   refine norm_ (a' := ?_) ?_ ?_
   rotate_left
   ·show Act.put _ (some 34) _ = _
    simp only [Act.put, List.setIfInBounds_toArray, List.set_cons_zero, List.set_cons_succ, i64_w, i32_w]
    rfl
   exact norm_ (by simp only [putAll, Act.put, List.setIfInBounds_toArray, List.set_cons_zero, List.set_cons_succ]) (hCont (.slice Ao19 y279.length co19, v283, v286) _ ⟨hHeld, (ru (Kd.R_mono HO275.out (fun _ hk => by first | exact hk.2 | exact trivial))), (ru (Kd.R_mono HO278.out (fun _ hk => by first | exact hk.2 | exact trivial))), (ru HO281.out), (ru (Kd.R_mono HO284.out (fun _ hk => by first | exact hk.2 | exact trivial))), (ru (Kd.R_mono HO287.out (fun _ hk => by first | exact hk.2 | exact trivial))), (bu BK272.out), (beu HB.out)⟩)
 rintro ⟨v280, v283, v286⟩ w21 ⟨hS_, h0_, h1_, h2_, h3_, h4_, h5_, h6_⟩; have n0_ : Aside0 (Kd.R (Kd.int .u64) 75 w21 w.heap.size (fun k_ => some k_ ≠ (v286 : Value).ownBlock) (.slice Ao11 y273.length co11) y273) := ⟨h0_⟩; have n1_ : Aside0 (Kd.R (Kd.int .u8) 5 w21 w.heap.size (fun k_ => some k_ ≠ (v283 : Value).ownBlock) (.slice Ao13 t276.length co13) t276) := ⟨h1_⟩; have n2_ : Aside0 (Kd.R Kd.string 9 w21 w.heap.size (fun _ => True) v280 y279) := ⟨h2_⟩; have n3_ : Aside0 (Kd.R (Kd.int .u8) 5 w21 w.heap.size (fun k_ => some k_ ≠ (.slice Ao13 t276.length co13 : Value).ownBlock) v283 t282) := ⟨h3_⟩; have n4_ : Aside0 (Kd.R (Kd.int .u64) 75 w21 w.heap.size (fun k_ => some k_ ≠ (.slice Ao11 y273.length co11 : Value).ownBlock) v286 y285) := ⟨h4_⟩; have n5_ : Aside0 (w21.heap[gb272]? = some (.cells #[.int .i64 a1_0, .int .i64 a1_1, .int .i64 a1_2, .int .i64 a1_3, .int .i64 a1_4, .string a1_5, .string a1_6, .string a1_7, .slice A1_8 l1_8.length c1_8] 31 (0, 0))) := ⟨h5_⟩; have n6_ : Aside0 (Below w.heap.size w w21) := ⟨h6_⟩; clear HO275 HO278 BK272 HB h0_ h1_ h2_ h3_ h4_ h5_ h6_; have HO275 := n0_; have HO278 := n1_; have HO281 := n2_; have HO284 := n3_; have HO287 := n4_; have BK272 := n5_; have HB := n6_; clear n0_ n1_ n2_ n3_ n4_ n5_ n6_; have hHeld : w21.cell? ⟨gb272, 0, none⟩ = some (.int .i64 a1_0) ∧ w21.cell? ⟨gb272, 1, none⟩ = some (.int .i64 a1_1) ∧ w21.cell? ⟨gb272, 2, none⟩ = some (.int .i64 a1_2) ∧ w21.cell? ⟨gb272, 3, none⟩ = some (.int .i64 a1_3) ∧ w21.cell? ⟨gb272, 4, none⟩ = some (.int .i64 a1_4) ∧ w21.cell? ⟨gb272, 5, none⟩ = some (.string a1_5) ∧ w21.cell? ⟨gb272, 6, none⟩ = some (.string a1_6) ∧ w21.cell? ⟨gb272, 7, none⟩ = some (.string a1_7) ∧ w21.cell? ⟨gb272, 8, none⟩ = some (.slice A1_8 l1_8.length c1_8) := hS_; obtain ⟨Ao22, co22, eo22⟩ := Kd.R_slice HO284.out
 (first | subst eo22 | (injection eo22 with f1_ f2_ f3_; have f4_ := f1_.symm; have f5_ := f3_.symm; clear f1_ f2_ f3_; subst f4_; subst f5_))
 obtain ⟨Ao23, co23, eo23⟩ := Kd.R_slice HO287.out
 (first | subst eo23 | (injection eo23 with f1_ f2_ f3_; have f4_ := f1_.symm; have f5_ := f3_.symm; clear f1_ f2_ f3_; subst f4_; subst f5_))
 refine norm_ (a' := ?_) ?_ ?_
 rotate_left
 ·simp only [putAll, Act.put, List.setIfInBounds_toArray, List.set_cons_zero, List.set_cons_succ]
  rfl
 refine one_ (i := 17) (N := some 40) (bs 19 262143) rfl rfl (one_of HT_.out (by kernel_rfl)) (by decide) (fun K hK => ?_)
 refine goes_ Tryd.func52 (by kernel_rfl) rfl #[.slice Ao22 t282.length co22, .slice Ao23 y285.length co23] (by rfl) rfl rfl ap1 ?_
 with_reducible refine (packet_Number.calls k _ _ t282 _ _ y285 t288 _ ?side1 ?side2 ?side3 ?side4 A5.out).mono ?_
 (case side1 => exact cu (Kd.R_reads' HO284.out).2.2)
 (case side2 => exact (Kd.R_reads' HO284.out).2.1)
 (case side3 => exact cu (Kd.R_reads' HO287.out).2.2)
 (case side4 => exact (Kd.R_reads' HO287.out).2.1)
 rintro e w24 ⟨v289, rfl, ho0, hb⟩
 refine ⟨_, rfl, ?_⟩
 have n0_ := Aside0.mk (Kd.R_below (ru HO275.out) hb); have n1_ := Aside0.mk (Kd.R_elder' (ru HO278.out) (Kd.R_base ho0) hb); have n2_ := Aside0.mk (Kd.R_below (ru HO281.out) hb); have n3_ := Aside0.mk (Kd.R_elder' (ru HO284.out) (Kd.R_base ho0) hb); have n4_ := Aside0.mk (Kd.R_below (ru HO287.out) hb); have n5_ := Aside0.mk (Kd.R_lower (Kd.R_new' (Kd.R_new' ho0 (Kd.R_lt (ru HO278.out))) (Kd.R_lt (ru HO284.out))) (below_size (beu HB.out))); have n6_ := Aside0.mk (blk_below (bu BK272.out) hb); have n7_ := Aside0.mk (below_step (beu HB.out) hb); clear HO275 HO278 HO281 HO284 HO287 BK272 HB; have HO275 := n0_; have HO278 := n1_; have HO281 := n2_; have HO284 := n3_; have HO287 := n4_; have HO290 := n5_; have BK272 := n6_; have HB := n7_; clear n0_ n1_ n2_ n3_ n4_ n5_ n6_ n7_
 (try clear hb)
 (try clear hb2)
 (try clear hk)
 (try clear hi)
 (try clear ho0)
 refine hK.out _ _ ⟨(blk_cell BK272.out 0).trans rfl, (blk_cell BK272.out 1).trans rfl, (blk_cell BK272.out 2).trans rfl, (blk_cell BK272.out 3).trans rfl, (blk_cell BK272.out 4).trans rfl, (blk_cell BK272.out 5).trans rfl, (blk_cell BK272.out 6).trans rfl, (blk_cell BK272.out 7).trans rfl, (blk_cell BK272.out 8).trans rfl⟩ (fun hHeld => ?_)
 clear hK K
 refine norm_ (a' := ?_) ?_ ?_
 rotate_left
 ·show Act.put _ (some 40) _ = _
  simp only [Act.put, List.setIfInBounds_toArray, List.set_cons_zero, List.set_cons_succ, i64_w, i32_w]
  rfl
 refine pure_ (i := 18) (N := some 0) (v := ?_) (a' := ?_) (bs 19 524287) rfl rfl (any_of HT_.out (by kernel_rfl)) (fun _ _ _ h => h) (Or.inl ⟨by rfl, ?_⟩) ?_ ?_
 rotate_left
 ·intro w'
  go_simp
  with_reducible rfl
 rotate_left
 ·simp only [Act.put, List.setIfInBounds_toArray, List.set_cons_zero, List.set_cons_succ, i64_w, i32_w]
  rfl
 refine done_ (done_of HT_.out (by kernel_rfl)) ?_
 obtain ⟨hcz25_0, hcz25_1, hcz25_2, hcz25_3, hcz25_4, hcz25_5, hcz25_6, hcz25_7, hcz25_8⟩ := cells9 BK272.out; obtain ⟨hfz25_0, hfz25_1, hfz25_2, hfz25_3, hfz25_4, hfz25_5, hfz25_6, hfz25_7, hfz25_8⟩ := frozens9 BK272.out; obtain ⟨Ao26, co26, eo26⟩ := Kd.R_slice HO290.out; subst eo26
 try go_wp2_with (first | ((with_reducible refine gate_callee (f := 53) rfl ?_); refine goesL_ (some 44) rfl rfl Tryd.func53 (by kernel_rfl) rfl #[.slice Ao26 t288.length co26, .slice A1_8 l1_8.length c1_8] rfl ap1 ?_; (with_reducible refine (packet_Text.calls k _ _ t288 _ _ l1_8 t291 _ ?side1 ?side2 ?side3 ?side4 A6.out).mono ?_); (case side1 => exact cu (Kd.R_reads' HO290.out).2.2); (case side2 => exact (Kd.R_reads' HO290.out).2.1); (case side3 => exact cu (Kd.C_below HR1_8.out HB.out)); (case side4 => exact HC1_8.out); rintro e w27 ⟨v292, rfl, ho0, hb⟩; refine ⟨_, rfl, ?_⟩; have _ := Aside0.mk (Kd.R_below (ru HO275.out) hb); have _ := Aside0.mk (Kd.R_elder' (ru HO278.out) (Kd.R_base ho0) hb); have _ := Aside0.mk (Kd.R_below (ru HO281.out) hb); have _ := Aside0.mk (Kd.R_elder' (ru HO284.out) (Kd.R_base ho0) hb); have _ := Aside0.mk (Kd.R_below (ru HO287.out) hb); have _ := Aside0.mk (Kd.R_elder' (ru HO290.out) (Kd.R_base ho0) hb); have _ := Aside0.mk (Kd.R_lower (Kd.R_new' (Kd.R_new' (Kd.R_new' ho0 (Kd.R_lt (ru HO278.out))) (Kd.R_lt (ru HO284.out))) (Kd.R_lt (ru HO290.out))) (below_size (beu HB.out))); have _ := Aside0.mk (blk_below (bu BK272.out) hb); have _ := Aside0.mk (below_step (beu HB.out) hb); clear HO275 HO278 HO281 HO284 HO287 HO290 BK272 HB; rename_i HO275 HO278 HO281 HO284 HO287 HO290 HO293 BK272 HB; (try clear hb); (try clear hb2); (try clear hk); (try clear hi); (try clear ho0)))
 go_ret
 exact ⟨_, ap4, ru (Kd.R_mono HO293.out (fun _ hk => trivial)), beu HB.out⟩
end Go.Proofs.YtapfpdjcbeiibaaDoor.PAll
