-- Made by a program of this session (wip/gen)
import Derived.Test.YtapfpdjcbeiibaaDoorPAllx0
import Derived.Test.YtapfpdjcbeiibaaDoorPAllx9
import Derived.Test.YtapfpdjcbeiibaaDoorPAllx11
import Derived.Test.YtapfpdjcbeiibaaDoorPAllx12
namespace Go.Proofs.YtapfpdjcbeiibaaDoor.PAll
open Go.RowKit Go.Proofs.YtapfpdjcbeiibaaDoorW.PrintWords Go.Proofs.YtapfpdjcbeiibaaDoorW.PrintLast Go.Proofs.YtapfpdjcbeiibaaDoorW.PrintMore
attribute [local go_sem] max2_int min2_int max_two min_two max_three min_three max_four min_four   -- for this text's walks alone
set_option linter.unusedVariables false
set_option linter.unusedSimpArgs false

/-! ### packhorseref11_Right: function 16 -/
mutual
def packhorseref11_Right.j0 : Nat → Bool → Int → Int → Int → Int → Int → ByteArray → ByteArray → ByteArray → List ByteArray → Option (Bool)
  | 0, _, _, _, _, _, _, _, _, _, _ => none
  | k + 1, x31, x225000, x225001, x225002, x225003, x225004, x225005, x225006, x225007, x225008 => if x31 = true then (some false) else (if x225003 = 1 then (if x225004 < 1 then (packhorseref11_Right.j1 k true x225000 x225001 x225002 x225003 x225004 x225005 x225006 x225007 x225008) else (if x225004 > 3 then (packhorseref11_Right.j1 k true x225000 x225001 x225002 x225003 x225004 x225005 x225006 x225007 x225008) else ((packhorseref10_Group.f k x225005 x225006 x225007).bind fun t227 => (packhorseref11_Right.j1 k (!t227) x225000 x225001 x225002 x225003 x225004 x225005 x225006 x225007 x225008)))) else (if x225003 = 2 then (if x225004 < 1 then (packhorseref11_Right.j1 k true x225000 x225001 x225002 x225003 x225004 x225005 x225006 x225007 x225008) else (if x225004 > 3 then (packhorseref11_Right.j1 k true x225000 x225001 x225002 x225003 x225004 x225005 x225006 x225007 x225008) else ((packhorseref10_Group.f k x225005 x225006 x225007).bind fun t228 => (packhorseref11_Right.j1 k (!t228) x225000 x225001 x225002 x225003 x225004 x225005 x225006 x225007 x225008)))) else (packhorseref11_Right.j1 k true x225000 x225001 x225002 x225003 x225004 x225005 x225006 x225007 x225008)))
def packhorseref11_Right.j1 : Nat → Bool → Int → Int → Int → Int → Int → ByteArray → ByteArray → ByteArray → List ByteArray → Option (Bool)
  | 0, _, _, _, _, _, _, _, _, _, _ => none
  | k + 1, x55, x225000, x225001, x225002, x225003, x225004, x225005, x225006, x225007, x225008 => if x55 = true then (some false) else (packhorseref11_Right.l0 k x225008 (x225008.length : Int) 0 x225000 x225001 x225002 x225003 x225004 x225005 x225006 x225007 x225008)
def packhorseref11_Right.l0 : Nat → List ByteArray → Int → Int → Int → Int → Int → Int → Int → ByteArray → ByteArray → ByteArray → List ByteArray → Option (Bool)
  | 0, _, _, _, _, _, _, _, _, _, _, _, _ => none
  | k + 1, x57, x58, x59, x225000, x225001, x225002, x225003, x225004, x225005, x225006, x225007, x225008 => if x59 < x58 then (if 0 ≤ x59 then (if x59 < (x57.length : Int) then ((packhorseref01_Right.f k (rdOf ByteArray.empty x57 x59)).bind fun t230 => (if t230 = true then (packhorseref11_Right.l1 k x59 (rdOf ByteArray.empty x57 x59) 0 x57 x58 x59 x225000 x225001 x225002 x225003 x225004 x225005 x225006 x225007 x225008) else (some false))) else (none)) else (none)) else (some true)
def packhorseref11_Right.l1 : Nat → Int → ByteArray → Int → List ByteArray → Int → Int → Int → Int → Int → Int → Int → ByteArray → ByteArray → ByteArray → List ByteArray → Option (Bool)
  | 0, _, _, _, _, _, _, _, _, _, _, _, _, _, _, _ => none
  | k + 1, x3, x4, x5, x57, x58, x59, x225000, x225001, x225002, x225003, x225004, x225005, x225006, x225007, x225008 => if x5 < x3 then (if 0 ≤ x5 then (if x5 < (x225008.length : Int) then (if (rdOf ByteArray.empty x225008 x5).toList = x4.toList then (some false) else (packhorseref11_Right.l1 k x3 x4 (wrap64 (x5 + 1)) x57 x58 x59 x225000 x225001 x225002 x225003 x225004 x225005 x225006 x225007 x225008)) else (none)) else (none)) else (packhorseref11_Right.l0 k x57 x58 (wrap64 (x59 + 1)) x225000 x225001 x225002 x225003 x225004 x225005 x225006 x225007 x225008)
end
def packhorseref11_Right.f (k : Nat) (a0_0 : Int) (a0_1 : Int) (a0_2 : Int) (a0_3 : Int) (a0_4 : Int) (a0_5 : ByteArray) (a0_6 : ByteArray) (a0_7 : ByteArray) (l0_8 : List ByteArray) : Option (Bool) := if a0_0 < 1 then (packhorseref11_Right.j0 k true a0_0 a0_1 a0_2 a0_3 a0_4 a0_5 a0_6 a0_7 l0_8) else (if a0_0 > 1000000000000 then (packhorseref11_Right.j0 k true a0_0 a0_1 a0_2 a0_3 a0_4 a0_5 a0_6 a0_7 l0_8) else ((packhorseref02_Right.f a0_1).bind fun t225 => (if t225 = true then ((packhorseref03_Right.f a0_2).bind fun t226 => (if t226 = true then (packhorseref11_Right.j0 k (decide ((l0_8.length : Int) > 64)) a0_0 a0_1 a0_2 a0_3 a0_4 a0_5 a0_6 a0_7 l0_8) else (packhorseref11_Right.j0 k true a0_0 a0_1 a0_2 a0_3 a0_4 a0_5 a0_6 a0_7 l0_8))) else (packhorseref11_Right.j0 k true a0_0 a0_1 a0_2 a0_3 a0_4 a0_5 a0_6 a0_7 l0_8))))
theorem packhorseref11_Right.mono_l : ∀ k, (∀ y0 y1 y2 y3 y4 y5 y6 y7 y8 y9, LeO (packhorseref11_Right.j0 k y0 y1 y2 y3 y4 y5 y6 y7 y8 y9) (packhorseref11_Right.j0 (k + 1) y0 y1 y2 y3 y4 y5 y6 y7 y8 y9)) ∧ (∀ y0 y1 y2 y3 y4 y5 y6 y7 y8 y9, LeO (packhorseref11_Right.j1 k y0 y1 y2 y3 y4 y5 y6 y7 y8 y9) (packhorseref11_Right.j1 (k + 1) y0 y1 y2 y3 y4 y5 y6 y7 y8 y9)) ∧ (∀ y0 y1 y2 y3 y4 y5 y6 y7 y8 y9 y10 y11, LeO (packhorseref11_Right.l0 k y0 y1 y2 y3 y4 y5 y6 y7 y8 y9 y10 y11) (packhorseref11_Right.l0 (k + 1) y0 y1 y2 y3 y4 y5 y6 y7 y8 y9 y10 y11)) ∧ (∀ y0 y1 y2 y3 y4 y5 y6 y7 y8 y9 y10 y11 y12 y13 y14, LeO (packhorseref11_Right.l1 k y0 y1 y2 y3 y4 y5 y6 y7 y8 y9 y10 y11 y12 y13 y14) (packhorseref11_Right.l1 (k + 1) y0 y1 y2 y3 y4 y5 y6 y7 y8 y9 y10 y11 y12 y13 y14))
  | 0 => ⟨fun _ _ _ _ _ _ _ _ _ _ r h => by simp [packhorseref11_Right.j0] at h, fun _ _ _ _ _ _ _ _ _ _ r h => by simp [packhorseref11_Right.j1] at h, fun _ _ _ _ _ _ _ _ _ _ _ _ r h => by simp [packhorseref11_Right.l0] at h, fun _ _ _ _ _ _ _ _ _ _ _ _ _ _ _ r h => by simp [packhorseref11_Right.l1] at h⟩
  | k + 1 => by
    obtain ⟨ih0, ih1, ih2, ih3⟩ := packhorseref11_Right.mono_l k
    refine ⟨?_, ?_, ?_, ?_⟩
    · intro y0 y1 y2 y3 y4 y5 y6 y7 y8 y9
      unfold packhorseref11_Right.j0
      repeat' first
      | (with_reducible exact ih0 _ _ _ _ _ _ _ _ _ _)
      | (with_reducible exact ih1 _ _ _ _ _ _ _ _ _ _)
      | (with_reducible exact ih2 _ _ _ _ _ _ _ _ _ _ _ _)
      | (with_reducible exact ih3 _ _ _ _ _ _ _ _ _ _ _ _ _ _ _)
      | (with_reducible exact packhorseref01_Right.mono _ _)
      | (with_reducible exact packhorseref10_Group.mono _ _ _ _)
      | (with_reducible exact LeO.refl _)
      | (with_reducible exact LeO.none _)
      | (with_reducible refine LeO.ite ?_ ?_)
      | (with_reducible refine LeO.bind ?_ (fun _ => ?_))
      | exact ih0 _ _ _ _ _ _ _ _ _ _
      | exact ih1 _ _ _ _ _ _ _ _ _ _
      | exact ih2 _ _ _ _ _ _ _ _ _ _ _ _
      | exact ih3 _ _ _ _ _ _ _ _ _ _ _ _ _ _ _
      | exact packhorseref01_Right.mono _ _
      | exact packhorseref10_Group.mono _ _ _ _
      | exact LeO.none _
      | refine LeO.ite ?_ ?_
      | refine LeO.bind ?_ (fun _ => ?_)
    · intro y0 y1 y2 y3 y4 y5 y6 y7 y8 y9
      unfold packhorseref11_Right.j1
      repeat' first
      | (with_reducible exact ih0 _ _ _ _ _ _ _ _ _ _)
      | (with_reducible exact ih1 _ _ _ _ _ _ _ _ _ _)
      | (with_reducible exact ih2 _ _ _ _ _ _ _ _ _ _ _ _)
      | (with_reducible exact ih3 _ _ _ _ _ _ _ _ _ _ _ _ _ _ _)
      | (with_reducible exact packhorseref01_Right.mono _ _)
      | (with_reducible exact packhorseref10_Group.mono _ _ _ _)
      | (with_reducible exact LeO.refl _)
      | (with_reducible exact LeO.none _)
      | (with_reducible refine LeO.ite ?_ ?_)
      | (with_reducible refine LeO.bind ?_ (fun _ => ?_))
      | exact ih0 _ _ _ _ _ _ _ _ _ _
      | exact ih1 _ _ _ _ _ _ _ _ _ _
      | exact ih2 _ _ _ _ _ _ _ _ _ _ _ _
      | exact ih3 _ _ _ _ _ _ _ _ _ _ _ _ _ _ _
      | exact packhorseref01_Right.mono _ _
      | exact packhorseref10_Group.mono _ _ _ _
      | exact LeO.none _
      | refine LeO.ite ?_ ?_
      | refine LeO.bind ?_ (fun _ => ?_)
    · intro y0 y1 y2 y3 y4 y5 y6 y7 y8 y9 y10 y11
      unfold packhorseref11_Right.l0
      repeat' first
      | (with_reducible exact ih0 _ _ _ _ _ _ _ _ _ _)
      | (with_reducible exact ih1 _ _ _ _ _ _ _ _ _ _)
      | (with_reducible exact ih2 _ _ _ _ _ _ _ _ _ _ _ _)
      | (with_reducible exact ih3 _ _ _ _ _ _ _ _ _ _ _ _ _ _ _)
      | (with_reducible exact packhorseref01_Right.mono _ _)
      | (with_reducible exact packhorseref10_Group.mono _ _ _ _)
      | (with_reducible exact LeO.refl _)
      | (with_reducible exact LeO.none _)
      | (with_reducible refine LeO.ite ?_ ?_)
      | (with_reducible refine LeO.bind ?_ (fun _ => ?_))
      | exact ih0 _ _ _ _ _ _ _ _ _ _
      | exact ih1 _ _ _ _ _ _ _ _ _ _
      | exact ih2 _ _ _ _ _ _ _ _ _ _ _ _
      | exact ih3 _ _ _ _ _ _ _ _ _ _ _ _ _ _ _
      | exact packhorseref01_Right.mono _ _
      | exact packhorseref10_Group.mono _ _ _ _
      | exact LeO.none _
      | refine LeO.ite ?_ ?_
      | refine LeO.bind ?_ (fun _ => ?_)
    · intro y0 y1 y2 y3 y4 y5 y6 y7 y8 y9 y10 y11 y12 y13 y14
      unfold packhorseref11_Right.l1
      repeat' first
      | (with_reducible exact ih0 _ _ _ _ _ _ _ _ _ _)
      | (with_reducible exact ih1 _ _ _ _ _ _ _ _ _ _)
      | (with_reducible exact ih2 _ _ _ _ _ _ _ _ _ _ _ _)
      | (with_reducible exact ih3 _ _ _ _ _ _ _ _ _ _ _ _ _ _ _)
      | (with_reducible exact packhorseref01_Right.mono _ _)
      | (with_reducible exact packhorseref10_Group.mono _ _ _ _)
      | (with_reducible exact LeO.refl _)
      | (with_reducible exact LeO.none _)
      | (with_reducible refine LeO.ite ?_ ?_)
      | (with_reducible refine LeO.bind ?_ (fun _ => ?_))
      | exact ih0 _ _ _ _ _ _ _ _ _ _
      | exact ih1 _ _ _ _ _ _ _ _ _ _
      | exact ih2 _ _ _ _ _ _ _ _ _ _ _ _
      | exact ih3 _ _ _ _ _ _ _ _ _ _ _ _ _ _ _
      | exact packhorseref01_Right.mono _ _
      | exact packhorseref10_Group.mono _ _ _ _
      | exact LeO.none _
      | refine LeO.ite ?_ ?_
      | refine LeO.bind ?_ (fun _ => ?_)
theorem packhorseref11_Right.mono : ∀ a0 a1 a2 a3 a4 a5 a6 a7 a8 k, LeO (packhorseref11_Right.f k a0 a1 a2 a3 a4 a5 a6 a7 a8) (packhorseref11_Right.f (k + 1) a0 a1 a2 a3 a4 a5 a6 a7 a8) := by
  intro a0 a1 a2 a3 a4 a5 a6 a7 a8 k
  obtain ⟨ih0, ih1, ih2, ih3⟩ := packhorseref11_Right.mono_l k
  unfold packhorseref11_Right.f
  repeat' first
      | (with_reducible exact ih0 _ _ _ _ _ _ _ _ _ _)
      | (with_reducible exact ih1 _ _ _ _ _ _ _ _ _ _)
      | (with_reducible exact ih2 _ _ _ _ _ _ _ _ _ _ _ _)
      | (with_reducible exact ih3 _ _ _ _ _ _ _ _ _ _ _ _ _ _ _)
      | (with_reducible exact packhorseref01_Right.mono _ _)
      | (with_reducible exact packhorseref10_Group.mono _ _ _ _)
      | (with_reducible exact LeO.refl _)
      | (with_reducible exact LeO.none _)
      | (with_reducible refine LeO.ite ?_ ?_)
      | (with_reducible refine LeO.bind ?_ (fun _ => ?_))
      | exact ih0 _ _ _ _ _ _ _ _ _ _
      | exact ih1 _ _ _ _ _ _ _ _ _ _
      | exact ih2 _ _ _ _ _ _ _ _ _ _ _ _
      | exact ih3 _ _ _ _ _ _ _ _ _ _ _ _ _ _ _
      | exact packhorseref01_Right.mono _ _
      | exact packhorseref10_Group.mono _ _ _ _
      | exact LeO.none _
      | refine LeO.ite ?_ ?_
      | refine LeO.bind ?_ (fun _ => ?_)
set_option maxHeartbeats 8000000 in
set_option maxRecDepth 100000 in
theorem packhorseref11_Right.calls (k : Nat) (a0_0 : Int) (a0_1 : Int) (a0_2 : Int) (a0_3 : Int) (a0_4 : Int) (a0_5 : ByteArray) (a0_6 : ByteArray) (a0_7 : ByteArray) (A0_8 : Option Addr) (c0_8 : Nat) (l0_8 : List ByteArray) (r : Bool) (w : World) (hr0_8 : Kd.C Kd.string w A0_8 l0_8.length l0_8) (hc0_8 : l0_8.length ≤ c0_8) (h : packhorseref11_Right.f k a0_0 a0_1 a0_2 a0_3 a0_4 a0_5 a0_6 a0_7 l0_8 = some r) :
    Calls Tryd.prog 16 #[.agg #[.int .i64 a0_0, .int .i64 a0_1, .int .i64 a0_2, .int .i64 a0_3, .int .i64 a0_4, .string a0_5, .string a0_6, .string a0_7, .slice A0_8 l0_8.length c0_8]] w fun e w' => e = .returned (.bool r) ∧ Below w.heap.size w w' := by
  have hu31 := Tryd.underlying31
  have hu28 := Tryd.underlying28
  have HR0_8 := Aside0.mk hr0_8
  have HC0_8 := Aside0.mk hc0_8
  clear hr0_8 hc0_8
  have HB := Aside0.mk (Below.refl w.heap.size w)
  have H : (if a0_0 < 1 then (packhorseref11_Right.j0 k true a0_0 a0_1 a0_2 a0_3 a0_4 a0_5 a0_6 a0_7 l0_8) else (if a0_0 > 1000000000000 then (packhorseref11_Right.j0 k true a0_0 a0_1 a0_2 a0_3 a0_4 a0_5 a0_6 a0_7 l0_8) else ((packhorseref02_Right.f a0_1).bind fun t225 => (if t225 = true then ((packhorseref03_Right.f a0_2).bind fun t226 => (if t226 = true then (packhorseref11_Right.j0 k (decide ((l0_8.length : Int) > 64)) a0_0 a0_1 a0_2 a0_3 a0_4 a0_5 a0_6 a0_7 l0_8) else (packhorseref11_Right.j0 k true a0_0 a0_1 a0_2 a0_3 a0_4 a0_5 a0_6 a0_7 l0_8))) else (packhorseref11_Right.j0 k true a0_0 a0_1 a0_2 a0_3 a0_4 a0_5 a0_6 a0_7 l0_8))))) = some r := h
  clear h
  have HC2 := Aside0.mk H
  clear H
  go_enter Tryd.func16, Tryd.ntmps16
  go_upto_region 1 with (first | ((with_reducible refine gate_dst (N := 1) rfl ?_); (try (refine gate_guard (by rfl) ?_; dsimp only)); refine box_event ?hg (N := 1) ?hd (cs := #[.int .i64 a0_0, .int .i64 a0_1, .int .i64 a0_2, .int .i64 a0_3, .int .i64 a0_4, .string a0_5, .string a0_6, .string a0_7, .slice A0_8 l0_8.length c0_8]) (t := 31) ?hr ?_; (case hd => rfl); (case hg => rfl); (case hr => first | (go_simp; done) | (go_simp; rfl)); intro gb224 hg w3 hbox hb; have n0_ := Aside0.mk (below_step (by repeat (first | (with_reducible first | exact HB.out | apply below_alloc | apply pw_below_drewN | apply below_drew1) | exact HB.out)) hb); have n1_ := Aside0.mk (hbox); have n2_ := Aside0.mk ((by rw [hg]; exact (below_size (by repeat (first | (with_reducible first | exact HB.out | apply below_alloc | apply pw_below_drewN | apply below_drew1) | exact HB.out))) : w.heap.size ≤ gb224)); have n3_ := Aside0.mk ((by rw [hg]; exact (below_size (by repeat (first | (with_reducible first | exact HB.out | apply below_alloc | apply pw_below_drewN | apply below_drew1) | exact HB.out))) : w.heap.size ≤ gb224)); clear HB; have HB := n0_; have BK224 := n1_; have GW224 := n2_; have GE224 := n3_; clear n0_ n1_ n2_ n3_; clear hb hbox hg))
  (try simp only [Act.put, List.setIfInBounds_toArray, List.set_cons_zero, List.set_cons_succ])
  go_cut [31] (fun v31 wc => ∃ (kq : Nat) (x31_1 : Bool), v31 = .bool x31_1 ∧ Aside0 (packhorseref11_Right.j0 kq x31_1 a0_0 a0_1 a0_2 a0_3 a0_4 a0_5 a0_6 a0_7 l0_8 = some r) ∧ Aside0 (kq ≤ k) ∧ Aside0 (wc.heap[gb224]? = some (.cells #[.int .i64 a0_0, .int .i64 a0_1, .int .i64 a0_2, .int .i64 a0_3, .int .i64 a0_4, .string a0_5, .string a0_6, .string a0_7, (.slice A0_8 l0_8.length c0_8)] 31 (0, 0))) ∧ Aside0 (Below w.heap.size w wc))
  case first =>
    have H := HC2.out
    clear HC2
    by_cases c4 : a0_0 < 1
    · rw [if_pos c4] at H
      have c4b0 : decide (a0_0 < 1) = true := decide_eq_true c4
      clear c4
      (first | rw [c4b0] | (simp only [i64_w, i32_w]; rw [c4b0]) | skip)
      have H' := Aside0.mk H
      clear H
      have hcz5_0 : w3.cell? ⟨gb224, 0, none⟩ = some (.int .i64 a0_0) := (blk_cell BK224.out 0).trans rfl
      have hcz5_1 : w3.cell? ⟨gb224, 1, none⟩ = some (.int .i64 a0_1) := (blk_cell BK224.out 1).trans rfl
      have hcz5_2 : w3.cell? ⟨gb224, 2, none⟩ = some (.int .i64 a0_2) := (blk_cell BK224.out 2).trans rfl
      have hcz5_3 : w3.cell? ⟨gb224, 3, none⟩ = some (.int .i64 a0_3) := (blk_cell BK224.out 3).trans rfl
      have hcz5_4 : w3.cell? ⟨gb224, 4, none⟩ = some (.int .i64 a0_4) := (blk_cell BK224.out 4).trans rfl
      have hcz5_5 : w3.cell? ⟨gb224, 5, none⟩ = some (.string a0_5) := (blk_cell BK224.out 5).trans rfl
      have hcz5_6 : w3.cell? ⟨gb224, 6, none⟩ = some (.string a0_6) := (blk_cell BK224.out 6).trans rfl
      have hcz5_7 : w3.cell? ⟨gb224, 7, none⟩ = some (.string a0_7) := (blk_cell BK224.out 7).trans rfl
      have hcz5_8 : w3.cell? ⟨gb224, 8, none⟩ = some (.slice A0_8 l0_8.length c0_8) := (blk_cell BK224.out 8).trans rfl
      have hfz5_0 := blk_frozen BK224.out 0
      have hfz5_1 := blk_frozen BK224.out 1
      have hfz5_2 := blk_frozen BK224.out 2
      have hfz5_3 := blk_frozen BK224.out 3
      have hfz5_4 := blk_frozen BK224.out 4
      have hfz5_5 := blk_frozen BK224.out 5
      have hfz5_6 := blk_frozen BK224.out 6
      have hfz5_7 := blk_frozen BK224.out 7
      have hfz5_8 := blk_frozen BK224.out 8
      go_wp2
      go_meet
      case rel => exact ⟨_, (true), (by first | rfl | (simp; done) | (simp [*]; done)), H', ⟨by first | omega | exact Nat.le_refl _⟩, ⟨by (with_reducible repeat (first | refine blk_drewN ?_ _ | refine blk_drew ?_ | refine blk_alloc ?_ _)); exact BK224.out⟩, ⟨by repeat (first | (with_reducible first | exact HB.out | apply below_alloc | apply pw_below_drewN | apply below_drew1 | refine below_set ?_ GE224.out) | exact HB.out)⟩⟩
    · rw [if_neg c4] at H
      have c4b0 : decide (a0_0 < 1) = false := decide_eq_false c4
      clear c4
      (first | rw [c4b0] | (simp only [i64_w, i32_w]; rw [c4b0]) | skip)
      by_cases c6 : a0_0 > 1000000000000
      · rw [if_pos c6] at H
        have c6b0 : decide (1000000000000 < a0_0) = true := decide_eq_true c6
        clear c6
        have H' := Aside0.mk H
        clear H
        have hcz7_0 : w3.cell? ⟨gb224, 0, none⟩ = some (.int .i64 a0_0) := (blk_cell BK224.out 0).trans rfl
        have hcz7_1 : w3.cell? ⟨gb224, 1, none⟩ = some (.int .i64 a0_1) := (blk_cell BK224.out 1).trans rfl
        have hcz7_2 : w3.cell? ⟨gb224, 2, none⟩ = some (.int .i64 a0_2) := (blk_cell BK224.out 2).trans rfl
        have hcz7_3 : w3.cell? ⟨gb224, 3, none⟩ = some (.int .i64 a0_3) := (blk_cell BK224.out 3).trans rfl
        have hcz7_4 : w3.cell? ⟨gb224, 4, none⟩ = some (.int .i64 a0_4) := (blk_cell BK224.out 4).trans rfl
        have hcz7_5 : w3.cell? ⟨gb224, 5, none⟩ = some (.string a0_5) := (blk_cell BK224.out 5).trans rfl
        have hcz7_6 : w3.cell? ⟨gb224, 6, none⟩ = some (.string a0_6) := (blk_cell BK224.out 6).trans rfl
        have hcz7_7 : w3.cell? ⟨gb224, 7, none⟩ = some (.string a0_7) := (blk_cell BK224.out 7).trans rfl
        have hcz7_8 : w3.cell? ⟨gb224, 8, none⟩ = some (.slice A0_8 l0_8.length c0_8) := (blk_cell BK224.out 8).trans rfl
        have hfz7_0 := blk_frozen BK224.out 0
        have hfz7_1 := blk_frozen BK224.out 1
        have hfz7_2 := blk_frozen BK224.out 2
        have hfz7_3 := blk_frozen BK224.out 3
        have hfz7_4 := blk_frozen BK224.out 4
        have hfz7_5 := blk_frozen BK224.out 5
        have hfz7_6 := blk_frozen BK224.out 6
        have hfz7_7 := blk_frozen BK224.out 7
        have hfz7_8 := blk_frozen BK224.out 8
        go_wp2
        go_meet
        case rel => exact ⟨_, (true), (by first | rfl | (simp; done) | (simp [*]; done)), H', ⟨by first | omega | exact Nat.le_refl _⟩, ⟨by (with_reducible repeat (first | refine blk_drewN ?_ _ | refine blk_drew ?_ | refine blk_alloc ?_ _)); exact BK224.out⟩, ⟨by repeat (first | (with_reducible first | exact HB.out | apply below_alloc | apply pw_below_drewN | apply below_drew1 | refine below_set ?_ GE224.out) | exact HB.out)⟩⟩
      · rw [if_neg c6] at H
        have c6b0 : decide (1000000000000 < a0_0) = false := decide_eq_false c6
        clear c6
        replace H := Option.bind_eq_some_iff.mp H
        obtain ⟨t225, A80, H⟩ := H
        replace H : (if t225 = true then ((packhorseref03_Right.f a0_2).bind fun t226 => (if t226 = true then (packhorseref11_Right.j0 k (decide ((l0_8.length : Int) > 64)) a0_0 a0_1 a0_2 a0_3 a0_4 a0_5 a0_6 a0_7 l0_8) else (packhorseref11_Right.j0 k true a0_0 a0_1 a0_2 a0_3 a0_4 a0_5 a0_6 a0_7 l0_8))) else (packhorseref11_Right.j0 k true a0_0 a0_1 a0_2 a0_3 a0_4 a0_5 a0_6 a0_7 l0_8)) = some r := H
        have A8 := Aside0.mk A80
        clear A80
        by_cases c9 : t225 = true
        · subst c9
          have H1 : ((packhorseref03_Right.f a0_2).bind fun t226 => (if t226 = true then (packhorseref11_Right.j0 k (decide ((l0_8.length : Int) > 64)) a0_0 a0_1 a0_2 a0_3 a0_4 a0_5 a0_6 a0_7 l0_8) else (packhorseref11_Right.j0 k true a0_0 a0_1 a0_2 a0_3 a0_4 a0_5 a0_6 a0_7 l0_8))) = some r := by rw [if_pos rfl] at H; exact H
          clear H
          have H := H1
          clear H1
          replace H := Option.bind_eq_some_iff.mp H
          obtain ⟨t226, A100, H⟩ := H
          replace H : (if t226 = true then (packhorseref11_Right.j0 k (decide ((l0_8.length : Int) > 64)) a0_0 a0_1 a0_2 a0_3 a0_4 a0_5 a0_6 a0_7 l0_8) else (packhorseref11_Right.j0 k true a0_0 a0_1 a0_2 a0_3 a0_4 a0_5 a0_6 a0_7 l0_8)) = some r := H
          have A10 := Aside0.mk A100
          clear A100
          by_cases c11 : t226 = true
          · subst c11
            have H1 : (packhorseref11_Right.j0 k (decide ((l0_8.length : Int) > 64)) a0_0 a0_1 a0_2 a0_3 a0_4 a0_5 a0_6 a0_7 l0_8) = some r := by rw [if_pos rfl] at H; exact H
            clear H
            have H := H1
            clear H1
            have H' := Aside0.mk H
            clear H
            have hcz12_0 : w3.cell? ⟨gb224, 0, none⟩ = some (.int .i64 a0_0) := (blk_cell BK224.out 0).trans rfl
            have hcz12_1 : w3.cell? ⟨gb224, 1, none⟩ = some (.int .i64 a0_1) := (blk_cell BK224.out 1).trans rfl
            have hcz12_2 : w3.cell? ⟨gb224, 2, none⟩ = some (.int .i64 a0_2) := (blk_cell BK224.out 2).trans rfl
            have hcz12_3 : w3.cell? ⟨gb224, 3, none⟩ = some (.int .i64 a0_3) := (blk_cell BK224.out 3).trans rfl
            have hcz12_4 : w3.cell? ⟨gb224, 4, none⟩ = some (.int .i64 a0_4) := (blk_cell BK224.out 4).trans rfl
            have hcz12_5 : w3.cell? ⟨gb224, 5, none⟩ = some (.string a0_5) := (blk_cell BK224.out 5).trans rfl
            have hcz12_6 : w3.cell? ⟨gb224, 6, none⟩ = some (.string a0_6) := (blk_cell BK224.out 6).trans rfl
            have hcz12_7 : w3.cell? ⟨gb224, 7, none⟩ = some (.string a0_7) := (blk_cell BK224.out 7).trans rfl
            have hcz12_8 : w3.cell? ⟨gb224, 8, none⟩ = some (.slice A0_8 l0_8.length c0_8) := (blk_cell BK224.out 8).trans rfl
            have hfz12_0 := blk_frozen BK224.out 0
            have hfz12_1 := blk_frozen BK224.out 1
            have hfz12_2 := blk_frozen BK224.out 2
            have hfz12_3 := blk_frozen BK224.out 3
            have hfz12_4 := blk_frozen BK224.out 4
            have hfz12_5 := blk_frozen BK224.out 5
            have hfz12_6 := blk_frozen BK224.out 6
            have hfz12_7 := blk_frozen BK224.out 7
            have hfz12_8 := blk_frozen BK224.out 8
            go_wp2_with (first | (go_at_call 20; (with_reducible refine (packhorseref02_Right.calls a0_1 true _ A8.out).mono ?_); rintro e w' ⟨rfl, ⟨nd, rfl⟩⟩) | (go_at_call 38; (with_reducible refine (packhorseref03_Right.calls a0_2 true _ A10.out).mono ?_); rintro e w' ⟨rfl, ⟨nd, rfl⟩⟩))
            go_meet
            case rel => exact ⟨_, (decide ((l0_8.length : Int) > 64)), (by first | rfl | (simp; done) | (simp [*]; done)), H', ⟨by first | omega | exact Nat.le_refl _⟩, ⟨by (with_reducible repeat (first | refine blk_drewN ?_ _ | refine blk_drew ?_ | refine blk_alloc ?_ _)); exact BK224.out⟩, ⟨by repeat (first | (with_reducible first | exact HB.out | apply below_alloc | apply pw_below_drewN | apply below_drew1 | refine below_set ?_ GE224.out) | exact HB.out)⟩⟩
          · replace c11 := Bool.eq_false_iff.mpr c11
            subst c11
            have H1 : (packhorseref11_Right.j0 k true a0_0 a0_1 a0_2 a0_3 a0_4 a0_5 a0_6 a0_7 l0_8) = some r := by rw [if_neg (show ¬ (false = true) by decide)] at H; exact H
            clear H
            have H := H1
            clear H1
            have H' := Aside0.mk H
            clear H
            have hcz13_0 : w3.cell? ⟨gb224, 0, none⟩ = some (.int .i64 a0_0) := (blk_cell BK224.out 0).trans rfl
            have hcz13_1 : w3.cell? ⟨gb224, 1, none⟩ = some (.int .i64 a0_1) := (blk_cell BK224.out 1).trans rfl
            have hcz13_2 : w3.cell? ⟨gb224, 2, none⟩ = some (.int .i64 a0_2) := (blk_cell BK224.out 2).trans rfl
            have hcz13_3 : w3.cell? ⟨gb224, 3, none⟩ = some (.int .i64 a0_3) := (blk_cell BK224.out 3).trans rfl
            have hcz13_4 : w3.cell? ⟨gb224, 4, none⟩ = some (.int .i64 a0_4) := (blk_cell BK224.out 4).trans rfl
            have hcz13_5 : w3.cell? ⟨gb224, 5, none⟩ = some (.string a0_5) := (blk_cell BK224.out 5).trans rfl
            have hcz13_6 : w3.cell? ⟨gb224, 6, none⟩ = some (.string a0_6) := (blk_cell BK224.out 6).trans rfl
            have hcz13_7 : w3.cell? ⟨gb224, 7, none⟩ = some (.string a0_7) := (blk_cell BK224.out 7).trans rfl
            have hcz13_8 : w3.cell? ⟨gb224, 8, none⟩ = some (.slice A0_8 l0_8.length c0_8) := (blk_cell BK224.out 8).trans rfl
            have hfz13_0 := blk_frozen BK224.out 0
            have hfz13_1 := blk_frozen BK224.out 1
            have hfz13_2 := blk_frozen BK224.out 2
            have hfz13_3 := blk_frozen BK224.out 3
            have hfz13_4 := blk_frozen BK224.out 4
            have hfz13_5 := blk_frozen BK224.out 5
            have hfz13_6 := blk_frozen BK224.out 6
            have hfz13_7 := blk_frozen BK224.out 7
            have hfz13_8 := blk_frozen BK224.out 8
            go_wp2_with (first | (go_at_call 20; (with_reducible refine (packhorseref02_Right.calls a0_1 true _ A8.out).mono ?_); rintro e w' ⟨rfl, ⟨nd, rfl⟩⟩) | (go_at_call 38; (with_reducible refine (packhorseref03_Right.calls a0_2 false _ A10.out).mono ?_); rintro e w' ⟨rfl, ⟨nd, rfl⟩⟩))
            go_meet
            case rel => exact ⟨_, (true), (by first | rfl | (simp; done) | (simp [*]; done)), H', ⟨by first | omega | exact Nat.le_refl _⟩, ⟨by (with_reducible repeat (first | refine blk_drewN ?_ _ | refine blk_drew ?_ | refine blk_alloc ?_ _)); exact BK224.out⟩, ⟨by repeat (first | (with_reducible first | exact HB.out | apply below_alloc | apply pw_below_drewN | apply below_drew1 | refine below_set ?_ GE224.out) | exact HB.out)⟩⟩
        · replace c9 := Bool.eq_false_iff.mpr c9
          subst c9
          have H1 : (packhorseref11_Right.j0 k true a0_0 a0_1 a0_2 a0_3 a0_4 a0_5 a0_6 a0_7 l0_8) = some r := by rw [if_neg (show ¬ (false = true) by decide)] at H; exact H
          clear H
          have H := H1
          clear H1
          have H' := Aside0.mk H
          clear H
          have hcz14_0 : w3.cell? ⟨gb224, 0, none⟩ = some (.int .i64 a0_0) := (blk_cell BK224.out 0).trans rfl
          have hcz14_1 : w3.cell? ⟨gb224, 1, none⟩ = some (.int .i64 a0_1) := (blk_cell BK224.out 1).trans rfl
          have hcz14_2 : w3.cell? ⟨gb224, 2, none⟩ = some (.int .i64 a0_2) := (blk_cell BK224.out 2).trans rfl
          have hcz14_3 : w3.cell? ⟨gb224, 3, none⟩ = some (.int .i64 a0_3) := (blk_cell BK224.out 3).trans rfl
          have hcz14_4 : w3.cell? ⟨gb224, 4, none⟩ = some (.int .i64 a0_4) := (blk_cell BK224.out 4).trans rfl
          have hcz14_5 : w3.cell? ⟨gb224, 5, none⟩ = some (.string a0_5) := (blk_cell BK224.out 5).trans rfl
          have hcz14_6 : w3.cell? ⟨gb224, 6, none⟩ = some (.string a0_6) := (blk_cell BK224.out 6).trans rfl
          have hcz14_7 : w3.cell? ⟨gb224, 7, none⟩ = some (.string a0_7) := (blk_cell BK224.out 7).trans rfl
          have hcz14_8 : w3.cell? ⟨gb224, 8, none⟩ = some (.slice A0_8 l0_8.length c0_8) := (blk_cell BK224.out 8).trans rfl
          have hfz14_0 := blk_frozen BK224.out 0
          have hfz14_1 := blk_frozen BK224.out 1
          have hfz14_2 := blk_frozen BK224.out 2
          have hfz14_3 := blk_frozen BK224.out 3
          have hfz14_4 := blk_frozen BK224.out 4
          have hfz14_5 := blk_frozen BK224.out 5
          have hfz14_6 := blk_frozen BK224.out 6
          have hfz14_7 := blk_frozen BK224.out 7
          have hfz14_8 := blk_frozen BK224.out 8
          go_wp2_with (first | (go_at_call 20; (with_reducible refine (packhorseref02_Right.calls a0_1 false _ A8.out).mono ?_); rintro e w' ⟨rfl, ⟨nd, rfl⟩⟩))
          go_meet
          case rel => exact ⟨_, (true), (by first | rfl | (simp; done) | (simp [*]; done)), H', ⟨by first | omega | exact Nat.le_refl _⟩, ⟨by (with_reducible repeat (first | refine blk_drewN ?_ _ | refine blk_drew ?_ | refine blk_alloc ?_ _)); exact BK224.out⟩, ⟨by repeat (first | (with_reducible first | exact HB.out | apply below_alloc | apply pw_below_drewN | apply below_drew1 | refine below_set ?_ GE224.out) | exact HB.out)⟩⟩
  case rest =>
    clear HC2
    try clear c1
    try clear p2
    try clear c4
    try clear c4b0
    try clear c6
    try clear c6b0
    try clear c9
    try clear c11
    try clear hcz12_0
    try clear hcz12_1
    try clear hcz12_2
    try clear hcz12_3
    try clear hcz12_4
    try clear hcz12_5
    try clear hcz12_6
    try clear hcz12_7
    try clear hcz12_8
    try clear hcz13_0
    try clear hcz13_1
    try clear hcz13_2
    try clear hcz13_3
    try clear hcz13_4
    try clear hcz13_5
    try clear hcz13_6
    try clear hcz13_7
    try clear hcz13_8
    try clear hcz14_0
    try clear hcz14_1
    try clear hcz14_2
    try clear hcz14_3
    try clear hcz14_4
    try clear hcz14_5
    try clear hcz14_6
    try clear hcz14_7
    try clear hcz14_8
    try clear hcz5_0
    try clear hcz5_1
    try clear hcz5_2
    try clear hcz5_3
    try clear hcz5_4
    try clear hcz5_5
    try clear hcz5_6
    try clear hcz5_7
    try clear hcz5_8
    try clear hcz7_0
    try clear hcz7_1
    try clear hcz7_2
    try clear hcz7_3
    try clear hcz7_4
    try clear hcz7_5
    try clear hcz7_6
    try clear hcz7_7
    try clear hcz7_8
    try clear hfz12_0
    try clear hfz12_1
    try clear hfz12_2
    try clear hfz12_3
    try clear hfz12_4
    try clear hfz12_5
    try clear hfz12_6
    try clear hfz12_7
    try clear hfz12_8
    try clear hfz13_0
    try clear hfz13_1
    try clear hfz13_2
    try clear hfz13_3
    try clear hfz13_4
    try clear hfz13_5
    try clear hfz13_6
    try clear hfz13_7
    try clear hfz13_8
    try clear hfz14_0
    try clear hfz14_1
    try clear hfz14_2
    try clear hfz14_3
    try clear hfz14_4
    try clear hfz14_5
    try clear hfz14_6
    try clear hfz14_7
    try clear hfz14_8
    try clear hfz5_0
    try clear hfz5_1
    try clear hfz5_2
    try clear hfz5_3
    try clear hfz5_4
    try clear hfz5_5
    try clear hfz5_6
    try clear hfz5_7
    try clear hfz5_8
    try clear hfz7_0
    try clear hfz7_1
    try clear hfz7_2
    try clear hfz7_3
    try clear hfz7_4
    try clear hfz7_5
    try clear hfz7_6
    try clear hfz7_7
    try clear hfz7_8
    obtain ⟨kq, x31_1, rfl, HA, HJ1, BK224, HB⟩ := hcut
    cases kq with
    | zero => exact absurd HA.out (by simp [packhorseref11_Right.j0])
    | succ kj1 =>
      have H := HA.out
      clear HA
      simp only [packhorseref11_Right.j0] at H
      by_cases c15 : x31_1 = true
      · subst c15
        have H1 : (some false) = some r := by rw [if_pos rfl] at H; exact H
        clear H
        have H := H1
        clear H1
        obtain rfl := Option.some.inj H
        simp only [Option.some.injEq, Prod.mk.injEq] at H
        obtain ⟨rfl⟩ := H
        go_wp2
        go_ret
        exact ⟨by first | rfl | (simp [errW_none, errW_some] <;> rfl) | (simp [*, errW_none, errW_some] <;> rfl), by repeat (first | (with_reducible first | exact HB.out | apply below_alloc | apply pw_below_drewN | apply below_drew1 | refine below_set ?_ GE224.out) | exact HB.out)⟩
      · replace c15 := Bool.eq_false_iff.mpr c15
        subst c15
        have H1 : (if a0_3 = 1 then (if a0_4 < 1 then (packhorseref11_Right.j1 kj1 true a0_0 a0_1 a0_2 a0_3 a0_4 a0_5 a0_6 a0_7 l0_8) else (if a0_4 > 3 then (packhorseref11_Right.j1 kj1 true a0_0 a0_1 a0_2 a0_3 a0_4 a0_5 a0_6 a0_7 l0_8) else ((packhorseref10_Group.f kj1 a0_5 a0_6 a0_7).bind fun t227 => (packhorseref11_Right.j1 kj1 (!t227) a0_0 a0_1 a0_2 a0_3 a0_4 a0_5 a0_6 a0_7 l0_8)))) else (if a0_3 = 2 then (if a0_4 < 1 then (packhorseref11_Right.j1 kj1 true a0_0 a0_1 a0_2 a0_3 a0_4 a0_5 a0_6 a0_7 l0_8) else (if a0_4 > 3 then (packhorseref11_Right.j1 kj1 true a0_0 a0_1 a0_2 a0_3 a0_4 a0_5 a0_6 a0_7 l0_8) else ((packhorseref10_Group.f kj1 a0_5 a0_6 a0_7).bind fun t228 => (packhorseref11_Right.j1 kj1 (!t228) a0_0 a0_1 a0_2 a0_3 a0_4 a0_5 a0_6 a0_7 l0_8)))) else (packhorseref11_Right.j1 kj1 true a0_0 a0_1 a0_2 a0_3 a0_4 a0_5 a0_6 a0_7 l0_8))) = some r := by rw [if_neg (show ¬ (false = true) by decide)] at H; exact H
        clear H
        have H := H1
        clear H1
        have HC16 := Aside0.mk H
        clear H
        go_upto_region 3 with (fail)
        go_cut [55] (fun v55 wc => ∃ (kq : Nat) (x55_15 : Bool), v55 = .bool x55_15 ∧ Aside0 (packhorseref11_Right.j1 kq x55_15 a0_0 a0_1 a0_2 a0_3 a0_4 a0_5 a0_6 a0_7 l0_8 = some r) ∧ Aside0 (kq ≤ kj1) ∧ Aside0 (wc.heap[gb224]? = some (.cells #[.int .i64 a0_0, .int .i64 a0_1, .int .i64 a0_2, .int .i64 a0_3, .int .i64 a0_4, .string a0_5, .string a0_6, .string a0_7, (.slice A0_8 l0_8.length c0_8)] 31 (0, 0))) ∧ Aside0 (Below w.heap.size w wc))
        case first =>
          have H := HC16.out
          clear HC16
          by_cases c17 : a0_3 = 1
          · rw [if_pos c17] at H
            have c17b0 : (a0_3 == 1) = true := beq_iff_eq.mpr c17
            have c17b1 : (a0_3 != 1) = false := bne_eq_false_iff_eq.mpr c17
            clear c17
            (first | rw [c17b0] | (simp only [i64_w, i32_w]; rw [c17b0]) | skip)
            by_cases c18 : a0_4 < 1
            · rw [if_pos c18] at H
              have c18b0 : decide (a0_4 < 1) = true := decide_eq_true c18
              clear c18
              have H' := Aside0.mk H
              clear H
              have hcz19_0 : wc.cell? ⟨gb224, 0, none⟩ = some (.int .i64 a0_0) := (blk_cell BK224.out 0).trans rfl
              have hcz19_1 : wc.cell? ⟨gb224, 1, none⟩ = some (.int .i64 a0_1) := (blk_cell BK224.out 1).trans rfl
              have hcz19_2 : wc.cell? ⟨gb224, 2, none⟩ = some (.int .i64 a0_2) := (blk_cell BK224.out 2).trans rfl
              have hcz19_3 : wc.cell? ⟨gb224, 3, none⟩ = some (.int .i64 a0_3) := (blk_cell BK224.out 3).trans rfl
              have hcz19_4 : wc.cell? ⟨gb224, 4, none⟩ = some (.int .i64 a0_4) := (blk_cell BK224.out 4).trans rfl
              have hcz19_5 : wc.cell? ⟨gb224, 5, none⟩ = some (.string a0_5) := (blk_cell BK224.out 5).trans rfl
              have hcz19_6 : wc.cell? ⟨gb224, 6, none⟩ = some (.string a0_6) := (blk_cell BK224.out 6).trans rfl
              have hcz19_7 : wc.cell? ⟨gb224, 7, none⟩ = some (.string a0_7) := (blk_cell BK224.out 7).trans rfl
              have hcz19_8 : wc.cell? ⟨gb224, 8, none⟩ = some (.slice A0_8 l0_8.length c0_8) := (blk_cell BK224.out 8).trans rfl
              have hfz19_0 := blk_frozen BK224.out 0
              have hfz19_1 := blk_frozen BK224.out 1
              have hfz19_2 := blk_frozen BK224.out 2
              have hfz19_3 := blk_frozen BK224.out 3
              have hfz19_4 := blk_frozen BK224.out 4
              have hfz19_5 := blk_frozen BK224.out 5
              have hfz19_6 := blk_frozen BK224.out 6
              have hfz19_7 := blk_frozen BK224.out 7
              have hfz19_8 := blk_frozen BK224.out 8
              go_wp2
              go_meet
              case rel => exact ⟨_, (true), (by first | rfl | (simp; done) | (simp [*]; done)), H', ⟨by have := HJ1.out; first | omega | exact Nat.le_refl _⟩, ⟨by (with_reducible repeat (first | refine blk_drewN ?_ _ | refine blk_drew ?_ | refine blk_alloc ?_ _)); exact BK224.out⟩, ⟨by repeat (first | (with_reducible first | exact HB.out | apply below_alloc | apply pw_below_drewN | apply below_drew1 | refine below_set ?_ GE224.out) | exact HB.out)⟩⟩
            · rw [if_neg c18] at H
              have c18b0 : decide (a0_4 < 1) = false := decide_eq_false c18
              clear c18
              by_cases c20 : a0_4 > 3
              · rw [if_pos c20] at H
                have c20b0 : decide (3 < a0_4) = true := decide_eq_true c20
                clear c20
                have H' := Aside0.mk H
                clear H
                have hcz21_0 : wc.cell? ⟨gb224, 0, none⟩ = some (.int .i64 a0_0) := (blk_cell BK224.out 0).trans rfl
                have hcz21_1 : wc.cell? ⟨gb224, 1, none⟩ = some (.int .i64 a0_1) := (blk_cell BK224.out 1).trans rfl
                have hcz21_2 : wc.cell? ⟨gb224, 2, none⟩ = some (.int .i64 a0_2) := (blk_cell BK224.out 2).trans rfl
                have hcz21_3 : wc.cell? ⟨gb224, 3, none⟩ = some (.int .i64 a0_3) := (blk_cell BK224.out 3).trans rfl
                have hcz21_4 : wc.cell? ⟨gb224, 4, none⟩ = some (.int .i64 a0_4) := (blk_cell BK224.out 4).trans rfl
                have hcz21_5 : wc.cell? ⟨gb224, 5, none⟩ = some (.string a0_5) := (blk_cell BK224.out 5).trans rfl
                have hcz21_6 : wc.cell? ⟨gb224, 6, none⟩ = some (.string a0_6) := (blk_cell BK224.out 6).trans rfl
                have hcz21_7 : wc.cell? ⟨gb224, 7, none⟩ = some (.string a0_7) := (blk_cell BK224.out 7).trans rfl
                have hcz21_8 : wc.cell? ⟨gb224, 8, none⟩ = some (.slice A0_8 l0_8.length c0_8) := (blk_cell BK224.out 8).trans rfl
                have hfz21_0 := blk_frozen BK224.out 0
                have hfz21_1 := blk_frozen BK224.out 1
                have hfz21_2 := blk_frozen BK224.out 2
                have hfz21_3 := blk_frozen BK224.out 3
                have hfz21_4 := blk_frozen BK224.out 4
                have hfz21_5 := blk_frozen BK224.out 5
                have hfz21_6 := blk_frozen BK224.out 6
                have hfz21_7 := blk_frozen BK224.out 7
                have hfz21_8 := blk_frozen BK224.out 8
                go_wp2
                go_meet
                case rel => exact ⟨_, (true), (by first | rfl | (simp; done) | (simp [*]; done)), H', ⟨by have := HJ1.out; first | omega | exact Nat.le_refl _⟩, ⟨by (with_reducible repeat (first | refine blk_drewN ?_ _ | refine blk_drew ?_ | refine blk_alloc ?_ _)); exact BK224.out⟩, ⟨by repeat (first | (with_reducible first | exact HB.out | apply below_alloc | apply pw_below_drewN | apply below_drew1 | refine below_set ?_ GE224.out) | exact HB.out)⟩⟩
              · rw [if_neg c20] at H
                have c20b0 : decide (3 < a0_4) = false := decide_eq_false c20
                clear c20
                replace H := Option.bind_eq_some_iff.mp H
                obtain ⟨t227, A220, H⟩ := H
                replace H : (packhorseref11_Right.j1 kj1 (!t227) a0_0 a0_1 a0_2 a0_3 a0_4 a0_5 a0_6 a0_7 l0_8) = some r := H
                have A22 := Aside0.mk A220
                clear A220
                have H' := Aside0.mk H
                clear H
                have hcz23_0 : wc.cell? ⟨gb224, 0, none⟩ = some (.int .i64 a0_0) := (blk_cell BK224.out 0).trans rfl
                have hcz23_1 : wc.cell? ⟨gb224, 1, none⟩ = some (.int .i64 a0_1) := (blk_cell BK224.out 1).trans rfl
                have hcz23_2 : wc.cell? ⟨gb224, 2, none⟩ = some (.int .i64 a0_2) := (blk_cell BK224.out 2).trans rfl
                have hcz23_3 : wc.cell? ⟨gb224, 3, none⟩ = some (.int .i64 a0_3) := (blk_cell BK224.out 3).trans rfl
                have hcz23_4 : wc.cell? ⟨gb224, 4, none⟩ = some (.int .i64 a0_4) := (blk_cell BK224.out 4).trans rfl
                have hcz23_5 : wc.cell? ⟨gb224, 5, none⟩ = some (.string a0_5) := (blk_cell BK224.out 5).trans rfl
                have hcz23_6 : wc.cell? ⟨gb224, 6, none⟩ = some (.string a0_6) := (blk_cell BK224.out 6).trans rfl
                have hcz23_7 : wc.cell? ⟨gb224, 7, none⟩ = some (.string a0_7) := (blk_cell BK224.out 7).trans rfl
                have hcz23_8 : wc.cell? ⟨gb224, 8, none⟩ = some (.slice A0_8 l0_8.length c0_8) := (blk_cell BK224.out 8).trans rfl
                have hfz23_0 := blk_frozen BK224.out 0
                have hfz23_1 := blk_frozen BK224.out 1
                have hfz23_2 := blk_frozen BK224.out 2
                have hfz23_3 := blk_frozen BK224.out 3
                have hfz23_4 := blk_frozen BK224.out 4
                have hfz23_5 := blk_frozen BK224.out 5
                have hfz23_6 := blk_frozen BK224.out 6
                have hfz23_7 := blk_frozen BK224.out 7
                have hfz23_8 := blk_frozen BK224.out 8
                go_wp2_with (first | (go_at_call 39; (with_reducible refine (packhorseref10_Group.calls kj1 a0_5 a0_6 a0_7 t227 _ A22.out).mono ?_); rintro e w24 ⟨rfl, hb⟩; have n0_ := Aside0.mk (blk_below (g := gb224) (o := .cells #[.int .i64 a0_0, .int .i64 a0_1, .int .i64 a0_2, .int .i64 a0_3, .int .i64 a0_4, .string a0_5, .string a0_6, .string a0_7, .slice A0_8 l0_8.length c0_8] 31 (0, 0)) (by (with_reducible repeat (first | refine blk_drewN ?_ _ | refine blk_drew ?_ | refine blk_alloc ?_ _)); exact BK224.out) hb); have n1_ := Aside0.mk (below_step (by repeat (first | (with_reducible first | exact HB.out | apply below_alloc | apply pw_below_drewN | apply below_drew1 | refine below_set ?_ GE224.out) | exact HB.out)) hb); clear BK224; clear HB; have BK224 := n0_; have HB := n1_; clear n0_ n1_; (try clear hb); (try clear hb2); (try clear hk); (try clear hi)))
                go_meet
                case rel => exact ⟨_, (!t227), (by first | rfl | (simp; done) | (simp [*]; done)), H', ⟨by have := HJ1.out; first | omega | exact Nat.le_refl _⟩, ⟨by (with_reducible repeat (first | refine blk_drewN ?_ _ | refine blk_drew ?_ | refine blk_alloc ?_ _)); exact BK224.out⟩, ⟨by repeat (first | (with_reducible first | exact HB.out | apply below_alloc | apply pw_below_drewN | apply below_drew1 | refine below_set ?_ GE224.out) | exact HB.out)⟩⟩
          · rw [if_neg c17] at H
            have c17b0 : (a0_3 == 1) = false := beq_eq_false_iff_ne.mpr c17
            have c17b1 : (a0_3 != 1) = true := bne_iff_ne.mpr c17
            (first | rw [c17b0] | (simp only [i64_w, i32_w]; rw [c17b0]) | skip)
            by_cases c25 : a0_3 = 2
            · rw [if_pos c25] at H
              have c25b0 : (a0_3 == 2) = true := beq_iff_eq.mpr c25
              have c25b1 : (a0_3 != 2) = false := bne_eq_false_iff_eq.mpr c25
              clear c25
              by_cases c26 : a0_4 < 1
              · rw [if_pos c26] at H
                have c26b0 : decide (a0_4 < 1) = true := decide_eq_true c26
                clear c26
                have H' := Aside0.mk H
                clear H
                have hcz27_0 : wc.cell? ⟨gb224, 0, none⟩ = some (.int .i64 a0_0) := (blk_cell BK224.out 0).trans rfl
                have hcz27_1 : wc.cell? ⟨gb224, 1, none⟩ = some (.int .i64 a0_1) := (blk_cell BK224.out 1).trans rfl
                have hcz27_2 : wc.cell? ⟨gb224, 2, none⟩ = some (.int .i64 a0_2) := (blk_cell BK224.out 2).trans rfl
                have hcz27_3 : wc.cell? ⟨gb224, 3, none⟩ = some (.int .i64 a0_3) := (blk_cell BK224.out 3).trans rfl
                have hcz27_4 : wc.cell? ⟨gb224, 4, none⟩ = some (.int .i64 a0_4) := (blk_cell BK224.out 4).trans rfl
                have hcz27_5 : wc.cell? ⟨gb224, 5, none⟩ = some (.string a0_5) := (blk_cell BK224.out 5).trans rfl
                have hcz27_6 : wc.cell? ⟨gb224, 6, none⟩ = some (.string a0_6) := (blk_cell BK224.out 6).trans rfl
                have hcz27_7 : wc.cell? ⟨gb224, 7, none⟩ = some (.string a0_7) := (blk_cell BK224.out 7).trans rfl
                have hcz27_8 : wc.cell? ⟨gb224, 8, none⟩ = some (.slice A0_8 l0_8.length c0_8) := (blk_cell BK224.out 8).trans rfl
                have hfz27_0 := blk_frozen BK224.out 0
                have hfz27_1 := blk_frozen BK224.out 1
                have hfz27_2 := blk_frozen BK224.out 2
                have hfz27_3 := blk_frozen BK224.out 3
                have hfz27_4 := blk_frozen BK224.out 4
                have hfz27_5 := blk_frozen BK224.out 5
                have hfz27_6 := blk_frozen BK224.out 6
                have hfz27_7 := blk_frozen BK224.out 7
                have hfz27_8 := blk_frozen BK224.out 8
                go_wp2
                go_meet
                case rel => exact ⟨_, (true), (by first | rfl | (simp; done) | (simp [*]; done)), H', ⟨by have := HJ1.out; first | omega | exact Nat.le_refl _⟩, ⟨by (with_reducible repeat (first | refine blk_drewN ?_ _ | refine blk_drew ?_ | refine blk_alloc ?_ _)); exact BK224.out⟩, ⟨by repeat (first | (with_reducible first | exact HB.out | apply below_alloc | apply pw_below_drewN | apply below_drew1 | refine below_set ?_ GE224.out) | exact HB.out)⟩⟩
              · rw [if_neg c26] at H
                have c26b0 : decide (a0_4 < 1) = false := decide_eq_false c26
                clear c26
                by_cases c28 : a0_4 > 3
                · rw [if_pos c28] at H
                  have c28b0 : decide (3 < a0_4) = true := decide_eq_true c28
                  clear c28
                  have H' := Aside0.mk H
                  clear H
                  have hcz29_0 : wc.cell? ⟨gb224, 0, none⟩ = some (.int .i64 a0_0) := (blk_cell BK224.out 0).trans rfl
                  have hcz29_1 : wc.cell? ⟨gb224, 1, none⟩ = some (.int .i64 a0_1) := (blk_cell BK224.out 1).trans rfl
                  have hcz29_2 : wc.cell? ⟨gb224, 2, none⟩ = some (.int .i64 a0_2) := (blk_cell BK224.out 2).trans rfl
                  have hcz29_3 : wc.cell? ⟨gb224, 3, none⟩ = some (.int .i64 a0_3) := (blk_cell BK224.out 3).trans rfl
                  have hcz29_4 : wc.cell? ⟨gb224, 4, none⟩ = some (.int .i64 a0_4) := (blk_cell BK224.out 4).trans rfl
                  have hcz29_5 : wc.cell? ⟨gb224, 5, none⟩ = some (.string a0_5) := (blk_cell BK224.out 5).trans rfl
                  have hcz29_6 : wc.cell? ⟨gb224, 6, none⟩ = some (.string a0_6) := (blk_cell BK224.out 6).trans rfl
                  have hcz29_7 : wc.cell? ⟨gb224, 7, none⟩ = some (.string a0_7) := (blk_cell BK224.out 7).trans rfl
                  have hcz29_8 : wc.cell? ⟨gb224, 8, none⟩ = some (.slice A0_8 l0_8.length c0_8) := (blk_cell BK224.out 8).trans rfl
                  have hfz29_0 := blk_frozen BK224.out 0
                  have hfz29_1 := blk_frozen BK224.out 1
                  have hfz29_2 := blk_frozen BK224.out 2
                  have hfz29_3 := blk_frozen BK224.out 3
                  have hfz29_4 := blk_frozen BK224.out 4
                  have hfz29_5 := blk_frozen BK224.out 5
                  have hfz29_6 := blk_frozen BK224.out 6
                  have hfz29_7 := blk_frozen BK224.out 7
                  have hfz29_8 := blk_frozen BK224.out 8
                  go_wp2
                  go_meet
                  case rel => exact ⟨_, (true), (by first | rfl | (simp; done) | (simp [*]; done)), H', ⟨by have := HJ1.out; first | omega | exact Nat.le_refl _⟩, ⟨by (with_reducible repeat (first | refine blk_drewN ?_ _ | refine blk_drew ?_ | refine blk_alloc ?_ _)); exact BK224.out⟩, ⟨by repeat (first | (with_reducible first | exact HB.out | apply below_alloc | apply pw_below_drewN | apply below_drew1 | refine below_set ?_ GE224.out) | exact HB.out)⟩⟩
                · rw [if_neg c28] at H
                  have c28b0 : decide (3 < a0_4) = false := decide_eq_false c28
                  clear c28
                  replace H := Option.bind_eq_some_iff.mp H
                  obtain ⟨t228, A300, H⟩ := H
                  replace H : (packhorseref11_Right.j1 kj1 (!t228) a0_0 a0_1 a0_2 a0_3 a0_4 a0_5 a0_6 a0_7 l0_8) = some r := H
                  have A30 := Aside0.mk A300
                  clear A300
                  have H' := Aside0.mk H
                  clear H
                  have hcz31_0 : wc.cell? ⟨gb224, 0, none⟩ = some (.int .i64 a0_0) := (blk_cell BK224.out 0).trans rfl
                  have hcz31_1 : wc.cell? ⟨gb224, 1, none⟩ = some (.int .i64 a0_1) := (blk_cell BK224.out 1).trans rfl
                  have hcz31_2 : wc.cell? ⟨gb224, 2, none⟩ = some (.int .i64 a0_2) := (blk_cell BK224.out 2).trans rfl
                  have hcz31_3 : wc.cell? ⟨gb224, 3, none⟩ = some (.int .i64 a0_3) := (blk_cell BK224.out 3).trans rfl
                  have hcz31_4 : wc.cell? ⟨gb224, 4, none⟩ = some (.int .i64 a0_4) := (blk_cell BK224.out 4).trans rfl
                  have hcz31_5 : wc.cell? ⟨gb224, 5, none⟩ = some (.string a0_5) := (blk_cell BK224.out 5).trans rfl
                  have hcz31_6 : wc.cell? ⟨gb224, 6, none⟩ = some (.string a0_6) := (blk_cell BK224.out 6).trans rfl
                  have hcz31_7 : wc.cell? ⟨gb224, 7, none⟩ = some (.string a0_7) := (blk_cell BK224.out 7).trans rfl
                  have hcz31_8 : wc.cell? ⟨gb224, 8, none⟩ = some (.slice A0_8 l0_8.length c0_8) := (blk_cell BK224.out 8).trans rfl
                  have hfz31_0 := blk_frozen BK224.out 0
                  have hfz31_1 := blk_frozen BK224.out 1
                  have hfz31_2 := blk_frozen BK224.out 2
                  have hfz31_3 := blk_frozen BK224.out 3
                  have hfz31_4 := blk_frozen BK224.out 4
                  have hfz31_5 := blk_frozen BK224.out 5
                  have hfz31_6 := blk_frozen BK224.out 6
                  have hfz31_7 := blk_frozen BK224.out 7
                  have hfz31_8 := blk_frozen BK224.out 8
                  go_wp2_with (first | (go_at_call 39; (with_reducible refine (packhorseref10_Group.calls kj1 a0_5 a0_6 a0_7 t228 _ A30.out).mono ?_); rintro e w32 ⟨rfl, hb⟩; have n0_ := Aside0.mk (blk_below (g := gb224) (o := .cells #[.int .i64 a0_0, .int .i64 a0_1, .int .i64 a0_2, .int .i64 a0_3, .int .i64 a0_4, .string a0_5, .string a0_6, .string a0_7, .slice A0_8 l0_8.length c0_8] 31 (0, 0)) (by (with_reducible repeat (first | refine blk_drewN ?_ _ | refine blk_drew ?_ | refine blk_alloc ?_ _)); exact BK224.out) hb); have n1_ := Aside0.mk (below_step (by repeat (first | (with_reducible first | exact HB.out | apply below_alloc | apply pw_below_drewN | apply below_drew1 | refine below_set ?_ GE224.out) | exact HB.out)) hb); clear BK224; clear HB; have BK224 := n0_; have HB := n1_; clear n0_ n1_; (try clear hb); (try clear hb2); (try clear hk); (try clear hi)))
                  go_meet
                  case rel => exact ⟨_, (!t228), (by first | rfl | (simp; done) | (simp [*]; done)), H', ⟨by have := HJ1.out; first | omega | exact Nat.le_refl _⟩, ⟨by (with_reducible repeat (first | refine blk_drewN ?_ _ | refine blk_drew ?_ | refine blk_alloc ?_ _)); exact BK224.out⟩, ⟨by repeat (first | (with_reducible first | exact HB.out | apply below_alloc | apply pw_below_drewN | apply below_drew1 | refine below_set ?_ GE224.out) | exact HB.out)⟩⟩
            · rw [if_neg c25] at H
              have c25b0 : (a0_3 == 2) = false := beq_eq_false_iff_ne.mpr c25
              have c25b1 : (a0_3 != 2) = true := bne_iff_ne.mpr c25
              have H' := Aside0.mk H
              clear H
              have hcz33_0 : wc.cell? ⟨gb224, 0, none⟩ = some (.int .i64 a0_0) := (blk_cell BK224.out 0).trans rfl
              have hcz33_1 : wc.cell? ⟨gb224, 1, none⟩ = some (.int .i64 a0_1) := (blk_cell BK224.out 1).trans rfl
              have hcz33_2 : wc.cell? ⟨gb224, 2, none⟩ = some (.int .i64 a0_2) := (blk_cell BK224.out 2).trans rfl
              have hcz33_3 : wc.cell? ⟨gb224, 3, none⟩ = some (.int .i64 a0_3) := (blk_cell BK224.out 3).trans rfl
              have hcz33_4 : wc.cell? ⟨gb224, 4, none⟩ = some (.int .i64 a0_4) := (blk_cell BK224.out 4).trans rfl
              have hcz33_5 : wc.cell? ⟨gb224, 5, none⟩ = some (.string a0_5) := (blk_cell BK224.out 5).trans rfl
              have hcz33_6 : wc.cell? ⟨gb224, 6, none⟩ = some (.string a0_6) := (blk_cell BK224.out 6).trans rfl
              have hcz33_7 : wc.cell? ⟨gb224, 7, none⟩ = some (.string a0_7) := (blk_cell BK224.out 7).trans rfl
              have hcz33_8 : wc.cell? ⟨gb224, 8, none⟩ = some (.slice A0_8 l0_8.length c0_8) := (blk_cell BK224.out 8).trans rfl
              have hfz33_0 := blk_frozen BK224.out 0
              have hfz33_1 := blk_frozen BK224.out 1
              have hfz33_2 := blk_frozen BK224.out 2
              have hfz33_3 := blk_frozen BK224.out 3
              have hfz33_4 := blk_frozen BK224.out 4
              have hfz33_5 := blk_frozen BK224.out 5
              have hfz33_6 := blk_frozen BK224.out 6
              have hfz33_7 := blk_frozen BK224.out 7
              have hfz33_8 := blk_frozen BK224.out 8
              go_wp2
              go_meet
              case rel => exact ⟨_, (true), (by first | rfl | (simp; done) | (simp [*]; done)), H', ⟨by have := HJ1.out; first | omega | exact Nat.le_refl _⟩, ⟨by (with_reducible repeat (first | refine blk_drewN ?_ _ | refine blk_drew ?_ | refine blk_alloc ?_ _)); exact BK224.out⟩, ⟨by repeat (first | (with_reducible first | exact HB.out | apply below_alloc | apply pw_below_drewN | apply below_drew1 | refine below_set ?_ GE224.out) | exact HB.out)⟩⟩
        case rest =>
          clear HC16
          try clear c1
          try clear c2
          try clear p2
          try clear c4
          try clear c4b0
          try clear c6
          try clear c6b0
          try clear c9
          try clear c11
          try clear c15
          try clear c16
          try clear c17
          try clear c17b0
          try clear c17b1
          try clear c18
          try clear c18b0
          try clear c20
          try clear c20b0
          try clear c25
          try clear c25b0
          try clear c25b1
          try clear c26
          try clear c26b0
          try clear c28
          try clear c28b0
          try clear hcz12_0
          try clear hcz12_1
          try clear hcz12_2
          try clear hcz12_3
          try clear hcz12_4
          try clear hcz12_5
          try clear hcz12_6
          try clear hcz12_7
          try clear hcz12_8
          try clear hcz13_0
          try clear hcz13_1
          try clear hcz13_2
          try clear hcz13_3
          try clear hcz13_4
          try clear hcz13_5
          try clear hcz13_6
          try clear hcz13_7
          try clear hcz13_8
          try clear hcz14_0
          try clear hcz14_1
          try clear hcz14_2
          try clear hcz14_3
          try clear hcz14_4
          try clear hcz14_5
          try clear hcz14_6
          try clear hcz14_7
          try clear hcz14_8
          try clear hcz19_0
          try clear hcz19_1
          try clear hcz19_2
          try clear hcz19_3
          try clear hcz19_4
          try clear hcz19_5
          try clear hcz19_6
          try clear hcz19_7
          try clear hcz19_8
          try clear hcz21_0
          try clear hcz21_1
          try clear hcz21_2
          try clear hcz21_3
          try clear hcz21_4
          try clear hcz21_5
          try clear hcz21_6
          try clear hcz21_7
          try clear hcz21_8
          try clear hcz23_0
          try clear hcz23_1
          try clear hcz23_2
          try clear hcz23_3
          try clear hcz23_4
          try clear hcz23_5
          try clear hcz23_6
          try clear hcz23_7
          try clear hcz23_8
          try clear hcz27_0
          try clear hcz27_1
          try clear hcz27_2
          try clear hcz27_3
          try clear hcz27_4
          try clear hcz27_5
          try clear hcz27_6
          try clear hcz27_7
          try clear hcz27_8
          try clear hcz29_0
          try clear hcz29_1
          try clear hcz29_2
          try clear hcz29_3
          try clear hcz29_4
          try clear hcz29_5
          try clear hcz29_6
          try clear hcz29_7
          try clear hcz29_8
          try clear hcz31_0
          try clear hcz31_1
          try clear hcz31_2
          try clear hcz31_3
          try clear hcz31_4
          try clear hcz31_5
          try clear hcz31_6
          try clear hcz31_7
          try clear hcz31_8
          try clear hcz33_0
          try clear hcz33_1
          try clear hcz33_2
          try clear hcz33_3
          try clear hcz33_4
          try clear hcz33_5
          try clear hcz33_6
          try clear hcz33_7
          try clear hcz33_8
          try clear hcz5_0
          try clear hcz5_1
          try clear hcz5_2
          try clear hcz5_3
          try clear hcz5_4
          try clear hcz5_5
          try clear hcz5_6
          try clear hcz5_7
          try clear hcz5_8
          try clear hcz7_0
          try clear hcz7_1
          try clear hcz7_2
          try clear hcz7_3
          try clear hcz7_4
          try clear hcz7_5
          try clear hcz7_6
          try clear hcz7_7
          try clear hcz7_8
          try clear hfz12_0
          try clear hfz12_1
          try clear hfz12_2
          try clear hfz12_3
          try clear hfz12_4
          try clear hfz12_5
          try clear hfz12_6
          try clear hfz12_7
          try clear hfz12_8
          try clear hfz13_0
          try clear hfz13_1
          try clear hfz13_2
          try clear hfz13_3
          try clear hfz13_4
          try clear hfz13_5
          try clear hfz13_6
          try clear hfz13_7
          try clear hfz13_8
          try clear hfz14_0
          try clear hfz14_1
          try clear hfz14_2
          try clear hfz14_3
          try clear hfz14_4
          try clear hfz14_5
          try clear hfz14_6
          try clear hfz14_7
          try clear hfz14_8
          try clear hfz19_0
          try clear hfz19_1
          try clear hfz19_2
          try clear hfz19_3
          try clear hfz19_4
          try clear hfz19_5
          try clear hfz19_6
          try clear hfz19_7
          try clear hfz19_8
          try clear hfz21_0
          try clear hfz21_1
          try clear hfz21_2
          try clear hfz21_3
          try clear hfz21_4
          try clear hfz21_5
          try clear hfz21_6
          try clear hfz21_7
          try clear hfz21_8
          try clear hfz23_0
          try clear hfz23_1
          try clear hfz23_2
          try clear hfz23_3
          try clear hfz23_4
          try clear hfz23_5
          try clear hfz23_6
          try clear hfz23_7
          try clear hfz23_8
          try clear hfz27_0
          try clear hfz27_1
          try clear hfz27_2
          try clear hfz27_3
          try clear hfz27_4
          try clear hfz27_5
          try clear hfz27_6
          try clear hfz27_7
          try clear hfz27_8
          try clear hfz29_0
          try clear hfz29_1
          try clear hfz29_2
          try clear hfz29_3
          try clear hfz29_4
          try clear hfz29_5
          try clear hfz29_6
          try clear hfz29_7
          try clear hfz29_8
          try clear hfz31_0
          try clear hfz31_1
          try clear hfz31_2
          try clear hfz31_3
          try clear hfz31_4
          try clear hfz31_5
          try clear hfz31_6
          try clear hfz31_7
          try clear hfz31_8
          try clear hfz33_0
          try clear hfz33_1
          try clear hfz33_2
          try clear hfz33_3
          try clear hfz33_4
          try clear hfz33_5
          try clear hfz33_6
          try clear hfz33_7
          try clear hfz33_8
          try clear hfz5_0
          try clear hfz5_1
          try clear hfz5_2
          try clear hfz5_3
          try clear hfz5_4
          try clear hfz5_5
          try clear hfz5_6
          try clear hfz5_7
          try clear hfz5_8
          try clear hfz7_0
          try clear hfz7_1
          try clear hfz7_2
          try clear hfz7_3
          try clear hfz7_4
          try clear hfz7_5
          try clear hfz7_6
          try clear hfz7_7
          try clear hfz7_8
          try clear p2
          obtain ⟨kq, x55_15, rfl, HA, HJ15, BK224, HB⟩ := hcut
          cases kq with
          | zero => exact absurd HA.out (by simp [packhorseref11_Right.j1])
          | succ kj15 =>
            have H := HA.out
            clear HA
            simp only [packhorseref11_Right.j1] at H
            by_cases c34 : x55_15 = true
            · subst c34
              have H1 : (some false) = some r := by rw [if_pos rfl] at H; exact H
              clear H
              have H := H1
              clear H1
              obtain rfl := Option.some.inj H
              simp only [Option.some.injEq, Prod.mk.injEq] at H
              obtain ⟨rfl⟩ := H
              go_wp2
              go_ret
              exact ⟨by first | rfl | (simp [errW_none, errW_some] <;> rfl) | (simp [*, errW_none, errW_some] <;> rfl), by repeat (first | (with_reducible first | exact HB.out | apply below_alloc | apply pw_below_drewN | apply below_drew1 | refine below_set ?_ GE224.out) | exact HB.out)⟩
            · replace c34 := Bool.eq_false_iff.mpr c34
              subst c34
              have H1 : (packhorseref11_Right.l0 kj15 l0_8 (l0_8.length : Int) 0 a0_0 a0_1 a0_2 a0_3 a0_4 a0_5 a0_6 a0_7 l0_8) = some r := by rw [if_neg (show ¬ (false = true) by decide)] at H; exact H
              clear H
              have H := H1
              clear H1
              have H' := Aside0.mk H
              clear H
              have hcz35_0 : wc.cell? ⟨gb224, 0, none⟩ = some (.int .i64 a0_0) := (blk_cell BK224.out 0).trans rfl
              have hcz35_1 : wc.cell? ⟨gb224, 1, none⟩ = some (.int .i64 a0_1) := (blk_cell BK224.out 1).trans rfl
              have hcz35_2 : wc.cell? ⟨gb224, 2, none⟩ = some (.int .i64 a0_2) := (blk_cell BK224.out 2).trans rfl
              have hcz35_3 : wc.cell? ⟨gb224, 3, none⟩ = some (.int .i64 a0_3) := (blk_cell BK224.out 3).trans rfl
              have hcz35_4 : wc.cell? ⟨gb224, 4, none⟩ = some (.int .i64 a0_4) := (blk_cell BK224.out 4).trans rfl
              have hcz35_5 : wc.cell? ⟨gb224, 5, none⟩ = some (.string a0_5) := (blk_cell BK224.out 5).trans rfl
              have hcz35_6 : wc.cell? ⟨gb224, 6, none⟩ = some (.string a0_6) := (blk_cell BK224.out 6).trans rfl
              have hcz35_7 : wc.cell? ⟨gb224, 7, none⟩ = some (.string a0_7) := (blk_cell BK224.out 7).trans rfl
              have hcz35_8 : wc.cell? ⟨gb224, 8, none⟩ = some (.slice A0_8 l0_8.length c0_8) := (blk_cell BK224.out 8).trans rfl
              have hfz35_0 := blk_frozen BK224.out 0
              have hfz35_1 := blk_frozen BK224.out 1
              have hfz35_2 := blk_frozen BK224.out 2
              have hfz35_3 := blk_frozen BK224.out 3
              have hfz35_4 := blk_frozen BK224.out 4
              have hfz35_5 := blk_frozen BK224.out 5
              have hfz35_6 := blk_frozen BK224.out 6
              have hfz35_7 := blk_frozen BK224.out 7
              have hfz35_8 := blk_frozen BK224.out 8
              go_wp2
              go_loopg [59] kj15 (fun kq v59 w' => ∃ (x59_3 : Int), v59 = .int .i64 x59_3 ∧ Aside0 (packhorseref11_Right.l0 kq l0_8 (l0_8.length : Int) x59_3 a0_0 a0_1 a0_2 a0_3 a0_4 a0_5 a0_6 a0_7 l0_8 = some r) ∧ Aside0 (kq ≤ kj15) ∧ Aside0 (w'.heap[gb224]? = some (.cells #[.int .i64 a0_0, .int .i64 a0_1, .int .i64 a0_2, .int .i64 a0_3, .int .i64 a0_4, .string a0_5, .string a0_6, .string a0_7, (.slice A0_8 l0_8.length c0_8)] 31 (0, 0))) ∧ Aside0 (Below w.heap.size w w'))
              case atStart => exact ⟨(0), (by first | rfl | (simp; done) | (simp [*]; done)), H', ⟨Nat.le_refl _⟩, ⟨by (with_reducible repeat (first | refine blk_drewN ?_ _ | refine blk_drew ?_ | refine blk_alloc ?_ _)); exact BK224.out⟩, ⟨by repeat (first | (with_reducible first | exact HB.out | apply below_alloc | apply pw_below_drewN | apply below_drew1 | refine below_set ?_ GE224.out) | exact HB.out)⟩⟩
              case round =>
                clear H'
                try clear c1
                try clear c2
                try clear p2
                try clear c3
                try clear c4
                try clear c4b0
                try clear c6
                try clear c6b0
                try clear c9
                try clear c11
                try clear c15
                try clear c16
                try clear c17
                try clear c17b0
                try clear c17b1
                try clear c18
                try clear c18b0
                try clear c20
                try clear c20b0
                try clear c25
                try clear c25b0
                try clear c25b1
                try clear c26
                try clear c26b0
                try clear c28
                try clear c28b0
                try clear c34
                try clear hcz12_0
                try clear hcz12_1
                try clear hcz12_2
                try clear hcz12_3
                try clear hcz12_4
                try clear hcz12_5
                try clear hcz12_6
                try clear hcz12_7
                try clear hcz12_8
                try clear hcz13_0
                try clear hcz13_1
                try clear hcz13_2
                try clear hcz13_3
                try clear hcz13_4
                try clear hcz13_5
                try clear hcz13_6
                try clear hcz13_7
                try clear hcz13_8
                try clear hcz14_0
                try clear hcz14_1
                try clear hcz14_2
                try clear hcz14_3
                try clear hcz14_4
                try clear hcz14_5
                try clear hcz14_6
                try clear hcz14_7
                try clear hcz14_8
                try clear hcz19_0
                try clear hcz19_1
                try clear hcz19_2
                try clear hcz19_3
                try clear hcz19_4
                try clear hcz19_5
                try clear hcz19_6
                try clear hcz19_7
                try clear hcz19_8
                try clear hcz21_0
                try clear hcz21_1
                try clear hcz21_2
                try clear hcz21_3
                try clear hcz21_4
                try clear hcz21_5
                try clear hcz21_6
                try clear hcz21_7
                try clear hcz21_8
                try clear hcz23_0
                try clear hcz23_1
                try clear hcz23_2
                try clear hcz23_3
                try clear hcz23_4
                try clear hcz23_5
                try clear hcz23_6
                try clear hcz23_7
                try clear hcz23_8
                try clear hcz27_0
                try clear hcz27_1
                try clear hcz27_2
                try clear hcz27_3
                try clear hcz27_4
                try clear hcz27_5
                try clear hcz27_6
                try clear hcz27_7
                try clear hcz27_8
                try clear hcz29_0
                try clear hcz29_1
                try clear hcz29_2
                try clear hcz29_3
                try clear hcz29_4
                try clear hcz29_5
                try clear hcz29_6
                try clear hcz29_7
                try clear hcz29_8
                try clear hcz31_0
                try clear hcz31_1
                try clear hcz31_2
                try clear hcz31_3
                try clear hcz31_4
                try clear hcz31_5
                try clear hcz31_6
                try clear hcz31_7
                try clear hcz31_8
                try clear hcz33_0
                try clear hcz33_1
                try clear hcz33_2
                try clear hcz33_3
                try clear hcz33_4
                try clear hcz33_5
                try clear hcz33_6
                try clear hcz33_7
                try clear hcz33_8
                try clear hcz35_0
                try clear hcz35_1
                try clear hcz35_2
                try clear hcz35_3
                try clear hcz35_4
                try clear hcz35_5
                try clear hcz35_6
                try clear hcz35_7
                try clear hcz35_8
                try clear hcz5_0
                try clear hcz5_1
                try clear hcz5_2
                try clear hcz5_3
                try clear hcz5_4
                try clear hcz5_5
                try clear hcz5_6
                try clear hcz5_7
                try clear hcz5_8
                try clear hcz7_0
                try clear hcz7_1
                try clear hcz7_2
                try clear hcz7_3
                try clear hcz7_4
                try clear hcz7_5
                try clear hcz7_6
                try clear hcz7_7
                try clear hcz7_8
                try clear hfz12_0
                try clear hfz12_1
                try clear hfz12_2
                try clear hfz12_3
                try clear hfz12_4
                try clear hfz12_5
                try clear hfz12_6
                try clear hfz12_7
                try clear hfz12_8
                try clear hfz13_0
                try clear hfz13_1
                try clear hfz13_2
                try clear hfz13_3
                try clear hfz13_4
                try clear hfz13_5
                try clear hfz13_6
                try clear hfz13_7
                try clear hfz13_8
                try clear hfz14_0
                try clear hfz14_1
                try clear hfz14_2
                try clear hfz14_3
                try clear hfz14_4
                try clear hfz14_5
                try clear hfz14_6
                try clear hfz14_7
                try clear hfz14_8
                try clear hfz19_0
                try clear hfz19_1
                try clear hfz19_2
                try clear hfz19_3
                try clear hfz19_4
                try clear hfz19_5
                try clear hfz19_6
                try clear hfz19_7
                try clear hfz19_8
                try clear hfz21_0
                try clear hfz21_1
                try clear hfz21_2
                try clear hfz21_3
                try clear hfz21_4
                try clear hfz21_5
                try clear hfz21_6
                try clear hfz21_7
                try clear hfz21_8
                try clear hfz23_0
                try clear hfz23_1
                try clear hfz23_2
                try clear hfz23_3
                try clear hfz23_4
                try clear hfz23_5
                try clear hfz23_6
                try clear hfz23_7
                try clear hfz23_8
                try clear hfz27_0
                try clear hfz27_1
                try clear hfz27_2
                try clear hfz27_3
                try clear hfz27_4
                try clear hfz27_5
                try clear hfz27_6
                try clear hfz27_7
                try clear hfz27_8
                try clear hfz29_0
                try clear hfz29_1
                try clear hfz29_2
                try clear hfz29_3
                try clear hfz29_4
                try clear hfz29_5
                try clear hfz29_6
                try clear hfz29_7
                try clear hfz29_8
                try clear hfz31_0
                try clear hfz31_1
                try clear hfz31_2
                try clear hfz31_3
                try clear hfz31_4
                try clear hfz31_5
                try clear hfz31_6
                try clear hfz31_7
                try clear hfz31_8
                try clear hfz33_0
                try clear hfz33_1
                try clear hfz33_2
                try clear hfz33_3
                try clear hfz33_4
                try clear hfz33_5
                try clear hfz33_6
                try clear hfz33_7
                try clear hfz33_8
                try clear hfz35_0
                try clear hfz35_1
                try clear hfz35_2
                try clear hfz35_3
                try clear hfz35_4
                try clear hfz35_5
                try clear hfz35_6
                try clear hfz35_7
                try clear hfz35_8
                try clear hfz5_0
                try clear hfz5_1
                try clear hfz5_2
                try clear hfz5_3
                try clear hfz5_4
                try clear hfz5_5
                try clear hfz5_6
                try clear hfz5_7
                try clear hfz5_8
                try clear hfz7_0
                try clear hfz7_1
                try clear hfz7_2
                try clear hfz7_3
                try clear hfz7_4
                try clear hfz7_5
                try clear hfz7_6
                try clear hfz7_7
                try clear hfz7_8
                try clear p2
                obtain ⟨x59_3, rfl, HA, HK3, BK224, HB⟩ := hrel
                cases gk with
                | zero => exact absurd HA.out (by simp [packhorseref11_Right.l0])
                | succ k3 =>
                  have H := HA.out
                  clear HA
                  simp only [packhorseref11_Right.l0] at H
                  by_cases c36 : x59_3 < (l0_8.length : Int)
                  · rw [if_pos c36] at H
                    have c36b0 : decide (x59_3 < (l0_8.length : Int)) = true := decide_eq_true c36
                    clear c36
                    by_cases c37 : 0 ≤ x59_3
                    · rw [if_pos c37] at H
                      have c37b0 : decide (0 ≤ x59_3) = true := decide_eq_true c37
                      clear c37
                      by_cases c38 : x59_3 < (l0_8.length : Int)
                      · rw [if_pos c38] at H
                        have c38b0 : decide (x59_3 < (l0_8.length : Int)) = true := decide_eq_true c38
                        clear c38
                        replace H := Option.bind_eq_some_iff.mp H
                        obtain ⟨t230, A390, H⟩ := H
                        replace H : (if t230 = true then (packhorseref11_Right.l1 k3 x59_3 (rdOf ByteArray.empty l0_8 x59_3) 0 l0_8 (l0_8.length : Int) x59_3 a0_0 a0_1 a0_2 a0_3 a0_4 a0_5 a0_6 a0_7 l0_8) else (some false)) = some r := H
                        have A39 := Aside0.mk A390
                        clear A390
                        by_cases c40 : t230 = true
                        · subst c40
                          have H1 : (packhorseref11_Right.l1 k3 x59_3 (rdOf ByteArray.empty l0_8 x59_3) 0 l0_8 (l0_8.length : Int) x59_3 a0_0 a0_1 a0_2 a0_3 a0_4 a0_5 a0_6 a0_7 l0_8) = some r := by rw [if_pos rfl] at H; exact H
                          clear H
                          have H := H1
                          clear H1
                          have H' := Aside0.mk H
                          clear H
                          have p229 : 0 ≤ (x59_3 : Int) := of_decide_eq_true (by first | (with_reducible assumption) | assumption)
                          have q229 : x59_3 < (l0_8.length : Int) := of_decide_eq_true (by first | (with_reducible assumption) | assumption)
                          obtain ⟨ad229, e229, hx229_0⟩ := Kd.at_string HR0_8.out x59_3 p229 q229
                          cases e229
                          replace hx229_0 := (HB.out.cell (World.block_lt_of_cell? w _ hx229_0)).trans hx229_0
                          replace p229 := eq_true p229
                          replace q229 := eq_true q229
                          go_wp2_with (first | ((with_reducible refine gate_callee (f := 40) rfl ?_); refine goesL_ (some 65) rfl rfl Tryd.func40 (by kernel_rfl) rfl #[.string (rdOf ByteArray.empty l0_8 x59_3)] rfl (by (try simp only [List.map_toArray, List.map_cons, List.map_nil]); first | done | rfl | (simp only [List.length_drop, List.length_take]; rfl)) ?_; (with_reducible refine (packhorseref01_Right.calls k3 (rdOf ByteArray.empty l0_8 x59_3) true _ A39.out).mono ?_); rintro e w41 ⟨rfl, hb⟩; refine ⟨_, rfl, ?_⟩; have n0_ := Aside0.mk (blk_below (g := gb224) (o := .cells #[.int .i64 a0_0, .int .i64 a0_1, .int .i64 a0_2, .int .i64 a0_3, .int .i64 a0_4, .string a0_5, .string a0_6, .string a0_7, .slice (some ad229) l0_8.length c0_8] 31 (0, 0)) (by (with_reducible repeat (first | refine blk_drewN ?_ _ | refine blk_drew ?_ | refine blk_alloc ?_ _)); exact BK224.out) hb); have n1_ := Aside0.mk (below_step (by repeat (first | (with_reducible first | exact HB.out | apply below_alloc | apply pw_below_drewN | apply below_drew1 | refine below_set ?_ GE224.out) | exact HB.out)) hb); clear BK224; clear HB; have BK224 := n0_; have HB := n1_; clear n0_ n1_; (try clear hb); (try clear hb2); (try clear hk); (try clear hi)))
                          go_loopg [5] k3 (fun kq v5 w' => ∃ (x5_4 : Int), v5 = .int .i64 x5_4 ∧ Aside0 (packhorseref11_Right.l1 kq x59_3 (rdOf ByteArray.empty l0_8 x59_3) x5_4 l0_8 (l0_8.length : Int) x59_3 a0_0 a0_1 a0_2 a0_3 a0_4 a0_5 a0_6 a0_7 l0_8 = some r) ∧ Aside0 (kq ≤ k3) ∧ Aside0 (w'.heap[gb224]? = some (.cells #[.int .i64 a0_0, .int .i64 a0_1, .int .i64 a0_2, .int .i64 a0_3, .int .i64 a0_4, .string a0_5, .string a0_6, .string a0_7, (.slice (some ad229) l0_8.length c0_8)] 31 (0, 0))) ∧ Aside0 (Below w.heap.size w w'))
                          case atStart => exact ⟨(0), (by first | rfl | (simp; done) | (simp [*]; done)), H', ⟨Nat.le_refl _⟩, ⟨by (with_reducible repeat (first | refine blk_drewN ?_ _ | refine blk_drew ?_ | refine blk_alloc ?_ _)); exact BK224.out⟩, ⟨by repeat (first | (with_reducible first | exact HB.out | apply below_alloc | apply pw_below_drewN | apply below_drew1 | refine below_set ?_ GE224.out) | exact HB.out)⟩⟩
                          case round =>
                            clear H'
                            try clear c1
                            try clear c2
                            try clear p2
                            try clear q2
                            try clear hx2
                            try clear c3
                            try clear c4
                            try clear c4b0
                            try clear c6
                            try clear c6b0
                            try clear c9
                            try clear c11
                            try clear c15
                            try clear c16
                            try clear c17
                            try clear c17b0
                            try clear c17b1
                            try clear c18
                            try clear c18b0
                            try clear c20
                            try clear c20b0
                            try clear p22
                            try clear q22
                            try clear hx22
                            try clear c25
                            try clear c25b0
                            try clear c25b1
                            try clear c26
                            try clear c26b0
                            try clear c28
                            try clear c28b0
                            try clear c34
                            try clear c36
                            try clear c36b0
                            try clear c37
                            try clear c37b0
                            try clear c38
                            try clear c38b0
                            try clear c40
                            try clear hcz12_0
                            try clear hcz12_1
                            try clear hcz12_2
                            try clear hcz12_3
                            try clear hcz12_4
                            try clear hcz12_5
                            try clear hcz12_6
                            try clear hcz12_7
                            try clear hcz12_8
                            try clear hcz13_0
                            try clear hcz13_1
                            try clear hcz13_2
                            try clear hcz13_3
                            try clear hcz13_4
                            try clear hcz13_5
                            try clear hcz13_6
                            try clear hcz13_7
                            try clear hcz13_8
                            try clear hcz14_0
                            try clear hcz14_1
                            try clear hcz14_2
                            try clear hcz14_3
                            try clear hcz14_4
                            try clear hcz14_5
                            try clear hcz14_6
                            try clear hcz14_7
                            try clear hcz14_8
                            try clear hcz19_0
                            try clear hcz19_1
                            try clear hcz19_2
                            try clear hcz19_3
                            try clear hcz19_4
                            try clear hcz19_5
                            try clear hcz19_6
                            try clear hcz19_7
                            try clear hcz19_8
                            try clear hcz21_0
                            try clear hcz21_1
                            try clear hcz21_2
                            try clear hcz21_3
                            try clear hcz21_4
                            try clear hcz21_5
                            try clear hcz21_6
                            try clear hcz21_7
                            try clear hcz21_8
                            try clear hcz23_0
                            try clear hcz23_1
                            try clear hcz23_2
                            try clear hcz23_3
                            try clear hcz23_4
                            try clear hcz23_5
                            try clear hcz23_6
                            try clear hcz23_7
                            try clear hcz23_8
                            try clear hcz27_0
                            try clear hcz27_1
                            try clear hcz27_2
                            try clear hcz27_3
                            try clear hcz27_4
                            try clear hcz27_5
                            try clear hcz27_6
                            try clear hcz27_7
                            try clear hcz27_8
                            try clear hcz29_0
                            try clear hcz29_1
                            try clear hcz29_2
                            try clear hcz29_3
                            try clear hcz29_4
                            try clear hcz29_5
                            try clear hcz29_6
                            try clear hcz29_7
                            try clear hcz29_8
                            try clear hcz31_0
                            try clear hcz31_1
                            try clear hcz31_2
                            try clear hcz31_3
                            try clear hcz31_4
                            try clear hcz31_5
                            try clear hcz31_6
                            try clear hcz31_7
                            try clear hcz31_8
                            try clear hcz33_0
                            try clear hcz33_1
                            try clear hcz33_2
                            try clear hcz33_3
                            try clear hcz33_4
                            try clear hcz33_5
                            try clear hcz33_6
                            try clear hcz33_7
                            try clear hcz33_8
                            try clear hcz35_0
                            try clear hcz35_1
                            try clear hcz35_2
                            try clear hcz35_3
                            try clear hcz35_4
                            try clear hcz35_5
                            try clear hcz35_6
                            try clear hcz35_7
                            try clear hcz35_8
                            try clear hcz5_0
                            try clear hcz5_1
                            try clear hcz5_2
                            try clear hcz5_3
                            try clear hcz5_4
                            try clear hcz5_5
                            try clear hcz5_6
                            try clear hcz5_7
                            try clear hcz5_8
                            try clear hcz7_0
                            try clear hcz7_1
                            try clear hcz7_2
                            try clear hcz7_3
                            try clear hcz7_4
                            try clear hcz7_5
                            try clear hcz7_6
                            try clear hcz7_7
                            try clear hcz7_8
                            try clear hfz12_0
                            try clear hfz12_1
                            try clear hfz12_2
                            try clear hfz12_3
                            try clear hfz12_4
                            try clear hfz12_5
                            try clear hfz12_6
                            try clear hfz12_7
                            try clear hfz12_8
                            try clear hfz13_0
                            try clear hfz13_1
                            try clear hfz13_2
                            try clear hfz13_3
                            try clear hfz13_4
                            try clear hfz13_5
                            try clear hfz13_6
                            try clear hfz13_7
                            try clear hfz13_8
                            try clear hfz14_0
                            try clear hfz14_1
                            try clear hfz14_2
                            try clear hfz14_3
                            try clear hfz14_4
                            try clear hfz14_5
                            try clear hfz14_6
                            try clear hfz14_7
                            try clear hfz14_8
                            try clear hfz19_0
                            try clear hfz19_1
                            try clear hfz19_2
                            try clear hfz19_3
                            try clear hfz19_4
                            try clear hfz19_5
                            try clear hfz19_6
                            try clear hfz19_7
                            try clear hfz19_8
                            try clear hfz21_0
                            try clear hfz21_1
                            try clear hfz21_2
                            try clear hfz21_3
                            try clear hfz21_4
                            try clear hfz21_5
                            try clear hfz21_6
                            try clear hfz21_7
                            try clear hfz21_8
                            try clear hfz23_0
                            try clear hfz23_1
                            try clear hfz23_2
                            try clear hfz23_3
                            try clear hfz23_4
                            try clear hfz23_5
                            try clear hfz23_6
                            try clear hfz23_7
                            try clear hfz23_8
                            try clear hfz27_0
                            try clear hfz27_1
                            try clear hfz27_2
                            try clear hfz27_3
                            try clear hfz27_4
                            try clear hfz27_5
                            try clear hfz27_6
                            try clear hfz27_7
                            try clear hfz27_8
                            try clear hfz29_0
                            try clear hfz29_1
                            try clear hfz29_2
                            try clear hfz29_3
                            try clear hfz29_4
                            try clear hfz29_5
                            try clear hfz29_6
                            try clear hfz29_7
                            try clear hfz29_8
                            try clear hfz31_0
                            try clear hfz31_1
                            try clear hfz31_2
                            try clear hfz31_3
                            try clear hfz31_4
                            try clear hfz31_5
                            try clear hfz31_6
                            try clear hfz31_7
                            try clear hfz31_8
                            try clear hfz33_0
                            try clear hfz33_1
                            try clear hfz33_2
                            try clear hfz33_3
                            try clear hfz33_4
                            try clear hfz33_5
                            try clear hfz33_6
                            try clear hfz33_7
                            try clear hfz33_8
                            try clear hfz35_0
                            try clear hfz35_1
                            try clear hfz35_2
                            try clear hfz35_3
                            try clear hfz35_4
                            try clear hfz35_5
                            try clear hfz35_6
                            try clear hfz35_7
                            try clear hfz35_8
                            try clear hfz5_0
                            try clear hfz5_1
                            try clear hfz5_2
                            try clear hfz5_3
                            try clear hfz5_4
                            try clear hfz5_5
                            try clear hfz5_6
                            try clear hfz5_7
                            try clear hfz5_8
                            try clear hfz7_0
                            try clear hfz7_1
                            try clear hfz7_2
                            try clear hfz7_3
                            try clear hfz7_4
                            try clear hfz7_5
                            try clear hfz7_6
                            try clear hfz7_7
                            try clear hfz7_8
                            try clear hx229_0
                            try clear p2
                            try clear p229
                            try clear q229
                            obtain ⟨x5_4, rfl, HA, HK4, BK224, HB⟩ := hrel
                            cases gk with
                            | zero => exact absurd HA.out (by simp [packhorseref11_Right.l1])
                            | succ k4 =>
                              have H := HA.out
                              clear HA
                              simp only [packhorseref11_Right.l1] at H
                              by_cases c42 : x5_4 < x59_3
                              · rw [if_pos c42] at H
                                have c42b0 : decide (x5_4 < x59_3) = true := decide_eq_true c42
                                clear c42
                                by_cases c43 : 0 ≤ x5_4
                                · rw [if_pos c43] at H
                                  have c43b0 : decide (0 ≤ x5_4) = true := decide_eq_true c43
                                  clear c43
                                  by_cases c44 : x5_4 < (l0_8.length : Int)
                                  · rw [if_pos c44] at H
                                    have c44b0 : decide (x5_4 < (l0_8.length : Int)) = true := decide_eq_true c44
                                    clear c44
                                    by_cases c45 : (rdOf ByteArray.empty l0_8 x5_4).toList = (rdOf ByteArray.empty l0_8 x59_3).toList
                                    · rw [if_pos c45] at H
                                      have c45b0 : ((rdOf ByteArray.empty l0_8 x5_4).toList == (rdOf ByteArray.empty l0_8 x59_3).toList) = true := beq_iff_eq.mpr c45
                                      have c45b1 : ((rdOf ByteArray.empty l0_8 x5_4).toList != (rdOf ByteArray.empty l0_8 x59_3).toList) = false := bne_eq_false_iff_eq.mpr c45
                                      clear c45
                                      obtain rfl := Option.some.inj H
                                      simp only [Option.some.injEq, Prod.mk.injEq] at H
                                      obtain ⟨rfl⟩ := H
                                      have hcz46_0 : wr.cell? ⟨gb224, 0, none⟩ = some (.int .i64 a0_0) := (blk_cell BK224.out 0).trans rfl
                                      have hcz46_1 : wr.cell? ⟨gb224, 1, none⟩ = some (.int .i64 a0_1) := (blk_cell BK224.out 1).trans rfl
                                      have hcz46_2 : wr.cell? ⟨gb224, 2, none⟩ = some (.int .i64 a0_2) := (blk_cell BK224.out 2).trans rfl
                                      have hcz46_3 : wr.cell? ⟨gb224, 3, none⟩ = some (.int .i64 a0_3) := (blk_cell BK224.out 3).trans rfl
                                      have hcz46_4 : wr.cell? ⟨gb224, 4, none⟩ = some (.int .i64 a0_4) := (blk_cell BK224.out 4).trans rfl
                                      have hcz46_5 : wr.cell? ⟨gb224, 5, none⟩ = some (.string a0_5) := (blk_cell BK224.out 5).trans rfl
                                      have hcz46_6 : wr.cell? ⟨gb224, 6, none⟩ = some (.string a0_6) := (blk_cell BK224.out 6).trans rfl
                                      have hcz46_7 : wr.cell? ⟨gb224, 7, none⟩ = some (.string a0_7) := (blk_cell BK224.out 7).trans rfl
                                      have hcz46_8 : wr.cell? ⟨gb224, 8, none⟩ = some (.slice (some ad229) l0_8.length c0_8) := (blk_cell BK224.out 8).trans rfl
                                      have hfz46_0 := blk_frozen BK224.out 0
                                      have hfz46_1 := blk_frozen BK224.out 1
                                      have hfz46_2 := blk_frozen BK224.out 2
                                      have hfz46_3 := blk_frozen BK224.out 3
                                      have hfz46_4 := blk_frozen BK224.out 4
                                      have hfz46_5 := blk_frozen BK224.out 5
                                      have hfz46_6 := blk_frozen BK224.out 6
                                      have hfz46_7 := blk_frozen BK224.out 7
                                      have hfz46_8 := blk_frozen BK224.out 8
                                      have p231 : 0 ≤ (x5_4 : Int) := of_decide_eq_true (by first | (with_reducible assumption) | assumption)
                                      have q231 : x5_4 < (l0_8.length : Int) := of_decide_eq_true (by first | (with_reducible assumption) | assumption)
                                      obtain ⟨ad231, e231, hx231_0⟩ := Kd.at_string HR0_8.out x5_4 p231 q231
                                      obtain rfl : ad229 = ad231 := (by injection e231)
                                      replace hx231_0 := (HB.out.cell (World.block_lt_of_cell? w _ hx231_0)).trans hx231_0
                                      replace p231 := eq_true p231
                                      replace q231 := eq_true q231
                                      go_wp2
                                      go_ret
                                      exact ⟨by first | rfl | (simp [errW_none, errW_some] <;> rfl) | (simp [*, errW_none, errW_some] <;> rfl), by repeat (first | (with_reducible first | exact HB.out | apply below_alloc | apply pw_below_drewN | apply below_drew1 | refine below_set ?_ GE224.out) | exact HB.out)⟩
                                    · rw [if_neg c45] at H
                                      have c45b0 : ((rdOf ByteArray.empty l0_8 x5_4).toList == (rdOf ByteArray.empty l0_8 x59_3).toList) = false := beq_eq_false_iff_ne.mpr c45
                                      have c45b1 : ((rdOf ByteArray.empty l0_8 x5_4).toList != (rdOf ByteArray.empty l0_8 x59_3).toList) = true := bne_iff_ne.mpr c45
                                      have H' := Aside0.mk H
                                      clear H
                                      have hcz47_0 : wr.cell? ⟨gb224, 0, none⟩ = some (.int .i64 a0_0) := (blk_cell BK224.out 0).trans rfl
                                      have hcz47_1 : wr.cell? ⟨gb224, 1, none⟩ = some (.int .i64 a0_1) := (blk_cell BK224.out 1).trans rfl
                                      have hcz47_2 : wr.cell? ⟨gb224, 2, none⟩ = some (.int .i64 a0_2) := (blk_cell BK224.out 2).trans rfl
                                      have hcz47_3 : wr.cell? ⟨gb224, 3, none⟩ = some (.int .i64 a0_3) := (blk_cell BK224.out 3).trans rfl
                                      have hcz47_4 : wr.cell? ⟨gb224, 4, none⟩ = some (.int .i64 a0_4) := (blk_cell BK224.out 4).trans rfl
                                      have hcz47_5 : wr.cell? ⟨gb224, 5, none⟩ = some (.string a0_5) := (blk_cell BK224.out 5).trans rfl
                                      have hcz47_6 : wr.cell? ⟨gb224, 6, none⟩ = some (.string a0_6) := (blk_cell BK224.out 6).trans rfl
                                      have hcz47_7 : wr.cell? ⟨gb224, 7, none⟩ = some (.string a0_7) := (blk_cell BK224.out 7).trans rfl
                                      have hcz47_8 : wr.cell? ⟨gb224, 8, none⟩ = some (.slice (some ad229) l0_8.length c0_8) := (blk_cell BK224.out 8).trans rfl
                                      have hfz47_0 := blk_frozen BK224.out 0
                                      have hfz47_1 := blk_frozen BK224.out 1
                                      have hfz47_2 := blk_frozen BK224.out 2
                                      have hfz47_3 := blk_frozen BK224.out 3
                                      have hfz47_4 := blk_frozen BK224.out 4
                                      have hfz47_5 := blk_frozen BK224.out 5
                                      have hfz47_6 := blk_frozen BK224.out 6
                                      have hfz47_7 := blk_frozen BK224.out 7
                                      have hfz47_8 := blk_frozen BK224.out 8
                                      have p231 : 0 ≤ (x5_4 : Int) := of_decide_eq_true (by first | (with_reducible assumption) | assumption)
                                      have q231 : x5_4 < (l0_8.length : Int) := of_decide_eq_true (by first | (with_reducible assumption) | assumption)
                                      obtain ⟨ad231, e231, hx231_0⟩ := Kd.at_string HR0_8.out x5_4 p231 q231
                                      obtain rfl : ad229 = ad231 := (by injection e231)
                                      replace hx231_0 := (HB.out.cell (World.block_lt_of_cell? w _ hx231_0)).trans hx231_0
                                      replace p231 := eq_true p231
                                      replace q231 := eq_true q231
                                      go_wp2
                                      go_roundg k4
                                      case measure => have := HJ1.out; have := HJ15.out; have := HK3.out; have := HK4.out; omega
                                      case rel => exact ⟨(wrap64 (x5_4 + 1)), (by first | rfl | (simp; done) | (simp [*]; done)), H', ⟨by have := HJ1.out; have := HJ15.out; have := HK3.out; have := HK4.out; omega⟩, ⟨by (with_reducible repeat (first | refine blk_drewN ?_ _ | refine blk_drew ?_ | refine blk_alloc ?_ _)); exact BK224.out⟩, ⟨by repeat (first | (with_reducible first | exact HB.out | apply below_alloc | apply pw_below_drewN | apply below_drew1 | refine below_set ?_ GE224.out) | exact HB.out)⟩⟩
                                  · rw [if_neg c44] at H
                                    exact absurd H (by simp)
                                · rw [if_neg c43] at H
                                  exact absurd H (by simp)
                              · rw [if_neg c42] at H
                                have c42b0 : decide (x5_4 < x59_3) = false := decide_eq_false c42
                                clear c42
                                have H' := Aside0.mk H
                                clear H
                                go_wp2
                                go_roundg k4
                                case measure => have := HJ1.out; have := HJ15.out; have := HK3.out; have := HK4.out; omega
                                case rel => exact ⟨(wrap64 (x59_3 + 1)), (by first | rfl | (simp; done) | (simp [*]; done)), H', ⟨by have := HJ1.out; have := HJ15.out; have := HK3.out; have := HK4.out; omega⟩, ⟨by (with_reducible repeat (first | refine blk_drewN ?_ _ | refine blk_drew ?_ | refine blk_alloc ?_ _)); exact BK224.out⟩, ⟨by repeat (first | (with_reducible first | exact HB.out | apply below_alloc | apply pw_below_drewN | apply below_drew1 | refine below_set ?_ GE224.out) | exact HB.out)⟩⟩
                        · replace c40 := Bool.eq_false_iff.mpr c40
                          subst c40
                          have H1 : (some false) = some r := by rw [if_neg (show ¬ (false = true) by decide)] at H; exact H
                          clear H
                          have H := H1
                          clear H1
                          obtain rfl := Option.some.inj H
                          simp only [Option.some.injEq, Prod.mk.injEq] at H
                          obtain ⟨rfl⟩ := H
                          have p229 : 0 ≤ (x59_3 : Int) := of_decide_eq_true (by first | (with_reducible assumption) | assumption)
                          have q229 : x59_3 < (l0_8.length : Int) := of_decide_eq_true (by first | (with_reducible assumption) | assumption)
                          obtain ⟨ad229, e229, hx229_0⟩ := Kd.at_string HR0_8.out x59_3 p229 q229
                          cases e229
                          replace hx229_0 := (HB.out.cell (World.block_lt_of_cell? w _ hx229_0)).trans hx229_0
                          replace p229 := eq_true p229
                          replace q229 := eq_true q229
                          go_wp2_with (first | ((with_reducible refine gate_callee (f := 40) rfl ?_); refine goesL_ (some 65) rfl rfl Tryd.func40 (by kernel_rfl) rfl #[.string (rdOf ByteArray.empty l0_8 x59_3)] rfl (by (try simp only [List.map_toArray, List.map_cons, List.map_nil]); first | done | rfl | (simp only [List.length_drop, List.length_take]; rfl)) ?_; (with_reducible refine (packhorseref01_Right.calls k3 (rdOf ByteArray.empty l0_8 x59_3) false _ A39.out).mono ?_); rintro e w48 ⟨rfl, hb⟩; refine ⟨_, rfl, ?_⟩; have n0_ := Aside0.mk (blk_below (g := gb224) (o := .cells #[.int .i64 a0_0, .int .i64 a0_1, .int .i64 a0_2, .int .i64 a0_3, .int .i64 a0_4, .string a0_5, .string a0_6, .string a0_7, .slice (some ad229) l0_8.length c0_8] 31 (0, 0)) (by (with_reducible repeat (first | refine blk_drewN ?_ _ | refine blk_drew ?_ | refine blk_alloc ?_ _)); exact BK224.out) hb); have n1_ := Aside0.mk (below_step (by repeat (first | (with_reducible first | exact HB.out | apply below_alloc | apply pw_below_drewN | apply below_drew1 | refine below_set ?_ GE224.out) | exact HB.out)) hb); clear BK224; clear HB; have BK224 := n0_; have HB := n1_; clear n0_ n1_; (try clear hb); (try clear hb2); (try clear hk); (try clear hi)))
                          go_ret
                          exact ⟨by first | rfl | (simp [errW_none, errW_some] <;> rfl) | (simp [*, errW_none, errW_some] <;> rfl), by repeat (first | (with_reducible first | exact HB.out | apply below_alloc | apply pw_below_drewN | apply below_drew1 | refine below_set ?_ GE224.out) | exact HB.out)⟩
                      · rw [if_neg c38] at H
                        exact absurd H (by simp)
                    · rw [if_neg c37] at H
                      exact absurd H (by simp)
                  · rw [if_neg c36] at H
                    have c36b0 : decide (x59_3 < (l0_8.length : Int)) = false := decide_eq_false c36
                    clear c36
                    obtain rfl := Option.some.inj H
                    simp only [Option.some.injEq, Prod.mk.injEq] at H
                    obtain ⟨rfl⟩ := H
                    go_wp2
                    go_ret
                    exact ⟨by first | rfl | (simp [errW_none, errW_some] <;> rfl) | (simp [*, errW_none, errW_some] <;> rfl), by repeat (first | (with_reducible first | exact HB.out | apply below_alloc | apply pw_below_drewN | apply below_drew1 | refine below_set ?_ GE224.out) | exact HB.out)⟩

end Go.Proofs.YtapfpdjcbeiibaaDoor.PAll
