
import Derived.Test.YtdfnpjmebnlfbaaQHalvesRunsPAllx2
import Derived.Deep.RegionHeld3
namespace Go.Proofs.YtdfnpjmebnlfbaaW.PrintMore
end Go.Proofs.YtdfnpjmebnlfbaaW.PrintMore
set_option linter.unusedVariables false
set_option linter.unusedSimpArgs false
namespace Go.Proofs.Ytdfnpjmebnlfbaa.PAll
open Go Go.Proofs Go.RowKit Go.Proofs.YtdfnpjmebnlfbaaW.PrintWords Go.Proofs.YtdfnpjmebnlfbaaW.PrintLast Go.Proofs.YtdfnpjmebnlfbaaW.PrintMore
def PlanS (W : World) (B g : Nat) (S : Nat → Prop) (rest : List (List ByteArray)) (good bad : List ByteArray) (tries : Int) : Prop :=
  ∃ vr vg vb : Value, W.heap[g]? = some (.cells #[vr, vg, vb, .int .i64 tries] 49 (0, 0)) ∧ (∀ k, S k → B ≤ k ∧ k < W.heap.size) ∧ S g ∧
    Kd.R (Kd.slice 9 Kd.string) 22 W B (fun k => S k ∧ some k ≠ vg.ownBlock ∧ some k ≠ vb.ownBlock) vr rest ∧
    Kd.R Kd.string 9 W B (fun k => S k ∧ some k ≠ vb.ownBlock) vg good ∧
    Kd.R Kd.string 9 W B S vb bad
theorem PlanS.kept {W W1 : World} {B g : Nat} {S S1 : Nat → Prop} {rest : List (List ByteArray)} {good bad : List ByteArray} {tries : Int} (h : PlanS W B g S rest good bad tries) (hk : Kept W W1 S1) (hs : ∀ k, S k → ¬ S1 k) : PlanS W1 B g S rest good bad tries := by
  obtain ⟨vr, vg, vb, hb, hS, hg, h1, h2, h3⟩ := h
  exact ⟨vr, vg, vb, blk_kept hb hk (hs g hg), fun k h => ⟨(hS k h).1, Nat.lt_of_lt_of_le (hS k h).2 hk.1⟩, hg, Kd.R_kept h1 hk (fun k h => hs k h.1), Kd.R_kept h2 hk (fun k h => hs k h.1), Kd.R_kept h3 hk hs⟩
theorem PlanS.below {W W1 : World} {B g : Nat} {S : Nat → Prop} {rest : List (List ByteArray)} {good bad : List ByteArray} {tries : Int} (h : PlanS W B g S rest good bad tries) (hb : Below W.heap.size W W1) : PlanS W1 B g S rest good bad tries :=
  h.kept (Kept.of_below hb (fun _ => False)) (fun _ _ h => h)
def nextL (rest : List (List ByteArray)) : List ByteArray := rest.getLast?.getD []
theorem nextL_snoc (q : List (List ByteArray)) (l : List ByteArray) : nextL (q ++ [l]) = l := by simp [nextL]
set_option maxHeartbeats 4000000 in
set_option maxRecDepth 100000 in
theorem next_calls (g B : Nat) (S : Nat → Prop) (rest : List (List ByteArray)) (good bad : List ByteArray) (tries : Int) (w : World) (hP : PlanS w B g S rest good bad tries) (hl : (nextL rest).length < 8796093022208) :
    Calls Try.prog 13 #[.pointer (some ⟨g, 0, none⟩)] w fun e w' => ∃ v : Value, e = .returned v ∧ Kd.R Kd.string 9 w' w.heap.size (fun _ => True) v (nextL rest) ∧ Below w.heap.size w w' := by
  have hu49 := Try.underlying49
  obtain ⟨vr, vg, vb, hb, hS, hg, h1, h2, h3⟩ := hP
  rcases List.eq_nil_or_concat rest with rfl | ⟨q, l, rfl⟩
  · obtain ⟨A, c, rfl⟩ := Kd.R_slice h1
    have hc0 : w.cell? ⟨g, 0, none⟩ = some (.slice A 0 c) := (blk_cell hb 0).trans rfl
    clear h1 h2 h3 hS hb hl
    go_enter Try.func13, Try.ntmps13
    go_wp2_with fail
    go_ret
    exact ⟨.slice none 0 0, rfl, Kd.R_nil _ _ _ _ _, Below.refl _ _⟩
  · rw [List.concat_eq_append] at h1 hl ⊢
    rw [nextL_snoc] at hl ⊢
    obtain ⟨A, c, hv, hle, hC⟩ := Kd.R_reads h1
    subst hv
    have hn : (q ++ [l]).length = q.length + 1 := by simp
    have hmax := hC.2.1
    obtain ⟨ad, cs, hA, hcs, hK, hcell⟩ := Kd.C_get hC ([] : List ByteArray) (q.length : Int) (by omega) (by omega)
    subst hA
    rw [show ((q ++ [l]).getD (q.length : Int).toNat ([] : List ByteArray)) = l by simp [List.getD_eq_getElem?_getD]] at hK
    obtain ⟨Ai, ci, hcsi, hlei, hCi⟩ := hK
    subst hcsi
    have hin := hcell 0 _ rfl
    have sz : (Kd.slice 9 Kd.string).sz = 1 := rfl
    rw [sz] at hin
    simp only [Int.toNat_natCast, Nat.mul_one, Nat.add_zero] at hin
    rw [hn] at hb hmax
    have hc0 : w.cell? ⟨g, 0, none⟩ = some (.slice (some ad) (q.length + 1) c) := (blk_cell hb 0).trans rfl
    have HCi := Aside0.mk hCi
    have Hle := Aside0.mk hlei
    have HN := Aside0.mk (show slices_Clone_string_string.f l = some l from if_pos hl)
    clear h1 h2 h3 hS hb hl hC hCi hlei hcell hle
    have w1 : wrap64 (((q.length : Int) + 1) - 1) = (q.length : Int) := by unfold wrap64; omega
    have w2 : IntKind.i64.wrap (((q.length : Int) + 1) - 1) = (q.length : Int) := (i64_w _).trans w1
    have w3 : IntKind.i64.wrap (((q.length + 1 : Nat) : Int) - 1) = (q.length : Int) := by rw [show (((q.length + 1 : Nat) : Int) - 1) = ((q.length : Int) + 1) - 1 by omega]; exact w2
    have i0 : (0 : Int) ≤ (q.length : Int) := by omega
    have w4 : wrap64 (q.length : Int) = (q.length : Int) := by unfold wrap64; omega
    have w5 : IntKind.i64.wrap (q.length : Int) = (q.length : Int) := (i64_w _).trans w4
    have ht : ((q.length : Int)).toNat = q.length := Int.toNat_natCast _
    have hs : Try.prog.cellsOf 22 = 1 := by kernel_rfl
    have hi22 := info22
    have i2 : (q.length : Int) < ((q.length + 1 : Nat) : Int) := by omega
    have i1 : (q.length : Int) < (q.length : Int) + 1 := by omega
    go_enter Try.func13, Try.ntmps13
    go_wp2_with fail
    go_region_held3 (fun w' => w'.cell? ⟨g, 0, none⟩ = some (.slice (some ad) (q.length + 1) c) ∧ w'.cell? (ad.add q.length) = some (.slice Ai l.length ci)) (first | (refine ⟨?_, ?_⟩ <;> assumption) | exact ⟨pw_cell_below hb hc0, pw_cell_below hb hin⟩) (first | (go_at_call 23; refine (slices_Clone_string_string.calls Ai ci l l _ (by repeat (first | exact HCi.out | (with_reducible refine Kd.C_drewN ?_ _) | (with_reducible refine Kd.C_drew ?_))) Hle.out HN.out).mono ?_; rintro e w' ⟨v, rfl, hR, hb⟩))
    all_goals go_wp2
    all_goals go_ret
    all_goals exact ⟨v, rfl, hR, below_step (below_drew (Below.refl _ _)) hb⟩
set_option maxHeartbeats 4000000 in
set_option maxRecDepth 100000 in
theorem good_calls (g B : Nat) (S : Nat → Prop) (rest : List (List ByteArray)) (good bad : List ByteArray) (tries : Int) (w : World) (hP : PlanS w B g S rest good bad tries) (hl : good.length < 8796093022208) :
    Calls Try.prog 18 #[.pointer (some ⟨g, 0, none⟩)] w fun e w' => ∃ v : Value, e = .returned v ∧ Kd.R Kd.string 9 w' w.heap.size (fun _ => True) v good ∧ Below w.heap.size w w' := by
  have hu49 := Try.underlying49
  obtain ⟨vr, vg, vb, hb, hS, hg, h1, h2, h3⟩ := hP
  obtain ⟨A, c, hv, hle, hC⟩ := Kd.R_reads h2
  subst hv
  have hc1 : w.cell? ⟨g, 1, none⟩ = some (.slice A good.length c) := (blk_cell hb 1).trans rfl
  have HC := Aside0.mk hC
  have Hle := Aside0.mk hle
  have HN := Aside0.mk (show slices_Clone_string_string.f good = some good from if_pos hl)
  clear h1 h2 h3 hS hb hl hC hle
  go_enter Try.func18, Try.ntmps18
  go_wp2_with (go_at_call 23; refine (slices_Clone_string_string.calls A c good good _ HC.out Hle.out HN.out).mono ?_; rintro e w' ⟨v, rfl, hR, hb⟩)
  go_ret
  exact ⟨v, rfl, hR, hb⟩
set_option maxHeartbeats 4000000 in
set_option maxRecDepth 100000 in
theorem bad_calls (g B : Nat) (S : Nat → Prop) (rest : List (List ByteArray)) (good bad : List ByteArray) (tries : Int) (w : World) (hP : PlanS w B g S rest good bad tries) (hl : bad.length < 8796093022208) :
    Calls Try.prog 19 #[.pointer (some ⟨g, 0, none⟩)] w fun e w' => ∃ v : Value, e = .returned v ∧ Kd.R Kd.string 9 w' w.heap.size (fun _ => True) v bad ∧ Below w.heap.size w w' := by
  have hu49 := Try.underlying49
  obtain ⟨vr, vg, vb, hb, hS, hg, h1, h2, h3⟩ := hP
  obtain ⟨A, c, hv, hle, hC⟩ := Kd.R_reads h3
  subst hv
  have hc1 : w.cell? ⟨g, 2, none⟩ = some (.slice A bad.length c) := (blk_cell hb 2).trans rfl
  have HC := Aside0.mk hC
  have Hle := Aside0.mk hle
  have HN := Aside0.mk (show slices_Clone_string_string.f bad = some bad from if_pos hl)
  clear h1 h2 h3 hS hb hl hC hle
  go_enter Try.func19, Try.ntmps19
  go_wp2_with (go_at_call 23; refine (slices_Clone_string_string.calls A c bad bad _ HC.out Hle.out HN.out).mono ?_; rintro e w' ⟨v, rfl, hR, hb⟩)
  go_ret
  exact ⟨v, rfl, hR, hb⟩
set_option maxHeartbeats 4000000 in
set_option maxRecDepth 100000 in
theorem tries_calls (g B : Nat) (S : Nat → Prop) (rest : List (List ByteArray)) (good bad : List ByteArray) (tries : Int) (w : World) (hP : PlanS w B g S rest good bad tries) :
    Calls Try.prog 17 #[.pointer (some ⟨g, 0, none⟩)] w fun e w' => e = .returned (.int .i64 tries) ∧ w' = w := by
  have hu49 := Try.underlying49
  obtain ⟨vr, vg, vb, hb, hS, hg, h1, h2, h3⟩ := hP
  have hc3 : w.cell? ⟨g, 3, none⟩ = some (.int .i64 tries) := (blk_cell hb 3).trans rfl
  clear h1 h2 h3 hS hb
  go_enter Try.func17, Try.ntmps17
  go_wp2_with fail
  go_ret
  exact ⟨rfl, rfl⟩
end Go.Proofs.Ytdfnpjmebnlfbaa.PAll
