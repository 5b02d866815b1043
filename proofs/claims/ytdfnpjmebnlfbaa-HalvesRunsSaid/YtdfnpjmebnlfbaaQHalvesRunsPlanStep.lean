
import Derived.Test.YtdfnpjmebnlfbaaQHalvesRunsPlanNew
namespace Go.Proofs.YtdfnpjmebnlfbaaW.PrintMore
end Go.Proofs.YtdfnpjmebnlfbaaW.PrintMore
set_option linter.unusedVariables false
set_option linter.unusedSimpArgs false
namespace Go.Proofs.Ytdfnpjmebnlfbaa.PAll
open Go Go.Proofs Go.RowKit Go.Proofs.YtdfnpjmebnlfbaaW.PrintWords Go.Proofs.YtdfnpjmebnlfbaaW.PrintLast Go.Proofs.YtdfnpjmebnlfbaaW.PrintMore
structure Told (w w' : World) (B : Nat) (S S' : Nat → Prop) : Prop where
  kept : Kept w w' S
  more : ∀ k, S' k → S k ∨ w.heap.size ≤ k
  below : Below B w w'
theorem Told.refl (w : World) (B : Nat) (S : Nat → Prop) : Told w w B S S := ⟨Kept.refl _ _, fun _ h => .inl h, Below.refl _ _⟩
theorem Told.trans {w w1 w2 : World} {B : Nat} {S S1 S2 : Nat → Prop} (h : Told w w1 B S S1) (k : Told w1 w2 B S1 S2) : Told w w2 B S S2 :=
  ⟨h.kept.then_ k.kept (fun i hi => h.more i hi), fun i hi => (k.more i hi).elim (h.more i) (fun h2 => .inr (Nat.le_trans h.kept.1 h2)), h.below.trans k.below⟩
theorem Told.of_below {w w' : World} {B : Nat} {S : Nat → Prop} (h : Below w.heap.size w w') (hB : B ≤ w.heap.size) : Told w w' B S S := ⟨Kept.of_below h _, fun _ h => .inl h, h.mono hB⟩
theorem Told.drew {w w' : World} {B : Nat} {S S' : Nat → Prop} (h : Told w w' B S S') : Told w w'.drew B S S' := ⟨h.kept.drew, h.more, h.below.drew⟩
theorem Told.below_ {w0 w w' w2 : World} {B : Nat} {S S' : Nat → Prop} (h : Told w w' B S S') (hb : Below w0.heap.size w0 w) (hle : w0.heap.size ≤ B) (k : Below w'.heap.size w' w2) : Below w0.heap.size w0 w2 :=
  below_step (below_weaken hb hle h.below) k
def PlanV (W : World) (B g : Nat) (S : Nat → Prop) (vr vg vb : Value) (rest : List (List ByteArray)) (good bad : List ByteArray) (tries : Int) : Prop :=
  W.heap[g]? = some (.cells #[vr, vg, vb, .int .i64 tries] 49 (0, 0)) ∧ (∀ k, S k → B ≤ k ∧ k < W.heap.size) ∧ S g ∧
    Kd.R (Kd.slice 9 Kd.string) 22 W B (fun k => S k ∧ some k ≠ vg.ownBlock ∧ some k ≠ vb.ownBlock) vr rest ∧
    Kd.R Kd.string 9 W B (fun k => S k ∧ some k ≠ vb.ownBlock) vg good ∧
    Kd.R Kd.string 9 W B S vb bad
theorem PlanS.v {W : World} {B g : Nat} {S : Nat → Prop} {rest : List (List ByteArray)} {good bad : List ByteArray} {tries : Int} (h : PlanS W B g S rest good bad tries) : ∃ vr vg vb, PlanV W B g S vr vg vb rest good bad tries := h
theorem PlanV.s {W : World} {B g : Nat} {S : Nat → Prop} {vr vg vb : Value} {rest : List (List ByteArray)} {good bad : List ByteArray} {tries : Int} (h : PlanV W B g S vr vg vb rest good bad tries) : PlanS W B g S rest good bad tries := ⟨vr, vg, vb, h⟩
section
variable {W w1 : World} {B g : Nat} {S : Nat → Prop} {vr vg vb v1 : Value} {rest rest' : List (List ByteArray)} {good bad good' bad' : List ByteArray} {tries : Int}
theorem PlanV.kept (h : PlanV W B g S vr vg vb rest good bad tries) {S1 : Nat → Prop} (hk : Kept W w1 S1) (hs : ∀ k, S k → ¬ S1 k) : PlanV w1 B g S vr vg vb rest good bad tries := by
  obtain ⟨hb, hS, hg, h1, h2, h3⟩ := h
  exact ⟨blk_kept hb hk (hs g hg), fun k h => ⟨(hS k h).1, Nat.lt_of_lt_of_le (hS k h).2 hk.1⟩, hg, Kd.R_kept h1 hk (fun k h => hs k h.1), Kd.R_kept h2 hk (fun k h => hs k h.1), Kd.R_kept h3 hk hs⟩
theorem PlanV.below (h : PlanV W B g S vr vg vb rest good bad tries) (hb : Below W.heap.size W w1) : PlanV w1 B g S vr vg vb rest good bad tries :=
  h.kept (Kept.of_below hb (fun _ => False)) (fun _ _ h => h)
theorem PlanV.drew (h : PlanV W B g S vr vg vb rest good bad tries) : PlanV W.drew B g S vr vg vb rest good bad tries := h.below (Below.refl _ _).drew
theorem PlanV.gB (h : PlanV W B g S vr vg vb rest good bad tries) : B ≤ g ∧ g < W.heap.size := h.2.1 g h.2.2.1
theorem PlanV.told (h : PlanV W B g S vr vg vb rest good bad tries) (i : Nat) (u : Value) : Told W (W.setCell ⟨g, i, none⟩ u) B S S :=
  ⟨(Kept.refl _ _).setCell (.inl h.2.2.1) _, fun _ h => .inl h, (Below.refl _ _).setCell h.gB.1 _⟩
theorem PlanV.set0 (h : PlanV W B g S vr vg vb rest good bad tries) (h1' : Kd.R (Kd.slice 9 Kd.string) 22 W B (fun k => S k ∧ some k ≠ vg.ownBlock ∧ some k ≠ vb.ownBlock) v1 rest') : PlanV (W.setCell ⟨g, 0, none⟩ v1) B g S v1 vg vb rest' good bad tries := by
  obtain ⟨hb, hS, hg, h1, h2, h3⟩ := h
  exact ⟨by simpa using blk_set hb 0 v1, fun k h => ⟨(hS k h).1, by rw [World.size_setCell]; exact (hS k h).2⟩, hg, Kd.R_set h1' hb (by decide) 0 _, Kd.R_set h2 hb (by decide) 0 _, Kd.R_set h3 hb (by decide) 0 _⟩
theorem PlanV.set3 (h : PlanV W B g S vr vg vb rest good bad tries) (t : Int) : PlanV (W.setCell ⟨g, 3, none⟩ (.int .i64 t)) B g S vr vg vb rest good bad t := by
  obtain ⟨hb, hS, hg, h1, h2, h3⟩ := h
  exact ⟨by simpa using blk_set hb 3 (.int .i64 t), fun k h => ⟨(hS k h).1, by rw [World.size_setCell]; exact (hS k h).2⟩, hg, Kd.R_set h1 hb (by decide) 3 _, Kd.R_set h2 hb (by decide) 3 _, Kd.R_set h3 hb (by decide) 3 _⟩
def More (S : Nat → Prop) (W : World) : Nat → Prop := fun k => S k ∨ W.heap.size ≤ k
def MoreIn (S : Nat → Prop) (W w1 : World) : Nat → Prop := fun k => More S W k ∧ k < w1.heap.size
theorem PlanV.in2 (h : PlanV W B g S vr vg vb rest good bad tries) : Kd.R Kd.string 9 W B (More S W) vb bad := Kd.R_mono h.2.2.2.2.2 (fun k hk => .inl hk)
theorem PlanV.fresh2 : ∀ k, W.heap.size ≤ k → More S W k := fun k hk => .inr hk
theorem PlanV.in1 (h : PlanV W B g S vr vg vb rest good bad tries) : Kd.R Kd.string 9 W B (fun k => More S W k ∧ some k ≠ vb.ownBlock) vg good := Kd.R_mono h.2.2.2.2.1 (fun k hk => ⟨.inl hk.1, hk.2⟩)
theorem PlanV.fresh1 (h : PlanV W B g S vr vg vb rest good bad tries) : ∀ k, W.heap.size ≤ k → More S W k ∧ some k ≠ vb.ownBlock := fun k hk => ⟨.inr hk, fun e => by
  have := (h.2.1 k (h.2.2.2.2.2.1 k e.symm)).2; omega⟩
theorem PlanV.in0 (h : PlanV W B g S vr vg vb rest good bad tries) : Kd.R (Kd.slice 9 Kd.string) 22 W B (fun k => More S W k ∧ some k ≠ vg.ownBlock ∧ some k ≠ vb.ownBlock) vr rest := Kd.R_mono h.2.2.2.1 (fun k hk => ⟨.inl hk.1, hk.2⟩)
theorem PlanV.fresh0 (h : PlanV W B g S vr vg vb rest good bad tries) : ∀ k, W.heap.size ≤ k → More S W k ∧ some k ≠ vg.ownBlock ∧ some k ≠ vb.ownBlock := fun k hk => ⟨.inr hk, fun e => by
  have := (h.2.1 k (h.2.2.2.2.1.1 k e.symm).1).2; omega, (h.fresh1 k hk).2⟩
theorem moreIn_le (h : W.heap.size ≤ w1.heap.size) (hS : ∀ k, S k → B ≤ k ∧ k < W.heap.size) (hB : B ≤ W.heap.size) : ∀ k, MoreIn S W w1 k → B ≤ k ∧ k < w1.heap.size := fun k hk => ⟨hk.1.elim (fun h => (hS k h).1) (fun h => Nat.le_trans hB h), hk.2⟩
theorem moreIn_of (h : W.heap.size ≤ w1.heap.size) (hS : ∀ k, S k → B ≤ k ∧ k < W.heap.size) {k : Nat} (hk : S k) : MoreIn S W w1 k := ⟨.inl hk, Nat.lt_of_lt_of_le (hS k hk).2 h⟩
theorem PlanV.toldPut (h : PlanV W B g S vr vg vb rest good bad tries) (i : Nat) {row : Option Nat} (hg : W.grownBy w1 row) (hr : ∀ k, row = some k → S k) (hb : Below B W w1) : Told W (w1.setCell ⟨g, i, none⟩ v1) B S (MoreIn S W w1) :=
  ⟨(Kept.of_grown hg (Kept.refl _ _) (fun k hk => .inl (hr k hk))).setCell (.inl h.2.2.1) _, fun k hk => hk.1, hb.setCell h.gB.1 _⟩
theorem PlanV.put1 (h : PlanV W B g S vr vg vb rest good bad tries) (hR : Kd.R Kd.string 9 w1 B (fun k => More S W k ∧ some k ≠ vb.ownBlock) v1 good') (hg : W.grownBy w1 vg.ownBlock) (hat : v1.ownBlock = vg.ownBlock ∨ ∃ b, v1.ownBlock = some b ∧ W.heap.size ≤ b) (hb : Below B W w1) :
    PlanV (w1.setCell ⟨g, 1, none⟩ v1) B g (MoreIn S W w1) vr v1 vb rest good' bad tries ∧ Told W (w1.setCell ⟨g, 1, none⟩ v1) B S (MoreIn S W w1) := by
  have hh := h
  obtain ⟨hk, hS, hgS, h1, h2, h3⟩ := h
  have hsz := hg.size
  have hB : B ≤ W.heap.size := Nat.le_of_lt (Nat.lt_of_le_of_lt hh.gB.1 hh.gB.2)
  have hne : some g ≠ vg.ownBlock := Kd.R_ne h2 hk (by decide)
  have hk1 := blk_grown hk hg hne
  have mi : ∀ k, S k → MoreIn S W w1 k := fun k hk => moreIn_of hsz hS hk
  refine ⟨⟨by simpa using blk_set hk1 1 v1, fun k h => by rw [World.size_setCell]; exact moreIn_le hsz hS hB k h, mi g hgS, ?_, ?_, ?_⟩, hh.toldPut 1 hg (fun k e => (h2.1 k e).1) hb⟩
  · have a := Kd.R_mono (Kd.R_after (ok := fun k => S k ∧ some k ≠ vb.ownBlock) (Kd.R_mono h1 (fun k q => ⟨⟨q.1, q.2.2⟩, q.2.1⟩)) hg hat) (ok' := fun k => MoreIn S W w1 k ∧ some k ≠ v1.ownBlock ∧ some k ≠ vb.ownBlock) (fun k q => ⟨mi k q.1.1, q.2, q.1.2⟩)
    exact Kd.R_set a hk1 (by decide) 1 _
  · exact Kd.R_set (Kd.R_mono (Kd.R_bound hR) (fun k q => ⟨⟨q.1.1, q.2.2.1⟩, q.1.2⟩)) hk1 (by decide) 1 _
  · have a := Kd.R_grown (Kd.R_tight2 (by rfl) h3) hg (fun k q e => (h2.1 k e.symm).2 q.1)
    exact Kd.R_set (Kd.R_mono a (fun k q => mi k q.2)) hk1 (by decide) 1 _
theorem PlanV.put2 (h : PlanV W B g S vr vg vb rest good bad tries) (hR : Kd.R Kd.string 9 w1 B (More S W) v1 bad') (hg : W.grownBy w1 vb.ownBlock) (hat : v1.ownBlock = vb.ownBlock ∨ ∃ b, v1.ownBlock = some b ∧ W.heap.size ≤ b) (hb : Below B W w1) :
    PlanV (w1.setCell ⟨g, 2, none⟩ v1) B g (MoreIn S W w1) vr vg v1 rest good bad' tries ∧ Told W (w1.setCell ⟨g, 2, none⟩ v1) B S (MoreIn S W w1) := by
  have hh := h
  obtain ⟨hk, hS, hgS, h1, h2, h3⟩ := h
  have hsz := hg.size
  have hB : B ≤ W.heap.size := Nat.le_of_lt (Nat.lt_of_le_of_lt hh.gB.1 hh.gB.2)
  have hne : some g ≠ vb.ownBlock := Kd.R_ne h3 hk (by decide)
  have hk1 := blk_grown hk hg hne
  have mi : ∀ k, S k → MoreIn S W w1 k := fun k hk => moreIn_of hsz hS hk
  refine ⟨⟨by simpa using blk_set hk1 2 v1, fun k h => by rw [World.size_setCell]; exact moreIn_le hsz hS hB k h, mi g hgS, ?_, ?_, ?_⟩, hh.toldPut 2 hg (fun k e => h3.1 k e) hb⟩
  · have a := Kd.R_mono (Kd.R_after (ok := fun k => S k ∧ some k ≠ vg.ownBlock) (Kd.R_mono h1 (fun k q => ⟨⟨q.1, q.2.1⟩, q.2.2⟩)) hg hat) (ok' := fun k => MoreIn S W w1 k ∧ some k ≠ vg.ownBlock ∧ some k ≠ v1.ownBlock) (fun k q => ⟨mi k q.1.1, q.1.2, q.2⟩)
    exact Kd.R_set a hk1 (by decide) 2 _
  · exact Kd.R_set (Kd.R_mono (Kd.R_after h2 hg hat) (fun k q => ⟨mi k q.1, q.2⟩)) hk1 (by decide) 2 _
  · exact Kd.R_set (Kd.R_mono (Kd.R_bound hR) (fun k q => ⟨q.1, q.2.2.1⟩)) hk1 (by decide) 2 _
theorem PlanV.put0 (h : PlanV W B g S vr vg vb rest good bad tries) (hR : Kd.R (Kd.slice 9 Kd.string) 22 w1 B (fun k => More S W k ∧ some k ≠ vg.ownBlock ∧ some k ≠ vb.ownBlock) v1 rest') (hg : W.grownBy w1 vr.ownBlock) (hb : Below B W w1) :
    PlanV (w1.setCell ⟨g, 0, none⟩ v1) B g (MoreIn S W w1) v1 vg vb rest' good bad tries ∧ Told W (w1.setCell ⟨g, 0, none⟩ v1) B S (MoreIn S W w1) := by
  have hh := h
  obtain ⟨hk, hS, hgS, h1, h2, h3⟩ := h
  have hsz := hg.size
  have hB : B ≤ W.heap.size := Nat.le_of_lt (Nat.lt_of_le_of_lt hh.gB.1 hh.gB.2)
  have hne : some g ≠ vr.ownBlock := Kd.R_ne h1 hk (by decide)
  have hk1 := blk_grown hk hg hne
  have mi : ∀ k, S k → MoreIn S W w1 k := fun k hk => moreIn_of hsz hS hk
  refine ⟨⟨by simpa using blk_set hk1 0 v1, fun k h => by rw [World.size_setCell]; exact moreIn_le hsz hS hB k h, mi g hgS, ?_, ?_, ?_⟩, hh.toldPut 0 hg (fun k e => (h1.1 k e).1) hb⟩
  · exact Kd.R_set (Kd.R_mono (Kd.R_bound hR) (fun k q => ⟨⟨q.1.1, q.2.2.1⟩, q.1.2⟩)) hk1 (by decide) 0 _
  · have a := Kd.R_grown (Kd.R_tight2 (by rfl) h2) hg (fun k q e => (h1.1 k e.symm).2.1 q.1)
    exact Kd.R_set (Kd.R_mono a (fun k q => ⟨mi k q.2.1, q.2.2⟩)) hk1 (by decide) 0 _
  · have a := Kd.R_grown (Kd.R_tight2 (by rfl) h3) hg (fun k q e => (h1.1 k e.symm).2.2 q.1)
    exact Kd.R_set (Kd.R_mono a (fun k q => mi k q.2)) hk1 (by decide) 0 _
end
end Go.Proofs.Ytdfnpjmebnlfbaa.PAll
