
import Derived.Test.YtdfnpjmebnlfbaaQHalvesRunsRefStep
import Derived.Test.YtdfnpjmebnlfbaaQHalvesRunsAlive
namespace Go.Proofs.YtdfnpjmebnlfbaaW.PrintMore
end Go.Proofs.YtdfnpjmebnlfbaaW.PrintMore
set_option linter.unusedVariables false
set_option linter.unusedSimpArgs false
namespace Go.Proofs.Ytdfnpjmebnlfbaa.PAll
open Go Go.Proofs Go.RowKit Go.Proofs.YtdfnpjmebnlfbaaW.PrintWords Go.Proofs.YtdfnpjmebnlfbaaW.PrintLast Go.Proofs.YtdfnpjmebnlfbaaW.PrintMore
structure RefV (W : World) (ok : Nat → Prop) (vr vg vb : Value) (rest : List (List ByteArray)) (good bad : List ByteArray) : Prop where
  rest : Kd.V (Kd.slice 9 Kd.string) 22 W 0 ok vr rest
  good : Kd.V Kd.string 9 W 0 ok vg good
  bad : Kd.V Kd.string 9 W 0 ok vb bad
structure Out5 (w w5 w' : World) (g8 : Nat) (v7 v28 v32 : Value) (t : Int) (good bad : List ByteArray) : Prop where
  blk : w'.heap[g8]? = some (.cells #[v7, v28, v32, .int .i64 t] 31 (0, 0))
  ge : w5.heap.size ≤ g8
  kt : KT w5 w'
  below : Below w.heap.size w w'
  good : Kd.R Kd.string 9 w' w.heap.size (fun k => some k = v28.ownBlock) v28 good
  bad : Kd.R Kd.string 9 w' w.heap.size (fun k => some k = v32.ownBlock) v32 bad
  ne : ∀ k, v28.ownBlock = some k → v32.ownBlock ≠ some k
theorem cells31 {W : World} {g : Nat} {a b c d : Value} (h : W.heap[g]? = some (.cells #[a, b, c, d] 31 (0, 0))) : W.cell? ⟨g, 0, none⟩ = some a ∧ W.cell? ⟨g, 1, none⟩ = some b ∧ W.cell? ⟨g, 2, none⟩ = some c ∧ W.cell? ⟨g, 3, none⟩ = some d :=
  ⟨(blk_cell h 0).trans rfl, (blk_cell h 1).trans rfl, (blk_cell h 2).trans rfl, (blk_cell h 3).trans rfl⟩
theorem keepS {W W' : World} {g : Nat} {a b c d : Value} (hp : W.heap[g]? = some (.cells #[a, b, c, d] 31 (0, 0))) (h : KT W W') : KT W W' ∧ W'.cell? ⟨g, 1, none⟩ = some b ∧ W'.cell? ⟨g, 2, none⟩ = some c ∧ W'.cell? ⟨g, 3, none⟩ = some d :=
  ⟨h, (cells31 (h.2 _ _ _ (by decide) hp)).2⟩
theorem F_to {α : Type} {d : Kd α} {w W : World} {ok : Nat → Prop} {A : Option Addr} {n : Nat} {xs : List α} (h : Kd.F d w ok A n xs) (hb : Below w.heap.size w W) : d.C W A n xs := Kd.F_now (Kd.F_below h hb)
theorem out5_mk {w w4 W : World} {g8 : Nat} {v7 v28 v32 z0 z1 z2 z3 : Value} {t : Int} {good bad : List ByteArray} (hb8 : W.heap[g8]? = some (.cells #[z0, z1, z2, z3] 31 (0, 0))) (ge : w4.heap.size ≤ g8) (hle : w.heap.size ≤ w4.heap.size) (kt : KT w4 W) (below : Below w.heap.size w W)
    (hg : Kd.R Kd.string 9 W w.heap.size (fun k => some k = v28.ownBlock) v28 good) (hb : Kd.R Kd.string 9 W w.heap.size (fun k => some k = v32.ownBlock) v32 bad) (ne : ∀ k, v28.ownBlock = some k → v32.ownBlock ≠ some k) :
    Out5 w w4 ((((W.setCell ⟨g8, 0, none⟩ v7).setCell ⟨g8, 1, none⟩ v28).setCell ⟨g8, 2, none⟩ v32).setCell ⟨g8, 3, none⟩ (.int .i64 t)) g8 v7 v28 v32 t good bad := by
  have b1 := blk_put hb8 0 v7 rfl
  have b2 := blk_put b1 1 v28 rfl
  have b3 := blk_put b2 2 v32 rfl
  have b4 := blk_put b3 3 (.int .i64 t) rfl
  refine ⟨b4, ge, ⟨by simp only [World.size_setCell]; exact kt.1, fun k cs ty ht hk => ?_⟩, ?_, Kd.R_set (Kd.R_set (Kd.R_set (Kd.R_set hg hb8 (by decide) 0 _) b1 (by decide) 1 _) b2 (by decide) 2 _) b3 (by decide) 3 _, Kd.R_set (Kd.R_set (Kd.R_set (Kd.R_set hb hb8 (by decide) 0 _) b1 (by decide) 1 _) b2 (by decide) 2 _) b3 (by decide) 3 _, ne⟩
  · have hne : k ≠ g8 := fun e => by have := blk_lt hk; omega
    exact blk_far (blk_far (blk_far (blk_far (kt.2 k cs ty ht hk) hne _) hne _) hne _) hne _
  · have hge := Nat.le_trans hle ge
    exact below_set (below_set (below_set (below_set below hge) hge) hge) hge
theorem out5_new {w w4 W : World} {v7 v28 v32 : Value} {t : Int} {good bad : List ByteArray} (hle : w.heap.size ≤ w4.heap.size) (kt : KT w4 W) (below : Below w.heap.size w W)
    (hg : Kd.R Kd.string 9 W w.heap.size (fun k => some k = v28.ownBlock) v28 good) (hb : Kd.R Kd.string 9 W w.heap.size (fun k => some k = v32.ownBlock) v32 bad) (ne : ∀ k, v28.ownBlock = some k → v32.ownBlock ≠ some k) :
    Out5 w w4 (W.alloc (.cells #[v7, v28, v32, .int .i64 t] 31 (0, 0))) W.heap.size v7 v28 v32 t good bad :=
  ⟨blk_new W _, kt.1, kt.alloc _, below_alloc below _, Kd.R_alloc hg _, Kd.R_alloc hb _, ne⟩
theorem V_own {w W : World} {gr : Nat} {a : Array Value} {v : Value} {xs : List ByteArray} (ok : Nat → Prop) (h : Kd.R Kd.string 9 W w.heap.size (fun k => some k = v.ownBlock) v xs) (hr : W.heap[gr]? = some (.cells a 31 (0, 0))) : Kd.V Kd.string 9 W 0 (fun k => (ok k ∨ w.heap.size ≤ k) ∧ k ≠ gr) v xs :=
  Kd.R_V (Kd.R_mono h (fun k hk => ⟨.inr (Kd.R_base h k hk.symm), fun e => Kd.R_ne h hr (by decide) (by rw [← e]; exact hk)⟩))
theorem V_rows {w W : World} {gr : Nat} {a : Array Value} {v : Value} {xs : List (List ByteArray)} (ok : Nat → Prop) (h : NT (Kd.slice 9 Kd.string) 22 W w.heap.size (fun k => ok k ∧ k < w.heap.size) v xs) (hr : W.heap[gr]? = some (.cells a 31 (0, 0))) (hge : w.heap.size ≤ gr) : Kd.V (Kd.slice 9 Kd.string) 22 W 0 (fun k => (ok k ∨ w.heap.size ≤ k) ∧ k ≠ gr) v xs :=
  Kd.V_mono (h.V (fun k hk e => by have := h.base_ k e.symm; have := hk.2; omega)) (fun k hk => hk.elim (fun h1 => ⟨.inl h1.1, by have := h1.2; omega⟩) (fun h1 => ⟨.inr (h.base_ k h1.symm), fun e => h.ne hr (by decide) (by rw [← e]; exact h1)⟩))
theorem rtell_end {w W : World} {gr : Nat} {v0 v1 v2 z0 z1 z2 z3 : Value} {t : Int} {ok : Nat → Prop} {rest : List (List ByteArray)} {good bad : List ByteArray} (hr : W.heap[gr]? = some (.cells #[z0, z1, z2, z3] 31 (0, 0))) (hge : w.heap.size ≤ gr) (below : Below w.heap.size w W)
    (h : RefV W (fun k => (ok k ∨ w.heap.size ≤ k) ∧ k ≠ gr) v0 v1 v2 rest good bad) :
    ((((W.setCell ⟨gr, 0, none⟩ v0).setCell ⟨gr, 1, none⟩ v1).setCell ⟨gr, 2, none⟩ v2).setCell ⟨gr, 3, none⟩ (.int .i64 t)).heap[gr]? = some (.cells #[v0, v1, v2, .int .i64 t] 31 (0, 0)) ∧
    Below w.heap.size w ((((W.setCell ⟨gr, 0, none⟩ v0).setCell ⟨gr, 1, none⟩ v1).setCell ⟨gr, 2, none⟩ v2).setCell ⟨gr, 3, none⟩ (.int .i64 t)) ∧
    RefV ((((W.setCell ⟨gr, 0, none⟩ v0).setCell ⟨gr, 1, none⟩ v1).setCell ⟨gr, 2, none⟩ v2).setCell ⟨gr, 3, none⟩ (.int .i64 t)) (fun k => ok k ∨ w.heap.size ≤ k) v0 v1 v2 rest good bad := by
  have far : ∀ {α : Type} {d : Kd α} {e : Nat} {v : Value} {xs : List α}, Kd.V d e W 0 (fun k => (ok k ∨ w.heap.size ≤ k) ∧ k ≠ gr) v xs → Kd.V d e ((((W.setCell ⟨gr, 0, none⟩ v0).setCell ⟨gr, 1, none⟩ v1).setCell ⟨gr, 2, none⟩ v2).setCell ⟨gr, 3, none⟩ (.int .i64 t)) 0 (fun k => ok k ∨ w.heap.size ≤ k) v xs := fun hv =>
    Kd.V_mono (Kd.V_far (p := ⟨gr, 3, none⟩) (Kd.V_far (p := ⟨gr, 2, none⟩) (Kd.V_far (p := ⟨gr, 1, none⟩) (Kd.V_far (p := ⟨gr, 0, none⟩) hv (fun _ hk => hk.2) _) (fun _ hk => hk.2) _) (fun _ hk => hk.2) _) (fun _ hk => hk.2) _) (fun _ hk => hk.1)
  exact ⟨blk_put (blk_put (blk_put (blk_put hr 0 v0 rfl) 1 v1 rfl) 2 v2 rfl) 3 (.int .i64 t) rfl, below_set (below_set (below_set (below_set below hge) hge) hge) hge, far h.rest, far h.good, far h.bad⟩
set_option maxHeartbeats 16000000 in
set_option maxRecDepth 100000 in
theorem rtell_calls (ok : Nat → Prop) (vr vg vb : Value) (l : List ByteArray) (q : List (List ByteArray)) (good bad : List ByteArray) (tries : Int) (b : Bool) (w : World) (hP : RefV w ok vr vg vb (l :: q) good bad)
    (hlim : l.length ≤ 1000000 ∧ q.length ≤ 1000000 ∧ good.length ≤ 1000000 ∧ bad.length ≤ 1000000) :
    Calls Try.prog 16 #[.agg #[vr, vg, vb, .int .i64 tries], .bool b] w fun e w' => ∃ vr' vg' vb' : Value, e = .returned (.tuple #[.agg #[vr', vg', vb', .int .i64 (wrap64 (tries + 1))], .int .i64 0]) ∧ Below w.heap.size w w' ∧
      RefV w' (fun k => ok k ∨ w.heap.size ≤ k) vr' vg' vb' (if b = true then q else if l.length = 1 then q else l.take ((l.length + 1) / 2) :: l.drop ((l.length + 1) / 2) :: q) (if b = true then good ++ l else good) (if b = true then bad else if l.length = 1 then bad ++ l else bad) := by
  have hu31 := Try.underlying31
  obtain ⟨hR, hG, hB⟩ := hP
  obtain ⟨Ar, cr, hvr, hcr, hFr⟩ := hR
  subst hvr
  obtain ⟨Ag, cg, hvg, hcg, hFg⟩ := hG
  subst hvg
  obtain ⟨Ab, cb, hvb, hcb, hFb⟩ := hB
  subst hvb
  obtain ⟨ad, cs, hA, hcs, hK, hcell, _⟩ := Kd.F_get hFr ([] : List ByteArray) (0 : Int) (by decide) (by simp)
  subst hA
  simp only [Int.toNat_zero, List.getD_cons_zero, Nat.zero_mul, Nat.zero_add] at hK hcell
  obtain ⟨Al, cl, hcl, hlc, hCl⟩ := Kd.FK_now hK
  subst hcl
  have hFl : Kd.F Kd.string w ok Al l.length l := Foot.imp hK (fun W' h => by
    obtain ⟨A', c', he, _, h2⟩ := h
    injection he with he
    injection he with h1
    subst h1
    exact h2)
  have hin := hcell 0 _ rfl
  have hin2 : w.cell? ad = some (.slice Al l.length cl) := by simpa [Addr.add] using hin
  have hn : (l :: q).length = q.length + 1 := rfl
  rw [hn] at hcr hFr
  obtain ⟨i0, hi0, _, hsz, _⟩ := info_parts info22
  have hcut : ∀ W : World, (Instr.slice 29 (.slice (some ad) (q.length + 1) cr) (some (.int .i64 1)) none none).run Try.prog W = .ok (.slice (if cr = 1 then some ad else (some ad).map (·.add 1)) q.length (cr - 1)) W := by
    have h := cut_from (P := Try.prog) 29 22 .i64 Try.underlying29 hi0 1 hsz (some ad) (q.length + 1) cr 1 (by omega) (by omega)
    simpa using h
  obtain ⟨A1, hA1⟩ : ∃ A1, (if cr = 1 then some ad else (some ad).map (·.add 1)) = A1 := ⟨_, rfl⟩
  have HF1 : Aside0 (Kd.F (Kd.slice 9 Kd.string) w ok A1 q.length q) := ⟨Kd.F_imp hFr (fun W' h => by
    have h2 := Kd.C_drop (m := 1) h (by simp) (c := cr) (by simp; omega)
    rw [← hA1]
    simpa [Kd.slice] using h2)⟩
  rw [hA1] at hcut
  clear hcell hA1 hi0 hsz hcs
  obtain ⟨t1, ht1⟩ : ∃ t1, IntKind.i64.wrap (tries + 1) = t1 := ⟨_, rfl⟩
  have ht2 : wrap64 (tries + 1) = t1 := (i64_w _).symm.trans ht1
  have HFg := Aside0.mk hFg
  have HFb := Aside0.mk hFb
  have HFl := Aside0.mk hFl
  have HL := Aside0.mk hlim
  have Hlc := Aside0.mk hlc
  have Hcg := Aside0.mk hcg
  have Hcb := Aside0.mk hcb
  have HB := Aside0.mk (Below.refl w.heap.size w)
  clear hFg hFb hFl hlim hlc hcg hcb hFr hcr hK hCl hin
  have z0 : ((((q.length : Nat) : Int) + 1) == 0) = false := beq_eq_false_iff_ne.mpr (by omega)
  have z0' : (((q.length + 1 : Nat) : Int) == 0) = false := beq_eq_false_iff_ne.mpr (by omega)
  have i0 : (0 : Int) < ((q.length + 1 : Nat) : Int) := by omega
  have i1 : (0 : Int) < (q.length : Int) + 1 := by omega
  go_enter Try.func16, Try.ntmps16
  go_upto_region 5 with (first
    | ((with_reducible refine gate_dst (N := 2) rfl ?_); refine box_event ?hg (N := 2) ?hd (cs := #[.slice (some ad) (q.length + 1) cr, .slice Ag good.length cg, .slice Ab bad.length cb, .int .i64 tries]) (t := 31) ?hr ?_; (case hd => rfl); (case hg => rfl); (case hr => first | (go_simp; done) | (go_simp; rfl)); intro gp hgp w1 hbx hb; have BP := Aside0.mk hbx; have HB1 := Aside0.mk (below_step HB.out hb); have HGP := Aside0.mk (show w.heap.size ≤ gp by rw [hgp]; exact Nat.le_refl _); have hc0 := (cells31 hbx).1; have hin1 := pw_cell_below hb hin2; clear hbx hb hgp)
    | ((with_reducible refine gate_dst (N := 4) rfl ?_); refine box_event ?hg (N := 4) ?hd (cs := #[.slice none 0 0, .slice none 0 0, .slice none 0 0, .int .i64 0]) (t := 31) ?hr ?_; (case hd => rfl); (case hg => rfl); (case hr => first | (go_simp; done) | (go_simp; rfl)); intro gr hgr w2 hbx hb; have BR := Aside0.mk hbx; have BP2 := Aside0.mk (blk_below BP.out hb); have HB2 := Aside0.mk (below_step HB1.out hb); have HGR := Aside0.mk (show w.heap.size ≤ gr by rw [hgr]; exact HB1.out.size); have hc0' := (cells31 BP2.out).1; have hin3 := pw_cell_below hb hin1; clear hbx hb hgr)
    | ((with_reducible refine gate_dst (N := 19) rfl ?_); refine Kd.R_lit (Kd.raw 1) (w0 := w) w.heap.size 22 ?hg (N := 19) ?hd (xs := []) (inner := []) (ok := fun _ => True) (okp := fun _ => False) ?hr (Reps.none _ _) (fun _ hk => hk.elim) trivial HB2.out HB2.out.size (by simp) ?_; (case hd => rfl); (case hg => rfl); (case hr => first | (go_simp; done) | (go_simp; rfl)); intro v3 w3 ho hb hg hat; obtain ⟨A3, c3, ev3⟩ := Kd.R_slice ho; subst ev3; have HN3 := Aside0.mk ho; have HB3 := Aside0.mk hb; have HA3 := Aside0.mk hat; have BP3 := Aside0.mk (blk_grown BP2.out hg (by simp)); have BR3 := Aside0.mk (blk_grown BR.out hg (by simp)); have hc0'' := (cells31 BP3.out).1; clear ho hb hg hat)
    | ((with_reducible refine gate_builtin (b := .append) (xs := #[.tmp 19, .tmp 22]) rfl ?_); at_builtin; refine NT_append_rows (Kd.slice 9 Kd.string) (w0 := w) w.heap.size rfl (.tmp 19) (.tmp 22) 29 22 (.slice none 0 0) 24 rfl Try.underlying29 info22 rfl (by decide) (by omega) (.slice A3 0 c3) q A1 q.length (cr - 1) (fun k => ok k ∧ k < w.heap.size) rfl rfl HN3.out (Kd.F_step (Kd.F_bound HF1.out) (fun k hk _ => HB3.out.block k hk.2)) ?hokp HB3.out HB3.out.size ?hl ?_; (case hokp => intro k hk e; obtain ⟨b', hb', hle⟩ := HA3.out; have e2 := e.trans hb'; injection e2 with e2; have := HB2.out.size; have := hk.2; omega); (case hl => have := HL.out; omega); intro v4 w4 ho hb hg hat; have HB4 := Aside0.mk hb; have BP4 := Aside0.mk (blk_grown BP3.out hg (Kd.R_ne HN3.out BP3.out (by decide))); have BR4 := Aside0.mk (blk_grown BR3.out hg (Kd.R_ne HN3.out BR3.out (by decide))); obtain ⟨A4, c4, ev4⟩ := NT.slice ho; subst ev4; have HN4 := Aside0.mk ho; clear ho hb hg hat))
  clear hcut hc0 hc0' hc0'' hin1 hin2 hin3 z0 z0' i0 i1 BP BP2 BP3 BR BR3 HB1 HB2 HB3 HN3 HA3 HF1 hn HGP
  have HSZ := Aside0.mk HB4.out.size
  go_cut [8] from 10 (fun s8 w' => ∃ (g8 : Nat) (v28 v32 : Value), s8 = .pointer (some ⟨g8, 0, none⟩) ∧ Aside0 (Out5 w w4 w' g8 (.slice A4 q.length c4) v28 v32 t1 good bad))
  case first =>
    go_region_held_law (fun w' => KT w4 w' ∧ w'.cell? ⟨gp, 1, none⟩ = some (.slice Ag good.length cg) ∧ w'.cell? ⟨gp, 2, none⟩ = some (.slice Ab bad.length cb) ∧ w'.cell? ⟨gp, 3, none⟩ = some (.int .i64 tries))
      ((refine keepS BP4.out ?_; with_reducible (first | exact KT.set4 HK32.out (Nat.le_refl _) | exact KT.set4 HK32.out (Nat.le_add_right _ _) | exact KT.set4 HK32.out (Nat.le_add_right_of_le (Nat.le_add_right _ _)) | exact KT.set4 HK32.out (KT.size HK28.out) | exact KT.set4 HK32.out (Nat.le_add_right_of_le (KT.size HK28.out)) | (repeat (first | exact KT.refl _ | exact HK32.out | exact HK28.out | refine KT.drew ?_ | refine KT.alloc ?_ _)))))
      (first
        | (refine app_empty_step (w0 := w) (B := w.heap.size) (ys := good) (A := Ag) (c := cg) 25 27 (by rfl) (by rfl) ?hs (by rfl) ?HR ?HB ?hl ?_; (case hs => refine ⟨_, rfl, ?_, ?_⟩; (with_reducible (repeat (first | exact EmptyAt.new' (by first | rfl | (simp; done) | fail) | refine EmptyAt.alloc ?_ _ | refine EmptyAt.drew ?_))); (have h_ := HB4.out.size; first | exact h_ | (simp; omega))); (case HR => refine F_to HFg.out ?_; (with_reducible (repeat (first | exact HO32.out.below | exact HO28.out.below | exact HB4.out | refine below_alloc ?_ _ | refine below_drew ?_)))); (case HB => (with_reducible (repeat (first | exact HO32.out.below | exact HO28.out.below | exact HB4.out | refine below_alloc ?_ _ | refine below_drew ?_)))); (case hl => have := HL.out; omega); intro v28 w28 g25 hg HO; have hg2 : _ = g25 := sl_inj hg; clear hg; subst hg2; obtain ⟨A28, n28, c28, e28⟩ := slice_open HO.own; subst e28; have HO28 := Aside0.mk HO; have HK28 := Aside0.mk (KT.trans (And.left (by assumption)) HO.kt); (try ((first | have H8 : Aside0 (w28.heap[w4.heap.size]? = some (.cells #[.slice none 0 0, .slice none 0 0, .slice none 0 0, .int .i64 0] 31 (0, 0))) := ⟨HO28.out.kt.2 _ _ 31 (by decide) (by with_reducible (repeat (first | exact blk_new' (by first | rfl | (simp; done) | fail) | refine blk_alloc ?_ _ | refine blk_drew ?_)); first | done | fail)⟩ | have H8 : Aside0 (w28.heap[w4.heap.size + 1]? = some (.cells #[.slice none 0 0, .slice none 0 0, .slice none 0 0, .int .i64 0] 31 (0, 0))) := ⟨HO28.out.kt.2 _ _ 31 (by decide) (by with_reducible (repeat (first | exact blk_new' (by first | rfl | (simp; done) | fail) | refine blk_alloc ?_ _ | refine blk_drew ?_)); first | done | fail)⟩ | have H8 : Aside0 (w28.heap[w4.heap.size + 1 + 1]? = some (.cells #[.slice none 0 0, .slice none 0 0, .slice none 0 0, .int .i64 0] 31 (0, 0))) := ⟨HO28.out.kt.2 _ _ 31 (by decide) (by with_reducible (repeat (first | exact blk_new' (by first | rfl | (simp; done) | fail) | refine blk_alloc ?_ _ | refine blk_drew ?_)); first | done | fail)⟩); obtain ⟨hc80, hc81, hc82, hc83⟩ := cells31 H8.out; have hf80 := blk_frozen H8.out 0; have hf81 := blk_frozen H8.out 1; have hf82 := blk_frozen H8.out 2; have hf83 := blk_frozen H8.out 3)); clear HO)
        | (refine app_empty_step (w0 := w) (B := w.heap.size) (ys := bad) (A := Ab) (c := cb) 29 31 (by rfl) (by rfl) ?hs (by rfl) ?HR ?HB ?hl ?_; (case hs => refine ⟨_, rfl, ?_, ?_⟩; (with_reducible (repeat (first | exact EmptyAt.new' (by first | rfl | (simp; done) | fail) | refine EmptyAt.alloc ?_ _ | refine EmptyAt.drew ?_ | refine HO28.out.ke ?_ (by first | omega | (simp; done) | (simp; omega) | fail)))); (have h_ := HB4.out.size; have h2_ := HO28.out.below.size; first | exact h_ | exact h2_ | (simp; omega))); (case HR => refine F_to HFb.out ?_; (with_reducible (repeat (first | exact HO32.out.below | exact HO28.out.below | exact HB4.out | refine below_alloc ?_ _ | refine below_drew ?_)))); (case HB => (with_reducible (repeat (first | exact HO32.out.below | exact HO28.out.below | exact HB4.out | refine below_alloc ?_ _ | refine below_drew ?_)))); (case hl => have := HL.out; omega); intro v32 w32 g29 hg HO; have hg2 : _ = g29 := sl_inj hg; clear hg; subst hg2; obtain ⟨A32, n32, c32, e32⟩ := slice_open HO.own; subst e32; have HO32 := Aside0.mk HO; have HK32 := Aside0.mk (KT.trans (And.left (by assumption)) HO.kt); have HNE : ∀ k, (Value.slice A28 n28 c28).ownBlock = some k → (Value.slice A32 n32 c32).ownBlock ≠ some k := (by intro k e_ e2_; have h_ := HO28.out.own_in e_; have h2_ := HO32.out.own_in e2_; have h3_ := HK28.out.1; have h4_ := HO28.out.kt.1; simp at h_ h2_ h4_; omega); have HR28 := Aside0.mk (HO.kr (v := .slice A28 n28 c28) (xs := good) (by with_reducible (repeat (first | exact HO28.out.own | refine Kd.R_alloc ?_ _ | refine Kd.R_drew ?_)); first | done | fail) (by intro e_; have h_ := HO28.out.own_in e_; have h4_ := HO28.out.kt.1; have h3_ := HK28.out.1; simp at h_ h4_; omega)); (try ((first | have H8b : Aside0 (w32.heap[w4.heap.size]? = some (.cells #[.slice none 0 0, .slice none 0 0, .slice none 0 0, .int .i64 0] 31 (0, 0))) := ⟨HO32.out.kt.2 _ _ 31 (by decide) (by with_reducible (repeat (first | exact blk_new' (by first | rfl | (simp; done) | fail) | exact H8.out | refine blk_alloc ?_ _ | refine blk_drew ?_)); first | done | fail)⟩ | have H8b : Aside0 (w32.heap[w4.heap.size + 1]? = some (.cells #[.slice none 0 0, .slice none 0 0, .slice none 0 0, .int .i64 0] 31 (0, 0))) := ⟨HO32.out.kt.2 _ _ 31 (by decide) (by with_reducible (repeat (first | exact blk_new' (by first | rfl | (simp; done) | fail) | exact H8.out | refine blk_alloc ?_ _ | refine blk_drew ?_)); first | done | fail)⟩ | have H8b : Aside0 (w32.heap[w4.heap.size + 1 + 1]? = some (.cells #[.slice none 0 0, .slice none 0 0, .slice none 0 0, .int .i64 0] 31 (0, 0))) := ⟨HO32.out.kt.2 _ _ 31 (by decide) (by with_reducible (repeat (first | exact blk_new' (by first | rfl | (simp; done) | fail) | exact H8.out | refine blk_alloc ?_ _ | refine blk_drew ?_)); first | done | fail)⟩ | have H8b : Aside0 (w32.heap[w28.heap.size]? = some (.cells #[.slice none 0 0, .slice none 0 0, .slice none 0 0, .int .i64 0] 31 (0, 0))) := ⟨HO32.out.kt.2 _ _ 31 (by decide) (by with_reducible (repeat (first | exact blk_new' (by first | rfl | (simp; done) | fail) | exact H8.out | refine blk_alloc ?_ _ | refine blk_drew ?_)); first | done | fail)⟩ | have H8b : Aside0 (w32.heap[w28.heap.size + 1]? = some (.cells #[.slice none 0 0, .slice none 0 0, .slice none 0 0, .int .i64 0] 31 (0, 0))) := ⟨HO32.out.kt.2 _ _ 31 (by decide) (by with_reducible (repeat (first | exact blk_new' (by first | rfl | (simp; done) | fail) | exact H8.out | refine blk_alloc ?_ _ | refine blk_drew ?_)); first | done | fail)⟩); obtain ⟨hc80, hc81, hc82, hc83⟩ := cells31 H8b.out; have hf80 := blk_frozen H8b.out 0; have hf81 := blk_frozen H8b.out 1; have hf82 := blk_frozen H8b.out 2; have hf83 := blk_frozen H8b.out 3)); clear HO))
    all_goals go_wp2
    all_goals go_meet
    all_goals first
      | exact ⟨_, _, _, rfl, ⟨out5_new HSZ.out HK32.out HO32.out.below HR28.out HO32.out.own HNE⟩⟩
      | exact ⟨_, _, _, rfl, ⟨out5_mk H8b.out (by have h_ := HK28.out.size; omega) HSZ.out HK32.out HO32.out.below HR28.out HO32.out.own HNE⟩⟩
  case rest =>
    obtain ⟨g8, v28, v32, e8, HO⟩ := hcut
    subst e8
    obtain ⟨A28, c28, e28⟩ := Kd.R_slice HO.out.good
    subst e28
    obtain ⟨A32, c32, e32⟩ := Kd.R_slice HO.out.bad
    subst e32
    have BR5 := Aside0.mk (HO.out.kt.2 _ _ _ (by decide) BR4.out)
    have HN5 := Aside0.mk (HN4.out.step (fun k cells _ hc => HO.out.kt.2 k cells 22 (by decide) hc) (fun k hk _ => (HO.out.below.block k hk.2).trans (HB4.out.block k hk.2).symm))
    obtain ⟨hc80, hc81, hc82, hc83⟩ := cells31 HO.out.blk
    have HCl := Aside0.mk (F_to HFl.out HO.out.below)
    have B8 := Aside0.mk HO.out.blk
    have HNR := Aside0.mk (show gr ≠ g8 from fun e => by have := blk_lt BR4.out; have := HO.out.ge; omega)
    have HGE := Aside0.mk (Nat.le_trans HSZ.out HO.out.ge)
    clear HN4 HB4 BP4 BR4
    cases b with
    | true =>
      go_upto_region 8 with ((with_reducible refine gate_builtin (b := .append) (xs := #[.tmp 39, .tmp 40]) rfl ?_); at_builtin; refine Kd.R_append_rows Kd.string (w0 := w) w.heap.size rfl (.tmp 39) (.tmp 40) 22 9 (.string ⟨#[]⟩) 16 rfl Try.underlying22 info9 rfl (by decide) (by omega) (.slice A28 good.length c28) good l Al l.length cl (fun k => some k = (Value.slice A28 good.length c28).ownBlock ∨ wc.heap.size ≤ k) (fun _ => False) rfl rfl ?aO HCl.out (fun _ _ h => h) (fun _ h => h.elim) (fun _ hk => .inr hk) HO.out.below HO.out.below.size ?aL ?_; (case aO => exact Kd.R_mono HO.out.good (fun _ hk => .inl hk)); (case aL => have := HL.out; omega); intro v6 w6 ho hb hg hat; obtain ⟨A6, n6, c6, e6⟩ := slice_open ho; subst e6; have B86 := Aside0.mk (blk_grown B8.out hg (Kd.R_ne HO.out.good B8.out (by decide))); have BR6 := Aside0.mk (blk_grown BR5.out hg (Kd.R_ne HO.out.good BR5.out (by decide))); have HN6 := Aside0.mk (HN5.out.step (fun k cells _ hc => blk_grown hc hg (Kd.R_ne HO.out.good hc (by decide))) (fun k hk _ => (hb.block k hk.2).trans (HO.out.below.block k hk.2).symm)); have HR6 := Aside0.mk (Kd.R_tight (by rfl) ho); have HV6 := Aside0.mk (Kd.R_grown HO.out.bad hg (fun k hk e => HO.out.ne k e.symm hk.symm)); have HB6 := Aside0.mk hb; have hd81 : w6.cell? ⟨g8, 1, none⟩ = some (.slice A28 good.length c28) := (cells31 B86.out).2.1; have hf81 := blk_frozen B86.out 1; clear ho hb hg hat)
      have B7 := Aside0.mk (blk_put B86.out 1 (.slice A6 n6 c6) rfl)
      have BR7 := Aside0.mk (blk_far BR6.out (show gr ≠ (⟨g8, 1, none⟩ : Addr).block from HNR.out) (.slice A6 n6 c6))
      have HN7 := Aside0.mk (HN6.out.step (W1 := w6.setCell ⟨g8, 1, none⟩ (.slice A6 n6 c6)) (fun k cells _ hc => blk_far hc (show k ≠ (⟨g8, 1, none⟩ : Addr).block from blk_ne hc B86.out (by decide)) _) (fun k hk _ => Below.heap_setCell w6 _ _ k (show k ≠ g8 by have := hk.2; have := HGE.out; omega)))
      have HR7 := Aside0.mk (Kd.R_set HR6.out B86.out (by decide) 1 (.slice A6 n6 c6))
      have HV7 := Aside0.mk (Kd.R_set HV6.out B86.out (by decide) 1 (.slice A6 n6 c6))
      have HB7 := Aside0.mk (below_set (v := .slice A6 n6 c6) (j := 1) HB6.out HGE.out)
      clear hc80 hc81 hc82 hc83 hd81 hf81 B86 BR6 HN6 HR6 HV6 HB6 HO HN5 BR5 HCl B8
      generalize w6.setCell ⟨g8, 1, none⟩ (.slice A6 n6 c6) = w7 at B7 BR7 HN7 HR7 HV7 HB7 ⊢
      obtain ⟨hc80, hc81, hc82, hc83⟩ := cells31 B7.out
      obtain ⟨hr0, hr1, hr2, hr3⟩ := cells31 BR7.out
      have hf0 := blk_frozen BR7.out 0
      have hf1 := blk_frozen BR7.out 1
      have hf2 := blk_frozen BR7.out 2
      have hf3 := blk_frozen BR7.out 3
      go_wp2
      have HE := rtell_end (t := t1) (ok := ok) BR7.out HGR.out HB7.out ⟨V_rows ok HN7.out BR7.out HGR.out, V_own ok HR7.out BR7.out, V_own ok HV7.out BR7.out⟩
      refine bodyPost_ret (results_ct rfl _ _ gr 31 #[.slice A4 q.length c4, .slice A6 n6 c6, .slice A32 bad.length c32, .int .i64 t1] (0, 0) _ rfl HE.1 Try.underlying31 rfl (by kernel_rfl)) rfl ?_
      (try rw [ht2])
      exact ⟨_, _, _, rfl, HE.2.1, HE.2.2⟩
    | false =>
      have mixed : Try.prog.follows Departure.mixedOrders = true := by kernel_rfl
      by_cases hl1 : l.length = 1
      · have h1b : ((l.length : Int) == 1) = true := beq_iff_eq.mpr (by omega)
        obtain ⟨s, hs⟩ : ∃ s, l = [s] := by
          rcases l with _ | ⟨s, _ | ⟨s2, r⟩⟩
          · simp at hl1
          · exact ⟨s, rfl⟩
          · simp at hl1
        subst hs
        obtain ⟨adl, eadl, hcl0⟩ := cell_first (s := s) HCl.out
        subst eadl
        clear hl1 h1b
        go_upto_region 10 with fail
        simp only [List.length_singleton]
        go_cut [8] from 10 (fun s8 w' => s8 = .pointer (some ⟨g8, 0, none⟩) ∧ ∃ (A6 : Option Addr) (n6 c6 : Nat), Aside0 (w'.heap[g8]? = some (.cells #[.slice A4 q.length c4, .slice A28 good.length c28, .slice A6 n6 c6, .int .i64 t1] 31 (0, 0))) ∧ Aside0 (w'.heap[gr]? = some (.cells #[.slice none 0 0, .slice none 0 0, .slice none 0 0, .int .i64 0] 31 (0, 0))) ∧ Aside0 (NT (Kd.slice 9 Kd.string) 22 w' w.heap.size (fun k => ok k ∧ k < w.heap.size) (.slice A4 q.length c4) q) ∧ Aside0 (Kd.R Kd.string 9 w' w.heap.size (fun k => some k = (Value.slice A28 good.length c28).ownBlock) (.slice A28 good.length c28) good) ∧ Aside0 (Kd.R Kd.string 9 w' w.heap.size (fun k => some k = (Value.slice A6 n6 c6).ownBlock) (.slice A6 n6 c6) (bad ++ [s])) ∧ Aside0 (Below w.heap.size w w'))
        case first =>
          have hnw1 := World.new_ne wc _ hc82
          have hnw2 := World.new_ne wc _ hcl0
          have hnc1 : (wc.alloc (.cells #[.string s] 9)).cell? ⟨g8, 2, none⟩ = some (.slice A32 bad.length c32) := (World.cell?_alloc_some _ _ _ (by rw [hc82]; rfl)).trans hc82
          have hnc2 : (wc.alloc (.cells #[.string s] 9)).cell? adl = some (.string s) := (World.cell?_alloc_some _ _ _ (by rw [hcl0]; rfl)).trans hcl0
          go_region_law_o (refine app_row_step (w0 := w) (B := w.heap.size) 48 52 (by rfl) (by rfl) bad [s] A32 (some ⟨wc.heap.size, 0, none⟩) c32 1 1 (by rfl) (by rfl) ?aO ?aR ?aB ?aS ?aL ?_; (case aO => with_reducible (repeat (first | exact HO.out.bad | refine Kd.R_alloc ?_ _ | refine Kd.R_drew ?_))); (case aR => first | exact lit_str1 _ _ | exact Kd.C_drew (lit_str1 _ _)); (case aB => with_reducible (repeat (first | exact HO.out.below | refine below_alloc ?_ _ | refine below_drew ?_))); (case aS => have h_ := HO.out.below.size; simp; omega); (case aL => have := HL.out; omega); intro v6 w6 ho hb hg; obtain ⟨A6, n6, c6, e6⟩ := slice_open ho; subst e6; have B86 : Aside0 (w6.heap[g8]? = some (.cells #[.slice A4 q.length c4, .slice A28 good.length c28, .slice A32 bad.length c32, .int .i64 t1] 31 (0, 0))) := Aside0.mk (blk_grown (g := g8) (by with_reducible (repeat (first | exact B8.out | refine blk_alloc ?_ _ | refine blk_drew ?_))) hg (Kd.R_ne HO.out.bad B8.out (by decide))); have BR6 : Aside0 (w6.heap[gr]? = some (.cells #[.slice none 0 0, .slice none 0 0, .slice none 0 0, .int .i64 0] 31 (0, 0))) := Aside0.mk (blk_grown (g := gr) (by with_reducible (repeat (first | exact BR5.out | refine blk_alloc ?_ _ | refine blk_drew ?_))) hg (Kd.R_ne HO.out.bad BR5.out (by decide))); have HN6 := Aside0.mk (HN5.out.step (W1 := w6) (fun k cells _ hc => blk_grown (by with_reducible (repeat (first | exact hc | refine blk_alloc ?_ _ | refine blk_drew ?_))) hg (Kd.R_ne HO.out.bad hc (by decide))) (fun k hk _ => (hb.block k hk.2).trans (HO.out.below.block k hk.2).symm)); have HR6 := Aside0.mk ho; have HV6 : Aside0 (Kd.R Kd.string 9 w6 w.heap.size (fun k => some k = (Value.slice A28 good.length c28).ownBlock) (.slice A28 good.length c28) good) := Aside0.mk (Kd.R_grown (by with_reducible (repeat (first | exact HO.out.good | refine Kd.R_alloc ?_ _ | refine Kd.R_drew ?_))) hg (fun k hk e => HO.out.ne k hk.symm e.symm)); have HB6 := Aside0.mk hb; have hd82 : w6.cell? ⟨g8, 2, none⟩ = some (.slice A32 bad.length c32) := (cells31 B86.out).2.2.1; have hf82 := blk_frozen B86.out 2; clear ho hb hg)
          all_goals go_wp2
          all_goals go_meet
          all_goals exact ⟨rfl, A6, n6, c6, ⟨blk_put B86.out 2 (.slice A6 n6 c6) rfl⟩, ⟨blk_far BR6.out (show gr ≠ (⟨g8, 2, none⟩ : Addr).block from HNR.out) (.slice A6 n6 c6)⟩, ⟨HN6.out.step (W1 := w6.setCell ⟨g8, 2, none⟩ (.slice A6 n6 c6)) (fun k cells _ hc => blk_far hc (show k ≠ (⟨g8, 2, none⟩ : Addr).block from blk_ne hc B86.out (by decide)) _) (fun k hk _ => Below.heap_setCell w6 _ _ k (show k ≠ g8 by have := hk.2; have := HGE.out; omega))⟩, ⟨Kd.R_set HV6.out B86.out (by decide) 2 (.slice A6 n6 c6)⟩, ⟨Kd.R_set HR6.out B86.out (by decide) 2 (.slice A6 n6 c6)⟩, ⟨below_set (v := .slice A6 n6 c6) (j := 2) HB6.out HGE.out⟩⟩
        case rest =>
          obtain ⟨e8, A6, n6, c6, B7, BR7, HN7, HV7, HR7, HB7⟩ := hcut
          subst e8
          clear hc80 hc81 hc82 hc83 HO HN5 BR5 HCl B8
          obtain ⟨hc80, hc81, hc82, hc83⟩ := cells31 B7.out
          obtain ⟨hr0, hr1, hr2, hr3⟩ := cells31 BR7.out
          have hf0 := blk_frozen BR7.out 0
          have hf1 := blk_frozen BR7.out 1
          have hf2 := blk_frozen BR7.out 2
          have hf3 := blk_frozen BR7.out 3
          go_wp2
          have HE := rtell_end (t := t1) (ok := ok) BR7.out HGR.out HB7.out ⟨V_rows ok HN7.out BR7.out HGR.out, V_own ok HV7.out BR7.out, V_own ok HR7.out BR7.out⟩
          refine bodyPost_ret (results_ct rfl _ _ gr 31 #[.slice A4 q.length c4, .slice A28 good.length c28, .slice A6 n6 c6, .int .i64 t1] (0, 0) _ rfl HE.1 Try.underlying31 rfl (by kernel_rfl)) rfl ?_
          (try rw [ht2])
          exact ⟨_, _, _, rfl, HE.2.1, by simpa using HE.2.2⟩
      · have h1b : ((l.length : Int) == 1) = false := beq_eq_false_iff_ne.mpr (by omega)
        rcases Nat.mod_two_eq_zero_or_one l.length with hp | hp
        · obtain ⟨at_, hat⟩ : ∃ at_, (l.length + 1) / 2 = at_ := ⟨_, rfl⟩
          have hL1 := HL.out.1
          have hq : wrap64 ((l.length : Int) / 2) = ((at_ : Nat) : Int) := by unfold wrap64; omega
          have hm : ((l.length : Int) % 2 == 1) = false := beq_eq_false_iff_ne.mpr (by omega)
          have hle : at_ ≤ l.length := by omega
          obtain ⟨i9, hi9, _, hsz9, _⟩ := info_parts info9
          have hcutA : ∀ W : World, (Instr.slice 22 (.slice Al l.length cl) none (some (.int .i64 (at_ : Int))) none).run Try.prog W = .ok (.slice Al at_ cl) W := by
            have h := cut_to (P := Try.prog) 22 9 .i64 Try.underlying22 hi9 Al l.length cl (at_ : Int) (by omega) (by omega) Hlc.out
            simpa using h
          have hcutB : ∀ W : World, (Instr.slice 22 (.slice Al l.length cl) (some (.int .i64 (at_ : Int))) none none).run Try.prog W = .ok (.slice (if cl = at_ then Al else Al.map (·.add at_)) (l.length - at_) (cl - at_)) W := by
            have h := cut_from (P := Try.prog) 22 9 .i64 Try.underlying22 hi9 1 hsz9 Al l.length cl (at_ : Int) (by omega) (by omega)
            simpa using h
          obtain ⟨A9, hA9⟩ : ∃ A9, (if cl = at_ then Al else Al.map (·.add at_)) = A9 := ⟨_, rfl⟩
          rw [hA9] at hcutB
          have hF1 : Kd.FK (Kd.slice 9 Kd.string) wc (fun k => ok k ∧ k < w.heap.size) (l.take at_) [.slice Al at_ cl] := Foot.imp (Kd.F_step (W1 := wc) (Kd.F_bound HFl.out) (fun k hk _ => HO.out.below.block k hk.2)) (fun W' h => ⟨Al, cl, by rw [List.length_take, Nat.min_eq_left hle], by rw [List.length_take]; have := Hlc.out; omega, Kd.C_take h hle⟩)
          have hF2 : Kd.FK (Kd.slice 9 Kd.string) wc (fun k => ok k ∧ k < w.heap.size) (l.drop at_) [.slice A9 (l.length - at_) (cl - at_)] := Foot.imp (Kd.F_step (W1 := wc) (Kd.F_bound HFl.out) (fun k hk _ => HO.out.below.block k hk.2)) (fun W' h => ⟨A9, cl - at_, by rw [List.length_drop], by rw [List.length_drop]; have := Hlc.out; omega, by
            have h2 := Kd.C_drop (m := at_) h hle Hlc.out
            rw [show Kd.string.sz = 1 from rfl, Nat.mul_one, List.length_drop] at h2
            rw [← hA9, List.length_drop]
            exact h2⟩)
          have HLIT := Aside0.mk (NT.lit2 (d := Kd.slice 9 Kd.string) rfl w.heap.size HO.out.below.size hF1 hF2)
          have HN8 := Aside0.mk (show some g8 ≠ (Value.slice (some ⟨wc.heap.size, 0, none⟩) 2 2).ownBlock from fun e => by have := blk_lt B8.out; simp [Value.ownBlock] at e; omega)
          have HNr := Aside0.mk (show some gr ≠ (Value.slice (some ⟨wc.heap.size, 0, none⟩) 2 2).ownBlock from fun e => by have := blk_lt BR5.out; simp [Value.ownBlock] at e; omega)
          have HAT := Aside0.mk hat
          clear hF1 hF2 hi9 hsz9 hA9 hle hL1 hat
          go_upto_region 15 with fail
          go_cut [8] from 9 (fun s8 w' => s8 = .pointer (some ⟨g8, 0, none⟩) ∧ ∃ (A6 : Option Addr) (c6 : Nat), Aside0 (w'.heap[g8]? = some (.cells #[.slice A6 (q.length + 2) c6, .slice A28 good.length c28, .slice A32 bad.length c32, .int .i64 t1] 31 (0, 0))) ∧ Aside0 (w'.heap[gr]? = some (.cells #[.slice none 0 0, .slice none 0 0, .slice none 0 0, .int .i64 0] 31 (0, 0))) ∧ Aside0 (NT (Kd.slice 9 Kd.string) 22 w' w.heap.size (fun k => ok k ∧ k < w.heap.size) (.slice A6 (q.length + 2) c6) (l.take at_ :: l.drop at_ :: q)) ∧ Aside0 (Kd.R Kd.string 9 w' w.heap.size (fun k => some k = (Value.slice A28 good.length c28).ownBlock) (.slice A28 good.length c28) good) ∧ Aside0 (Kd.R Kd.string 9 w' w.heap.size (fun k => some k = (Value.slice A32 bad.length c32).ownBlock) (.slice A32 bad.length c32) bad) ∧ Aside0 (Below w.heap.size w w'))
          case first =>
            go_region_law_o (refine NT_append_NT_step (Kd.slice 9 Kd.string) (w0 := w) w.heap.size (by rfl) (.tmp 71) (.tmp 72) 29 22 (.slice none 0 0) 24 (by rfl) Try.underlying29 info22 rfl (by decide) (by omega) (.slice (some ⟨wc.heap.size, 0, none⟩) 2 2) [l.take at_, l.drop at_] q A4 q.length c4 (fun k => ok k ∧ k < w.heap.size) (by rfl) (by rfl) ?aO ?aU ?aE ?aB ?aS ?aL ?_; (case aO => first | exact NT.drew HLIT.out | exact HLIT.out); (case aU => with_reducible (repeat (first | exact HN5.out | refine NT.alloc ?_ _ | refine NT.drew ?_))); (case aE => intro k hk e; have h_ := HO.out.below.size; have h2_ := hk.2; simp [Value.ownBlock] at e; omega); (case aB => with_reducible (repeat (first | exact HO.out.below | refine below_alloc ?_ _ | refine below_drew ?_))); (case aS => have h_ := HO.out.below.size; simp; omega); (case aL => have := HL.out; simp only [List.length_cons, List.length_nil]; omega); intro v6 w6 ho hb hg hat; obtain ⟨A6, c6, e6⟩ := NT.slice ho; subst e6; have B86 : Aside0 (w6.heap[g8]? = some (.cells #[.slice A4 q.length c4, .slice A28 good.length c28, .slice A32 bad.length c32, .int .i64 t1] 31 (0, 0))) := Aside0.mk (blk_grown (g := g8) (by with_reducible (repeat (first | exact B8.out | refine blk_alloc ?_ _ | refine blk_drew ?_))) hg HN8.out); have BR6 : Aside0 (w6.heap[gr]? = some (.cells #[.slice none 0 0, .slice none 0 0, .slice none 0 0, .int .i64 0] 31 (0, 0))) := Aside0.mk (blk_grown (g := gr) (by with_reducible (repeat (first | exact BR5.out | refine blk_alloc ?_ _ | refine blk_drew ?_))) hg HNr.out); have HN6 := Aside0.mk ho; have HR6 : Aside0 (Kd.R Kd.string 9 w6 w.heap.size (fun k => some k = (Value.slice A28 good.length c28).ownBlock) (.slice A28 good.length c28) good) := Aside0.mk (Kd.R_grown (by with_reducible (repeat (first | exact HO.out.good | refine Kd.R_alloc ?_ _ | refine Kd.R_drew ?_))) hg (fun k hk e => by have h_ := Kd.R_lt HO.out.good k hk.symm; simp [Value.ownBlock] at e; omega)); have HV6 : Aside0 (Kd.R Kd.string 9 w6 w.heap.size (fun k => some k = (Value.slice A32 bad.length c32).ownBlock) (.slice A32 bad.length c32) bad) := Aside0.mk (Kd.R_grown (by with_reducible (repeat (first | exact HO.out.bad | refine Kd.R_alloc ?_ _ | refine Kd.R_drew ?_))) hg (fun k hk e => by have h_ := Kd.R_lt HO.out.bad k hk.symm; simp [Value.ownBlock] at e; omega)); have HB6 := Aside0.mk hb; have hd80 : w6.cell? ⟨g8, 0, none⟩ = some (.slice A4 q.length c4) := (cells31 B86.out).1; have hf80 := blk_frozen B86.out 0; clear ho hb hg hat)
            all_goals go_wp2
            all_goals go_meet
            all_goals exact ⟨rfl, A6, c6, ⟨blk_put B86.out 0 (.slice A6 (q.length + 2) c6) rfl⟩, ⟨blk_far BR6.out (show gr ≠ (⟨g8, 0, none⟩ : Addr).block from HNR.out) (.slice A6 (q.length + 2) c6)⟩, ⟨HN6.out.step (W1 := w6.setCell ⟨g8, 0, none⟩ (.slice A6 (q.length + 2) c6)) (fun k cells _ hc => blk_far hc (show k ≠ (⟨g8, 0, none⟩ : Addr).block from blk_ne hc B86.out (by decide)) _) (fun k hk _ => Below.heap_setCell w6 _ _ k (show k ≠ g8 by have := hk.2; have := HGE.out; omega))⟩, ⟨Kd.R_set HR6.out B86.out (by decide) 0 (.slice A6 (q.length + 2) c6)⟩, ⟨Kd.R_set HV6.out B86.out (by decide) 0 (.slice A6 (q.length + 2) c6)⟩, ⟨below_set (v := .slice A6 (q.length + 2) c6) (j := 0) HB6.out HGE.out⟩⟩
          case rest =>
            obtain ⟨e8, A6, c6, B7, BR7, HN7, HV7, HR7, HB7⟩ := hcut
            subst e8
            clear hc80 hc81 hc82 hc83 HO HN5 BR5 HCl B8 HLIT HN8 HNr
            obtain ⟨hc80, hc81, hc82, hc83⟩ := cells31 B7.out
            obtain ⟨hr0, hr1, hr2, hr3⟩ := cells31 BR7.out
            have hf0 := blk_frozen BR7.out 0
            have hf1 := blk_frozen BR7.out 1
            have hf2 := blk_frozen BR7.out 2
            have hf3 := blk_frozen BR7.out 3
            go_wp2
            have HE := rtell_end (t := t1) (ok := ok) BR7.out HGR.out HB7.out ⟨V_rows ok HN7.out BR7.out HGR.out, V_own ok HV7.out BR7.out, V_own ok HR7.out BR7.out⟩
            refine bodyPost_ret (results_ct rfl _ _ gr 31 #[.slice A6 (q.length + 2) c6, .slice A28 good.length c28, .slice A32 bad.length c32, .int .i64 t1] (0, 0) _ rfl HE.1 Try.underlying31 rfl (by kernel_rfl)) rfl ?_
            (try rw [ht2])
            have hl2 : ¬ l.length = 1 := fun e => by rw [e] at h1b; exact absurd h1b (by decide)
            exact ⟨_, _, _, rfl, HE.2.1, by simpa [hl2, HAT.out] using HE.2.2⟩
        · obtain ⟨at_, hat⟩ : ∃ at_, (l.length + 1) / 2 = at_ := ⟨_, rfl⟩
          have hL1 := HL.out.1
          have hq0 : wrap64 ((l.length : Int) / 2) = (l.length : Int) / 2 := by unfold wrap64; omega
          have hq : wrap64 ((l.length : Int) / 2 + 1) = ((at_ : Nat) : Int) := by unfold wrap64; omega
          have hm : ((l.length : Int) % 2 == 1) = true := beq_iff_eq.mpr (by omega)
          have hle : at_ ≤ l.length := by omega
          obtain ⟨i9, hi9, _, hsz9, _⟩ := info_parts info9
          have hcutA : ∀ W : World, (Instr.slice 22 (.slice Al l.length cl) none (some (.int .i64 (at_ : Int))) none).run Try.prog W = .ok (.slice Al at_ cl) W := by
            have h := cut_to (P := Try.prog) 22 9 .i64 Try.underlying22 hi9 Al l.length cl (at_ : Int) (by omega) (by omega) Hlc.out
            simpa using h
          have hcutB : ∀ W : World, (Instr.slice 22 (.slice Al l.length cl) (some (.int .i64 (at_ : Int))) none none).run Try.prog W = .ok (.slice (if cl = at_ then Al else Al.map (·.add at_)) (l.length - at_) (cl - at_)) W := by
            have h := cut_from (P := Try.prog) 22 9 .i64 Try.underlying22 hi9 1 hsz9 Al l.length cl (at_ : Int) (by omega) (by omega)
            simpa using h
          obtain ⟨A9, hA9⟩ : ∃ A9, (if cl = at_ then Al else Al.map (·.add at_)) = A9 := ⟨_, rfl⟩
          rw [hA9] at hcutB
          have hF1 : Kd.FK (Kd.slice 9 Kd.string) wc (fun k => ok k ∧ k < w.heap.size) (l.take at_) [.slice Al at_ cl] := Foot.imp (Kd.F_step (W1 := wc) (Kd.F_bound HFl.out) (fun k hk _ => HO.out.below.block k hk.2)) (fun W' h => ⟨Al, cl, by rw [List.length_take, Nat.min_eq_left hle], by rw [List.length_take]; have := Hlc.out; omega, Kd.C_take h hle⟩)
          have hF2 : Kd.FK (Kd.slice 9 Kd.string) wc (fun k => ok k ∧ k < w.heap.size) (l.drop at_) [.slice A9 (l.length - at_) (cl - at_)] := Foot.imp (Kd.F_step (W1 := wc) (Kd.F_bound HFl.out) (fun k hk _ => HO.out.below.block k hk.2)) (fun W' h => ⟨A9, cl - at_, by rw [List.length_drop], by rw [List.length_drop]; have := Hlc.out; omega, by
            have h2 := Kd.C_drop (m := at_) h hle Hlc.out
            rw [show Kd.string.sz = 1 from rfl, Nat.mul_one, List.length_drop] at h2
            rw [← hA9, List.length_drop]
            exact h2⟩)
          have HLIT := Aside0.mk (NT.lit2 (d := Kd.slice 9 Kd.string) rfl w.heap.size HO.out.below.size hF1 hF2)
          have HN8 := Aside0.mk (show some g8 ≠ (Value.slice (some ⟨wc.heap.size, 0, none⟩) 2 2).ownBlock from fun e => by have := blk_lt B8.out; simp [Value.ownBlock] at e; omega)
          have HNr := Aside0.mk (show some gr ≠ (Value.slice (some ⟨wc.heap.size, 0, none⟩) 2 2).ownBlock from fun e => by have := blk_lt BR5.out; simp [Value.ownBlock] at e; omega)
          have HAT := Aside0.mk hat
          clear hF1 hF2 hi9 hsz9 hA9 hle hL1 hat
          go_upto_region 15 with fail
          go_cut [8] from 9 (fun s8 w' => s8 = .pointer (some ⟨g8, 0, none⟩) ∧ ∃ (A6 : Option Addr) (c6 : Nat), Aside0 (w'.heap[g8]? = some (.cells #[.slice A6 (q.length + 2) c6, .slice A28 good.length c28, .slice A32 bad.length c32, .int .i64 t1] 31 (0, 0))) ∧ Aside0 (w'.heap[gr]? = some (.cells #[.slice none 0 0, .slice none 0 0, .slice none 0 0, .int .i64 0] 31 (0, 0))) ∧ Aside0 (NT (Kd.slice 9 Kd.string) 22 w' w.heap.size (fun k => ok k ∧ k < w.heap.size) (.slice A6 (q.length + 2) c6) (l.take at_ :: l.drop at_ :: q)) ∧ Aside0 (Kd.R Kd.string 9 w' w.heap.size (fun k => some k = (Value.slice A28 good.length c28).ownBlock) (.slice A28 good.length c28) good) ∧ Aside0 (Kd.R Kd.string 9 w' w.heap.size (fun k => some k = (Value.slice A32 bad.length c32).ownBlock) (.slice A32 bad.length c32) bad) ∧ Aside0 (Below w.heap.size w w'))
          case first =>
            go_region_law_o (refine NT_append_NT_step (Kd.slice 9 Kd.string) (w0 := w) w.heap.size (by rfl) (.tmp 71) (.tmp 72) 29 22 (.slice none 0 0) 24 (by rfl) Try.underlying29 info22 rfl (by decide) (by omega) (.slice (some ⟨wc.heap.size, 0, none⟩) 2 2) [l.take at_, l.drop at_] q A4 q.length c4 (fun k => ok k ∧ k < w.heap.size) (by rfl) (by rfl) ?aO ?aU ?aE ?aB ?aS ?aL ?_; (case aO => first | exact NT.drew HLIT.out | exact HLIT.out); (case aU => with_reducible (repeat (first | exact HN5.out | refine NT.alloc ?_ _ | refine NT.drew ?_))); (case aE => intro k hk e; have h_ := HO.out.below.size; have h2_ := hk.2; simp [Value.ownBlock] at e; omega); (case aB => with_reducible (repeat (first | exact HO.out.below | refine below_alloc ?_ _ | refine below_drew ?_))); (case aS => have h_ := HO.out.below.size; simp; omega); (case aL => have := HL.out; simp only [List.length_cons, List.length_nil]; omega); intro v6 w6 ho hb hg hat; obtain ⟨A6, c6, e6⟩ := NT.slice ho; subst e6; have B86 : Aside0 (w6.heap[g8]? = some (.cells #[.slice A4 q.length c4, .slice A28 good.length c28, .slice A32 bad.length c32, .int .i64 t1] 31 (0, 0))) := Aside0.mk (blk_grown (g := g8) (by with_reducible (repeat (first | exact B8.out | refine blk_alloc ?_ _ | refine blk_drew ?_))) hg HN8.out); have BR6 : Aside0 (w6.heap[gr]? = some (.cells #[.slice none 0 0, .slice none 0 0, .slice none 0 0, .int .i64 0] 31 (0, 0))) := Aside0.mk (blk_grown (g := gr) (by with_reducible (repeat (first | exact BR5.out | refine blk_alloc ?_ _ | refine blk_drew ?_))) hg HNr.out); have HN6 := Aside0.mk ho; have HR6 : Aside0 (Kd.R Kd.string 9 w6 w.heap.size (fun k => some k = (Value.slice A28 good.length c28).ownBlock) (.slice A28 good.length c28) good) := Aside0.mk (Kd.R_grown (by with_reducible (repeat (first | exact HO.out.good | refine Kd.R_alloc ?_ _ | refine Kd.R_drew ?_))) hg (fun k hk e => by have h_ := Kd.R_lt HO.out.good k hk.symm; simp [Value.ownBlock] at e; omega)); have HV6 : Aside0 (Kd.R Kd.string 9 w6 w.heap.size (fun k => some k = (Value.slice A32 bad.length c32).ownBlock) (.slice A32 bad.length c32) bad) := Aside0.mk (Kd.R_grown (by with_reducible (repeat (first | exact HO.out.bad | refine Kd.R_alloc ?_ _ | refine Kd.R_drew ?_))) hg (fun k hk e => by have h_ := Kd.R_lt HO.out.bad k hk.symm; simp [Value.ownBlock] at e; omega)); have HB6 := Aside0.mk hb; have hd80 : w6.cell? ⟨g8, 0, none⟩ = some (.slice A4 q.length c4) := (cells31 B86.out).1; have hf80 := blk_frozen B86.out 0; clear ho hb hg hat)
            all_goals go_wp2
            all_goals go_meet
            all_goals exact ⟨rfl, A6, c6, ⟨blk_put B86.out 0 (.slice A6 (q.length + 2) c6) rfl⟩, ⟨blk_far BR6.out (show gr ≠ (⟨g8, 0, none⟩ : Addr).block from HNR.out) (.slice A6 (q.length + 2) c6)⟩, ⟨HN6.out.step (W1 := w6.setCell ⟨g8, 0, none⟩ (.slice A6 (q.length + 2) c6)) (fun k cells _ hc => blk_far hc (show k ≠ (⟨g8, 0, none⟩ : Addr).block from blk_ne hc B86.out (by decide)) _) (fun k hk _ => Below.heap_setCell w6 _ _ k (show k ≠ g8 by have := hk.2; have := HGE.out; omega))⟩, ⟨Kd.R_set HR6.out B86.out (by decide) 0 (.slice A6 (q.length + 2) c6)⟩, ⟨Kd.R_set HV6.out B86.out (by decide) 0 (.slice A6 (q.length + 2) c6)⟩, ⟨below_set (v := .slice A6 (q.length + 2) c6) (j := 0) HB6.out HGE.out⟩⟩
          case rest =>
            obtain ⟨e8, A6, c6, B7, BR7, HN7, HV7, HR7, HB7⟩ := hcut
            subst e8
            clear hc80 hc81 hc82 hc83 HO HN5 BR5 HCl B8 HLIT HN8 HNr
            obtain ⟨hc80, hc81, hc82, hc83⟩ := cells31 B7.out
            obtain ⟨hr0, hr1, hr2, hr3⟩ := cells31 BR7.out
            have hf0 := blk_frozen BR7.out 0
            have hf1 := blk_frozen BR7.out 1
            have hf2 := blk_frozen BR7.out 2
            have hf3 := blk_frozen BR7.out 3
            go_wp2
            have HE := rtell_end (t := t1) (ok := ok) BR7.out HGR.out HB7.out ⟨V_rows ok HN7.out BR7.out HGR.out, V_own ok HV7.out BR7.out, V_own ok HR7.out BR7.out⟩
            refine bodyPost_ret (results_ct rfl _ _ gr 31 #[.slice A6 (q.length + 2) c6, .slice A28 good.length c28, .slice A32 bad.length c32, .int .i64 t1] (0, 0) _ rfl HE.1 Try.underlying31 rfl (by kernel_rfl)) rfl ?_
            (try rw [ht2])
            have hl2 : ¬ l.length = 1 := fun e => by rw [e] at h1b; exact absurd h1b (by decide)
            exact ⟨_, _, _, rfl, HE.2.1, by simpa [hl2, HAT.out] using HE.2.2⟩
end Go.Proofs.Ytdfnpjmebnlfbaa.PAll
