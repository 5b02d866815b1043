import Derived.Test.YtdfnpjmebnlfbaaQHalvesRunsAlive
import Derived.Test.YtdfnpjmebnlfbaaQHalvesRunsLawsF
import Derived.Test.YtdfnpjmebnlfbaaQHalvesRunsRefPl

namespace Go.Proofs.YtdfnpjmebnlfbaaW.PrintMore
end Go.Proofs.YtdfnpjmebnlfbaaW.PrintMore
set_option linter.unusedVariables false
set_option linter.unusedSimpArgs false
namespace Go.Proofs.Ytdfnpjmebnlfbaa.PAll
open Go Go.Proofs Go.RowKit Go.Proofs.YtdfnpjmebnlfbaaW.PrintWords Go.Proofs.YtdfnpjmebnlfbaaW.PrintLast Go.Proofs.YtdfnpjmebnlfbaaW.PrintMore
theorem RefV.below {W W1 : World} {ok : Nat → Prop} {vr vg vb : Value} {rest : List (List ByteArray)} {good bad : List ByteArray} (h : RefV W ok vr vg vb rest good bad) (hb : Below W.heap.size W W1) : RefV W1 ok vr vg vb rest good bad :=
  ⟨Kd.V_below h.rest hb, Kd.V_below h.good hb, Kd.V_below h.bad hb⟩
theorem RefV.mono {W : World} {ok ok' : Nat → Prop} {vr vg vb : Value} {rest : List (List ByteArray)} {good bad : List ByteArray} (h : RefV W ok vr vg vb rest good bad) (hk : ∀ k, ok k → ok' k) : RefV W ok' vr vg vb rest good bad :=
  ⟨Kd.V_mono h.rest hk, Kd.V_mono h.good hk, Kd.V_mono h.bad hk⟩
theorem RefV.bound {W : World} {ok : Nat → Prop} {vr vg vb : Value} {rest : List (List ByteArray)} {good bad : List ByteArray} (h : RefV W ok vr vg vb rest good bad) : RefV W (fun k => ok k ∧ k < W.heap.size) vr vg vb rest good bad :=
  ⟨Kd.V_bound h.rest, Kd.V_bound h.good, Kd.V_bound h.bad⟩
theorem RefV.kept {W W1 : World} {ok S : Nat → Prop} {vr vg vb : Value} {rest : List (List ByteArray)} {good bad : List ByteArray} (h : RefV W ok vr vg vb rest good bad) (hk : Kept W W1 S) (hs : ∀ k, ok k → ¬ S k) : RefV W1 ok vr vg vb rest good bad :=
  ⟨Kd.V_kept h.rest hk hs, Kd.V_kept h.good hk hs, Kd.V_kept h.bad hk hs⟩
structure RunS (w0 W : World) (B g g8 : Nat) (S ok : Nat → Prop) (p r : Pl) (vr vg vb vo : Value) (l0 : List ByteArray) : Prop where
  plan : PlanP W B g S p
  ref : RefV W ok vr vg vb r.rest.reverse r.good r.bad
  box : W.heap[g8]? = some (.cells #[vr, vg, vb, .int .i64 r.tries] 31 (0, 0))
  own : Kd.V Kd.string 9 W 0 ok vo l0
  sep : ∀ k, ok k → ¬ S k ∧ k ≠ g8
  sep8 : ¬ S g8
  below : Below w0.heap.size w0 W
  ge8 : w0.heap.size ≤ g8
  geB : w0.heap.size ≤ B
section
variable {w0 W W1 W2 : World} {B g g8 : Nat} {S S1 ok : Nat → Prop} {p p1 r r1 : Pl} {vr vg vb vo v0 v1 v2 : Value} {l0 : List ByteArray}
theorem RunS.belowS (h : RunS w0 W B g g8 S ok p r vr vg vb vo l0) (hb : Below W.heap.size W W1) : RunS w0 W1 B g g8 S ok p r vr vg vb vo l0 :=
  ⟨h.plan.below hb, h.ref.below hb, blk_below h.box hb, Kd.V_below h.own hb, h.sep, h.sep8, below_step h.below hb, h.ge8, h.geB⟩
theorem RunS.told (h : RunS w0 W B g g8 S ok p r vr vg vb vo l0) (hP : PlanP W1 B g S1 p1) (ht : Told W W1 B S S1) : RunS w0 W1 B g g8 S1 (fun k => ok k ∧ k < W.heap.size) p1 r vr vg vb vo l0 := by
  have hs : ∀ k, (ok k ∧ k < W.heap.size) → ¬ S k := fun k hk => (h.sep k hk.1).1
  refine ⟨hP, h.ref.bound.kept ht.kept hs, blk_kept h.box ht.kept h.sep8, Kd.V_kept (Kd.V_bound h.own) ht.kept hs, fun k hk => ⟨fun h1 => ?_, (h.sep k hk.1).2⟩, fun h1 => ?_, below_weaken h.below h.geB ht.below, h.ge8, h.geB⟩
  · rcases ht.more k h1 with h2 | h2
    · exact (h.sep k hk.1).1 h2
    · have := hk.2; omega
  · rcases ht.more g8 h1 with h2 | h2
    · exact h.sep8 h2
    · have := blk_lt h.box; omega
theorem RunS.put (h : RunS w0 W B g g8 S ok p r vr vg vb vo l0) (hb : Below W.heap.size W W1) (hR : RefV W1 (fun k => ok k ∨ W.heap.size ≤ k) v0 v1 v2 r1.rest.reverse r1.good r1.bad) (hb2 : Below W1.heap.size W1 W2) :
    RunS w0 ((((W2.setCell ⟨g8, 0, none⟩ v0).setCell ⟨g8, 1, none⟩ v1).setCell ⟨g8, 2, none⟩ v2).setCell ⟨g8, 3, none⟩ (.int .i64 r1.tries)) B g g8 S (fun k => ok k ∨ W.heap.size ≤ k) p r1 v0 v1 v2 vo l0 := by
  have hlt := blk_lt h.box
  have hS : ∀ k, S k → k < W.heap.size := by
    obtain ⟨_, _, _, _, hS, _⟩ := h.plan
    exact fun k hk => (hS k hk).2
  have hsep : ∀ k, (ok k ∨ W.heap.size ≤ k) → ¬ S k ∧ k ≠ g8 := fun k hk => hk.elim (h.sep k) (fun h1 => ⟨fun h2 => by have := hS k h2; omega, by omega⟩)
  have hb12 := below_step hb hb2
  have hk : ∀ (W' : World), Kept W' ((((W'.setCell ⟨g8, 0, none⟩ v0).setCell ⟨g8, 1, none⟩ v1).setCell ⟨g8, 2, none⟩ v2).setCell ⟨g8, 3, none⟩ (.int .i64 r1.tries)) (fun k => k = g8) := fun W' =>
    ((((Kept.refl W' (fun k => k = g8)).setCell (p := ⟨g8, 0, none⟩) (.inl rfl) v0).setCell (p := ⟨g8, 1, none⟩) (.inl rfl) v1).setCell (p := ⟨g8, 2, none⟩) (.inl rfl) v2).setCell (p := ⟨g8, 3, none⟩) (.inl rfl) _
  refine ⟨(h.plan.below hb12).kept (hk W2) (fun k hs e => h.sep8 (e ▸ hs)), (hR.below hb2).kept (hk W2) (fun k ho e => (hsep k ho).2 e), blk_put (blk_put (blk_put (blk_put (blk_below h.box hb12) 0 v0 rfl) 1 v1 rfl) 2 v2 rfl) 3 _ rfl, Kd.V_mono (Kd.V_kept (Kd.V_below h.own hb12) (hk W2) (fun k ho e => (h.sep k ho).2 e)) (fun k ho => .inl ho), hsep, h.sep8, ?_, h.ge8, h.geB⟩
  exact below_set (below_set (below_set (below_set (below_step h.below hb12) h.ge8) h.ge8) h.ge8) h.ge8
end
set_option maxHeartbeats 16000000 in
set_option maxRecDepth 100000 in
theorem packhorselaw12_HalvesRuns.calls (A0 : Option Addr) (c0 : Nat) (l0 : List ByteArray) (A1 : Option Addr) (c1 : Nat) (l1 : List Bool) (r : Bool) (w : World) (hr0 : Kd.C Kd.string w A0 l0.length l0) (hc0 : l0.length ≤ c0) (hr1 : Kd.C Kd.bool w A1 l1.length l1) (hc1 : l1.length ≤ c1)
    (h : packhorselaw12_HalvesRuns.f l0 l1 = some r) (hr_ : r = true) : Calls Try.prog 3 #[.slice A0 l0.length c0, .slice A1 l1.length c1] w fun e w' => e = .returned (.bool r) ∧ Below w.heap.size w w' := by
  subst hr_
  have hu31 := Try.underlying31
  have hs : ∀ x ∈ l0, x.size ≤ 140737488351232 := by
    by_cases q : ∀ x ∈ l0, x.size ≤ 140737488351232
    · exact q
    · unfold packhorselaw12_HalvesRuns.f at h; rw [if_neg q] at h; cases h
  clear h
  have HR0 := Aside0.mk hr0
  have HC0 := Aside0.mk hc0
  have HR1 := Aside0.mk hr1
  have HC1 := Aside0.mk hc1
  have HS := Aside0.mk (show ∀ x ∈ l0, x.size ≤ maxLen from fun x hx => by have := hs x hx; unfold maxLen; omega)
  clear hr0 hc0 hr1 hc1 hs
  by_cases k1 : 60 < l0.length
  · have k1a : decide ((60 : Int) < (l0.length : Int)) = true := decide_eq_true (by omega)
    have k1b : decide (60 < l0.length) = true := decide_eq_true k1
    clear k1
    go_enter Try.func3, Try.ntmps3
    go_wp2_with (go_at_call 10; refine (alive_calls _).mono ?_; rintro e w1 ⟨rfl, hb⟩; have HB1 := Aside0.mk hb; clear hb)
    go_ret
    exact ⟨rfl, HB1.out⟩
  have k1a : decide ((60 : Int) < (l0.length : Int)) = false := decide_eq_false (by omega)
  have k1b : decide (60 < l0.length) = false := decide_eq_false k1
  by_cases k2 : 200 < l1.length
  · have k2a : decide ((200 : Int) < (l1.length : Int)) = true := decide_eq_true (by omega)
    have k2b : decide (200 < l1.length) = true := decide_eq_true k2
    clear k1 k2
    go_enter Try.func3, Try.ntmps3
    go_wp2_with (go_at_call 10; refine (alive_calls _).mono ?_; rintro e w1 ⟨rfl, hb⟩; have HB1 := Aside0.mk hb; clear hb)
    go_ret
    exact ⟨rfl, HB1.out⟩
  have k2a : decide ((200 : Int) < (l1.length : Int)) = false := decide_eq_false (by omega)
  have k2b : decide (200 < l1.length) = false := decide_eq_false k2
  have HN := Aside0.mk (show l0.length ≤ 60 by omega)
  have HT := Aside0.mk (show l1.length ≤ 200 by omega)
  clear k1 k2
  go_enter Try.func3, Try.ntmps3
  go_upto_region 6 with (first
    | (go_at_call 10; refine (alive_calls _).mono ?_; rintro e w1 ⟨rfl, hb⟩; have HB1 := Aside0.mk hb; clear hb)
    | ((with_reducible refine gate_dst (N := 27) rfl ?_); refine Kd.R_lit Kd.string (w0 := w) w.heap.size 9 ?hg (N := 27) ?hd (xs := ([] : List ByteArray)) (inner := []) (ok := fun _ => True) (okp := fun _ => False) ?hr (Reps.none _ _) (fun _ hk => hk.elim) trivial HB1.out HB1.out.size (by simp) ?_; (case hd => rfl); (case hg => rfl); (case hr => first | (go_simp; done) | (go_simp; rfl)); intro v2 w2 ho hb hg hn; obtain ⟨A2, c2, ev⟩ := Kd.R_slice ho; subst ev; have HR2 := Aside0.mk ho; have HB2 := Aside0.mk hb; clear ho hb hg hn)
    | ((with_reducible refine gate_builtin (b := .append) (xs := #[.tmp 27, .tmp 28]) rfl ?_); at_builtin; refine Kd.R_append_rows Kd.string (w0 := w) w.heap.size rfl (.tmp 27) (.tmp 28) 22 9 (.string ⟨#[]⟩) 16 rfl Try.underlying22 info9 rfl (by decide) (by omega) (.slice A2 0 c2) [] l0 A0 l0.length c0 (fun _ => True) (fun _ => False) rfl rfl ?aO ?aR (fun _ _ h => h) (fun _ h => h.elim) (fun _ _ => trivial) HB2.out HB2.out.size ?aL ?_; (case aR => exact Kd.C_below HR0.out HB2.out); (case aO => exact HR2.out); (case aL => have := HN.out; simp only [List.length_nil]; omega); intro v3 w3 ho hb hg hat; rw [List.nil_append] at ho; obtain ⟨A3, c3, ev⟩ := Kd.R_slice ho; subst ev; have HR3 := Aside0.mk ho; have HB3 := Aside0.mk hb; clear ho hb hg hat))
  clear k1a k1b k2a k2b HR2 HB2
  have HC3 := Aside0.mk (Kd.R_reads' HR3.out).2
  by_cases hnd : l0.Nodup
  rotate_left
  · have HD := Aside0.mk hnd
    have hn2 : (if l0.Nodup then (0 : Int) else 121) = 121 := if_neg hnd
    clear hnd
    go_wp2_with (first
      | (go_at_call 11; refine (new_calls A3 c3 l0 _ HC3.out.2 HC3.out.1 (by have := HN.out; omega) HS.out).mono ?_; rintro e w4 ⟨hb2, h2⟩; rcases h2 with ⟨hnd, g, S, rfl, hP⟩ | ⟨hnd, rfl⟩; (exact absurd hnd HD.out); have HB4 := Aside0.mk (below_step HB3.out hb2); clear hb2 hnd)
      | (go_at_call 12; refine (rnew_calls A0 c0 l0 _ (Kd.C_below HR0.out HB4.out) HC0.out (by have := HN.out; omega)).mono ?_; rintro e w5 ⟨vr, vg, vb, rfl, hR, hb⟩; rw [hn2]; obtain ⟨Ar, cr, er⟩ := Kd.V_slice hR.rest; obtain ⟨Ag, cg, eg⟩ := Kd.V_slice hR.good; obtain ⟨Ab, cb, eb⟩ := Kd.V_slice hR.bad; subst er; subst eg; subst eb; have HB5 := Aside0.mk (below_step HB4.out hb); clear hR hb))
    all_goals go_ret
    all_goals exact ⟨rfl, below_alloc HB5.out _⟩
  have HD := Aside0.mk hnd
  have hn2 : (if l0.Nodup then (0 : Int) else 121) = 0 := if_pos hnd
  have hn3 : (if l0.Nodup then firstL l0 else []) = firstL l0 := if_pos hnd
  clear hnd
  go_upto_region 10 with (first
      | (go_at_call 11; refine (new_calls A3 c3 l0 _ HC3.out.2 HC3.out.1 (by have := HN.out; omega) HS.out).mono ?_; rintro e w4 ⟨hb2, h2⟩; rcases h2 with ⟨hnd, g, S, rfl, hP⟩ | ⟨hnd, rfl⟩; (rotate_left; exact absurd HD.out hnd); have HB4 := Aside0.mk (below_step HB3.out hb2); have HP4 := Aside0.mk hP; have HO4 := Aside0.mk (Kd.V_bound (Kd.R_V (Kd.R_mono HR3.out (fun _ _ => trivial)) (base' := 0))); have HO4b := Aside0.mk (Kd.V_below HO4.out hb2); have HZ4 := Aside0.mk hb2.size; clear hb2 hnd hP)
      | (go_at_call 12; refine (rnew_calls A0 c0 l0 _ (Kd.C_below HR0.out HB4.out) HC0.out (by have := HN.out; omega)).mono ?_; rintro e w5 ⟨vr, vg, vb, rfl, hR, hb⟩; rw [hn2]; rw [hn3] at hR; have HRV := Aside0.mk hR; obtain ⟨Ar, cr, er⟩ := Kd.V_slice hR.rest; obtain ⟨Ag, cg, eg⟩ := Kd.V_slice hR.good; obtain ⟨Ab, cb, eb⟩ := Kd.V_slice hR.bad; subst er; subst eg; subst eb; have HP5 := Aside0.mk (HP4.out.below hb); have HO5 := Aside0.mk (Kd.V_below HO4b.out hb); have HB5 := Aside0.mk (below_step HB4.out hb); have HZ5 := Aside0.mk hb.size; clear hR hb))
  have hrev : (firstL l0).reverse = firstL l0 := by unfold firstL; by_cases c : l0 = [] <;> simp [c]
  have hbox0 : (w5.alloc (.cells #[.slice Ar (firstL l0).length cr, .slice Ag 0 cg, .slice Ab 0 cb, .int .i64 0] 31 (0, 0))).heap[w5.heap.size]? = some (.cells #[.slice Ar (firstL l0).length cr, .slice Ag 0 cg, .slice Ab 0 cb, .int .i64 0] 31 (0, 0)) := blk_new w5 _
  have HST := Aside0.mk (show RunS w (w5.alloc (.cells #[.slice Ar (firstL l0).length cr, .slice Ag 0 cg, .slice Ab 0 cb, .int .i64 0] 31 (0, 0))) w3.heap.size g w5.heap.size S (fun k => (k < w3.heap.size ∨ w4.heap.size ≤ k) ∧ k < w5.heap.size) ⟨firstL l0, [], [], 0⟩ ⟨firstL l0, [], [], 0⟩ (.slice Ar (firstL l0).length cr) (.slice Ag 0 cg) (.slice Ab 0 cb) (.slice A3 l0.length c3) l0 from by
    have hSz : ∀ k, S k → w3.heap.size ≤ k ∧ k < w4.heap.size := by
      obtain ⟨_, _, _, _, hS, _⟩ := HP4.out
      exact hS
    have z5 := HZ5.out
    have z4 := HZ4.out
    refine ⟨HP5.out.below (below_alloc (Below.refl _ _) _), ?_, hbox0, Kd.V_mono (Kd.V_alloc HO5.out _) (fun k hk => ⟨.inl hk.2, by have := hk.2; omega⟩), fun k hk => ⟨fun h1 => ?_, by have := hk.2; omega⟩, fun h1 => ?_, below_alloc HB5.out _, HB5.out.size, HB3.out.size⟩
    · have h1 := (HRV.out.bound.mono (ok' := fun k => (k < w3.heap.size ∨ w4.heap.size ≤ k) ∧ k < w5.heap.size) (fun k hk => ⟨.inr hk.1, hk.2⟩)).below (below_alloc (Below.refl _ _) (.cells #[.slice Ar (firstL l0).length cr, .slice Ag 0 cg, .slice Ab 0 cb, .int .i64 0] 31 (0, 0)))
      simpa [hrev] using h1
    · have h2 := hSz k h1
      rcases hk.1 with h3 | h3 <;> omega
    · have h2 := (hSz _ h1).2
      omega)
  have HI := Aside0.mk (inv_first l0 0)
  clear hbox0 hn2 hn3 HRV HP4 HP5 HO4 HO4b HO5 HZ4 HB4 HR3 HC3
  go_wp2
  go_loopg [56] l1.length (fun kq v56 w' => ∃ (i : Nat) (S' ok : Nat → Prop) (p : Pl) (vr vg vb : Value), v56 = .int .i64 (i : Int) ∧ Aside0 (kq + i = l1.length) ∧ Aside0 (RunS w w' w3.heap.size g w5.heap.size S' ok p p vr vg vb (.slice A3 l0.length c3) l0) ∧ Aside0 (Inv l0 p))
  case atStart => exact ⟨0, S, _, _, _, _, _, rfl, ⟨by omega⟩, HST, HI⟩
  case round =>
    clear HST HI HB5
    obtain ⟨i, S1, ok1, p, vr, vg, vb, rfl, HK, HS1, HI⟩ := hrel
    by_cases c : i < l1.length
    · have c0' : decide ((i : Int) < (l1.length : Int)) = true := decide_eq_true (by omega)
      have c0'' : decide (i < l1.length) = true := decide_eq_true c
      obtain ⟨ad, cs, hA, _, hKs, hcell⟩ := Kd.C_get (Kd.C_below HR1.out HS1.out.below) false (i : Int) (by omega) (by omega)
      subst hA
      have hin := hcell 0 (.bool l1[i]) (by rw [show cs = _ from hKs]; simp [List.getD_eq_getElem?_getD, List.getElem?_eq_getElem c])
      rw [show Kd.bool.sz = 1 from rfl] at hin
      simp only [Int.toNat_natCast, Nat.mul_one, Nat.add_zero] at hin
      clear hcell hKs
      generalize l1[i] = bi at hin
      have p0 : (0 : Int) ≤ (i : Int) := by omega
      have q0 : (i : Int) < (l1.length : Int) := by omega
      have w0 : wrap64 ((i : Int) + 1) = (i : Int) + 1 := by have := HT.out; unfold wrap64; omega
      have HLM := Aside0.mk (HI.out.lim (by have := HN.out; omega))
      have HPOS := Aside0.mk (fun (hp : p.rest ≠ []) => HI.out.next_pos hp)
      have HI2 := Aside0.mk (HI.out.tell bi)
      have HLM2 := Aside0.mk (HI2.out.lim (by have := HN.out; omega))
      obtain ⟨p1, e1, hpe⟩ : ∃ p1 e1, p.tell bi = (p1, e1) := ⟨_, _, rfl⟩
      have HTE := Aside0.mk hpe
      rw [hpe] at HI2 HLM2
      clear hpe
      obtain ⟨rest, good, bad, tries⟩ := p
      obtain ⟨Ag, cg, eg⟩ := Kd.V_slice HS1.out.ref.good
      obtain ⟨Ab, cb, eb⟩ := Kd.V_slice HS1.out.ref.bad
      subst eg; subst eb
      simp only at HS1 HLM HPOS
      rcases List.eq_nil_or_concat rest with er | ⟨q, l, er⟩
      · subst er
        obtain ⟨Ar, cr, err⟩ := Kd.V_slice HS1.out.ref.rest
        subst err
        simp only [List.reverse_nil, List.length_nil] at HS1
        go_upto_region 21 with (first
          | ((with_reducible refine gate_dst (N := 60) rfl ?_); refine Kd.R_lit Kd.string (w0 := wr) wr.heap.size 9 ?hg (N := 60) ?hd (xs := ([] : List ByteArray)) (inner := []) (ok := fun _ => True) (okp := fun _ => False) ?hr (Reps.none _ _) (fun _ hk => hk.elim) trivial (Below.refl _ _) (Nat.le_refl _) (by simp) ?_; (case hd => rfl); (case hg => rfl); (case hr => first | (go_simp; done) | (go_simp; rfl)); intro v6 w6 ho hb hg hn; obtain ⟨A6, c6, ev⟩ := Kd.R_slice ho; subst ev; have HR6 := Aside0.mk (Kd.R_reads' ho).2; have HS6 := Aside0.mk (HS1.out.belowS hb); have hc60 := (cells31 HS6.out.box).1; clear ho hb hg hn)
          | (go_at_call 13; refine (next_calls g w3.heap.size S1 [] good bad tries _ HS6.out.plan (by simp [nextL])).mono ?_; rintro e w7 ⟨v7, rfl, hR, hb⟩; have hR := (show Kd.R Kd.string 9 w7 _ (fun _ => True) v7 [] from hR); obtain ⟨A7, c7, ev⟩ := Kd.R_slice hR; subst ev; have HR7 := Aside0.mk (Kd.R_reads' hR).2; have HS7 := Aside0.mk (HS6.out.belowS hb); have HC67 := Aside0.mk (Kd.C_below HR6.out.2 hb); clear hR hb)
          | (go_at_call 14; refine (same_calls A7 c7 [] A6 c6 [] _ HR7.out.2 HR7.out.1 HC67.out HR6.out.1 (by decide)).mono ?_; rintro e w8 ⟨rfl, hd⟩; rw [decide_eq_true (rfl : ([] : List ByteArray) = [])]; have HS8 := Aside0.mk (HS7.out.belowS hd); clear hd)
          | (go_at_call 15; refine (tell_to g w3.heap.size S1 ⟨[], good, bad, tries⟩ bi _ _ _ HS8.out.plan HLM.out HTE.out).mono ?_; rintro e w9 ⟨rfl, S9, hP9, hT9⟩; have HS9 := Aside0.mk (HS8.out.told hP9 hT9); obtain ⟨hc80, hc81, hc82, hc83⟩ := cells31 HS9.out.box; clear hP9 hT9)
          | (go_at_call 16; refine (rtell_pl _ _ _ _ ⟨[], good, bad, tries⟩ bi _ HS9.out.ref HLM.out HPOS.out).mono ?_; rintro e w10 ⟨vr2, vg2, vb2, rfl, hb, hR⟩; rw [HTE.out] at hR ⊢; obtain ⟨Ar2, cr2, er2⟩ := Kd.V_slice hR.rest; obtain ⟨Ag2, cg2, eg2⟩ := Kd.V_slice hR.good; obtain ⟨Ab2, cb2, eb2⟩ := Kd.V_slice hR.bad; rw [List.length_reverse] at er2; subst er2; subst eg2; subst eb2; have HR10 := Aside0.mk hR; have HB10 := Aside0.mk hb; clear hR hb))
        have B15 := Aside0.mk (blk_new w10 (.cells #[.slice Ar2 p1.rest.length cr2, .slice Ag2 p1.good.length cg2, .slice Ab2 p1.bad.length cb2, .int .i64 p1.tries] 31 (0, 0)))
        have HB11 := Aside0.mk (below_alloc (Below.refl w10.heap.size w10) (.cells #[.slice Ar2 p1.rest.length cr2, .slice Ag2 p1.good.length cg2, .slice Ab2 p1.bad.length cb2, .int .i64 p1.tries] 31 (0, 0)))
        have HS12 := Aside0.mk (HS9.out.put HB10.out HR10.out HB11.out)
        have B8 := Aside0.mk (blk_below (blk_below HS9.out.box HB10.out) HB11.out)
        clear hc80 hc81 hc82 hc83
        generalize w10.alloc (.cells #[.slice Ar2 p1.rest.length cr2, .slice Ag2 p1.good.length cg2, .slice Ab2 p1.bad.length cb2, .int .i64 p1.tries] 31 (0, 0)) = w11 at B15 HB11 B8 HS12 ⊢
        obtain ⟨hx0, hx1, hx2, hx3⟩ := cells31 B15.out
        obtain ⟨hy0, hy1, hy2, hy3⟩ := cells31 B8.out
        have hf0 := blk_frozen B8.out 0
        have hf1 := blk_frozen B8.out 1
        have hf2 := blk_frozen B8.out 2
        have hf3 := blk_frozen B8.out 3
        go_upto_region 22 with fail
        clear hx0 hx1 hx2 hx3 hy0 hy1 hy2 hy3 hf0 hf1 hf2 hf3 B8 B15 HB11 HB10 HR10 HS9
        generalize (((w11.setCell ⟨w5.heap.size, 0, none⟩ (.slice Ar2 p1.rest.length cr2)).setCell ⟨w5.heap.size, 1, none⟩ (.slice Ag2 p1.good.length cg2)).setCell ⟨w5.heap.size, 2, none⟩ (.slice Ab2 p1.bad.length cb2)).setCell ⟨w5.heap.size, 3, none⟩ (.int .i64 p1.tries) = w12 at HS12 ⊢
        have HSd := Aside0.mk (HS12.out.belowS (below_drew (Below.refl w12.heap.size w12)))
        have hLEN := Aside0.mk (show p1.good.length ≤ 1000000 ∧ p1.bad.length ≤ 1000000 from ⟨HLM2.out.2.2.1, HLM2.out.2.2.2⟩)
        obtain ⟨hx0, hx1, hx2, hx3⟩ := cells31 HS12.out.box
        go_wp2
        go_region_held (fun w' => w'.cell? ⟨w5.heap.size, 1, none⟩ = some (.slice Ag2 p1.good.length cg2) ∧ w'.cell? ⟨w5.heap.size, 2, none⟩ = some (.slice Ab2 p1.bad.length cb2) ∧ w'.cell? ⟨w5.heap.size, 3, none⟩ = some (.int .i64 p1.tries))
          (first | exact (cells31 HSd.out.box).2 | exact (cells31 HS17.out.box).2 | exact (cells31 HS16.out.box).2 | exact (cells31 HS15.out.box).2 | exact (cells31 HS14.out.box).2)
          (first
            | (go_at_call 17; refine (tries_calls g w3.heap.size _ p1.rest p1.good p1.bad p1.tries _ HSd.out.plan).mono ?_; rintro e w13 ⟨rfl, rfl⟩)
            | (go_at_call 18; refine (good_calls g w3.heap.size _ p1.rest p1.good p1.bad p1.tries _ HSd.out.plan (by have := hLEN.out; omega)).mono ?_; rintro e w14 ⟨v14, rfl, hR, hb⟩; obtain ⟨A14, c14, ev⟩ := Kd.R_slice hR; subst ev; have HR14 := Aside0.mk (Kd.R_reads' hR).2; have HS14 := Aside0.mk (HSd.out.belowS hb); clear hR hb)
            | (go_at_call_of 14 (Value.slice A14 p1.good.length c14); refine (same_refl_calls A14 c14 p1.good Ag2 cg2 _ HR14.out.2 HR14.out.1 (Kd.V_reads' HS14.out.ref.good).2.2 (Kd.V_reads' HS14.out.ref.good).2.1 (by have := hLEN.out; omega)).mono ?_; rintro e w15 ⟨rfl, hd⟩; have HS15 := Aside0.mk (HS14.out.belowS hd); clear hd)
            | (go_at_call 19; refine (bad_calls g w3.heap.size _ p1.rest p1.good p1.bad p1.tries _ HS15.out.plan (by have := hLEN.out; omega)).mono ?_; rintro e w16 ⟨v16, rfl, hR, hb⟩; obtain ⟨A16, c16, ev⟩ := Kd.R_slice hR; subst ev; have HR16 := Aside0.mk (Kd.R_reads' hR).2; have HS16 := Aside0.mk (HS15.out.belowS hb); clear hR hb)
            | (go_at_call_of 14 (Value.slice A16 p1.bad.length c16); refine (same_refl_calls A16 c16 p1.bad Ab2 cb2 _ HR16.out.2 HR16.out.1 (Kd.V_reads' HS16.out.ref.bad).2.2 (Kd.V_reads' HS16.out.ref.bad).2.1 (by have := hLEN.out; omega)).mono ?_; rintro e w17 ⟨rfl, hd⟩; have HS17 := Aside0.mk (HS16.out.belowS hd); clear hd))
        all_goals go_wp2
        go_roundg (gk - 1)
        case measure => have := HK.out; omega
        case rel => exact ⟨i + 1, _, _, p1, _, _, _, (by first | rfl | (simp [*]; done)), ⟨by have := HK.out; omega⟩, HS17, ⟨HI2.out⟩⟩
      · rw [List.concat_eq_append] at er
        subst er
        have hrr : (q ++ [l]).reverse = l :: q.reverse := by simp
        obtain ⟨Ar, cr, err, hcr, hFr⟩ := (show Kd.V (Kd.slice 9 Kd.string) 22 wr 0 ok1 vr (l :: q.reverse) from by have h := HS1.out.ref.rest; rwa [hrr] at h)
        rw [show (l :: q.reverse).length = q.length + 1 by simp] at err
        subst err
        obtain ⟨adr, csr, hAr, hcsr, hKr, hcellr, _⟩ := Kd.F_get hFr ([] : List ByteArray) (0 : Int) (by decide) (by simp)
        subst hAr
        simp only [Int.toNat_zero, List.getD_cons_zero, Nat.zero_mul, Nat.zero_add] at hKr hcellr
        obtain ⟨Al, cl, hcl, hlc, hCl⟩ := Kd.FK_now hKr
        subst hcl
        have HFl := Aside0.mk (show Kd.F Kd.string wr ok1 Al l.length l from Foot.imp hKr (fun W' h => by
          obtain ⟨A', c', he, _, h2⟩ := h
          injection he with he
          injection he with h1
          subst h1
          exact h2))
        have Hlc := Aside0.mk hlc
        have hir := hcellr 0 _ rfl
        have hir2 : wr.cell? adr = some (.slice Al l.length cl) := by simpa [Addr.add] using hir
        have i0 : (0 : Int) < ((q.length + 1 : Nat) : Int) := by omega
        have i1 : (0 : Int) < (q.length : Int) + 1 := by omega
        have i2 : decide ((0 : Int) < (q.length : Int) + 1) = true := decide_eq_true i1
        have i3 : decide ((0 : Int) < ((q.length + 1 : Nat) : Int)) = true := decide_eq_true i0
        clear hcellr hKr hFr hcr hcsr hlc hCl hir
        have HLL := Aside0.mk (show l.length ≤ 1000000 by have h := HLM.out.1; rw [nextL_snoc] at h; exact h)
        go_upto_region 21 with (first
          | ((with_reducible refine gate_dst (N := 60) rfl ?_); refine Kd.R_lit Kd.string (w0 := wr) wr.heap.size 9 ?hg (N := 60) ?hd (xs := ([] : List ByteArray)) (inner := []) (ok := fun _ => True) (okp := fun _ => False) ?hr (Reps.none _ _) (fun _ hk => hk.elim) trivial (Below.refl _ _) (Nat.le_refl _) (by simp) ?_; (case hd => rfl); (case hg => rfl); (case hr => first | (go_simp; done) | (go_simp; rfl)); intro v6 w6 ho hb hg hn; obtain ⟨A6, c6, ev⟩ := Kd.R_slice ho; subst ev; have HS6 := Aside0.mk (HS1.out.belowS hb); have HF6 := Aside0.mk (Kd.F_below HFl.out hb); have hir6 := pw_cell_below hb hir2; have hc60 := (cells31 HS6.out.box).1; clear ho hb hg hn)
          | (go_at_call 13; refine (next_calls g w3.heap.size S1 (q ++ [l]) good bad tries _ HS6.out.plan (by rw [nextL_snoc]; have := HLL.out; omega)).mono ?_; rintro e w7 ⟨v7, rfl, hR, hb⟩; rw [nextL_snoc] at hR; obtain ⟨A7, c7, ev⟩ := Kd.R_slice hR; subst ev; have HR7 := Aside0.mk (Kd.R_reads' hR).2; have HS7 := Aside0.mk (HS6.out.belowS hb); have HF7 := Aside0.mk (Kd.F_now (Kd.F_below HF6.out hb)); clear hR hb)
          | (go_at_call 14; refine (same_refl_calls A7 c7 l Al cl _ HR7.out.2 HR7.out.1 HF7.out Hlc.out (by have := HLL.out; omega)).mono ?_; rintro e w8 ⟨rfl, hd⟩; have HS8 := Aside0.mk (HS7.out.belowS hd); clear hd)
          | (go_at_call 15; refine (tell_to g w3.heap.size S1 ⟨q ++ [l], good, bad, tries⟩ bi _ _ _ HS8.out.plan HLM.out HTE.out).mono ?_; rintro e w9 ⟨rfl, S9, hP9, hT9⟩; have HS9 := Aside0.mk (HS8.out.told hP9 hT9); obtain ⟨hc80, hc81, hc82, hc83⟩ := cells31 HS9.out.box; clear hP9 hT9)
          | (go_at_call 16; refine (rtell_pl _ _ _ _ ⟨q ++ [l], good, bad, tries⟩ bi _ HS9.out.ref HLM.out HPOS.out).mono ?_; rintro e w10 ⟨vr2, vg2, vb2, rfl, hb, hR⟩; rw [HTE.out] at hR ⊢; obtain ⟨Ar2, cr2, er2⟩ := Kd.V_slice hR.rest; obtain ⟨Ag2, cg2, eg2⟩ := Kd.V_slice hR.good; obtain ⟨Ab2, cb2, eb2⟩ := Kd.V_slice hR.bad; rw [List.length_reverse] at er2; subst er2; subst eg2; subst eb2; have HR10 := Aside0.mk hR; have HB10 := Aside0.mk hb; clear hR hb))
        have B15 := Aside0.mk (blk_new w10 (.cells #[.slice Ar2 p1.rest.length cr2, .slice Ag2 p1.good.length cg2, .slice Ab2 p1.bad.length cb2, .int .i64 p1.tries] 31 (0, 0)))
        have HB11 := Aside0.mk (below_alloc (Below.refl w10.heap.size w10) (.cells #[.slice Ar2 p1.rest.length cr2, .slice Ag2 p1.good.length cg2, .slice Ab2 p1.bad.length cb2, .int .i64 p1.tries] 31 (0, 0)))
        have HS12 := Aside0.mk (HS9.out.put HB10.out HR10.out HB11.out)
        have B8 := Aside0.mk (blk_below (blk_below HS9.out.box HB10.out) HB11.out)
        clear hc80 hc81 hc82 hc83
        generalize w10.alloc (.cells #[.slice Ar2 p1.rest.length cr2, .slice Ag2 p1.good.length cg2, .slice Ab2 p1.bad.length cb2, .int .i64 p1.tries] 31 (0, 0)) = w11 at B15 HB11 B8 HS12 ⊢
        obtain ⟨hx0, hx1, hx2, hx3⟩ := cells31 B15.out
        obtain ⟨hy0, hy1, hy2, hy3⟩ := cells31 B8.out
        have hf0 := blk_frozen B8.out 0
        have hf1 := blk_frozen B8.out 1
        have hf2 := blk_frozen B8.out 2
        have hf3 := blk_frozen B8.out 3
        go_upto_region 22 with fail
        clear hx0 hx1 hx2 hx3 hy0 hy1 hy2 hy3 hf0 hf1 hf2 hf3 B8 B15 HB11 HB10 HR10 HS9
        generalize (((w11.setCell ⟨w5.heap.size, 0, none⟩ (.slice Ar2 p1.rest.length cr2)).setCell ⟨w5.heap.size, 1, none⟩ (.slice Ag2 p1.good.length cg2)).setCell ⟨w5.heap.size, 2, none⟩ (.slice Ab2 p1.bad.length cb2)).setCell ⟨w5.heap.size, 3, none⟩ (.int .i64 p1.tries) = w12 at HS12 ⊢
        have HSd := Aside0.mk (HS12.out.belowS (below_drew (Below.refl w12.heap.size w12)))
        have hLEN := Aside0.mk (show p1.good.length ≤ 1000000 ∧ p1.bad.length ≤ 1000000 from ⟨HLM2.out.2.2.1, HLM2.out.2.2.2⟩)
        obtain ⟨hx0, hx1, hx2, hx3⟩ := cells31 HS12.out.box
        go_wp2
        go_region_held (fun w' => w'.cell? ⟨w5.heap.size, 1, none⟩ = some (.slice Ag2 p1.good.length cg2) ∧ w'.cell? ⟨w5.heap.size, 2, none⟩ = some (.slice Ab2 p1.bad.length cb2) ∧ w'.cell? ⟨w5.heap.size, 3, none⟩ = some (.int .i64 p1.tries))
          (first | exact (cells31 HSd.out.box).2 | exact (cells31 HS17.out.box).2 | exact (cells31 HS16.out.box).2 | exact (cells31 HS15.out.box).2 | exact (cells31 HS14.out.box).2)
          (first
            | (go_at_call 17; refine (tries_calls g w3.heap.size _ p1.rest p1.good p1.bad p1.tries _ HSd.out.plan).mono ?_; rintro e w13 ⟨rfl, rfl⟩)
            | (go_at_call 18; refine (good_calls g w3.heap.size _ p1.rest p1.good p1.bad p1.tries _ HSd.out.plan (by have := hLEN.out; omega)).mono ?_; rintro e w14 ⟨v14, rfl, hR, hb⟩; obtain ⟨A14, c14, ev⟩ := Kd.R_slice hR; subst ev; have HR14 := Aside0.mk (Kd.R_reads' hR).2; have HS14 := Aside0.mk (HSd.out.belowS hb); clear hR hb)
            | (go_at_call_of 14 (Value.slice A14 p1.good.length c14); refine (same_refl_calls A14 c14 p1.good Ag2 cg2 _ HR14.out.2 HR14.out.1 (Kd.V_reads' HS14.out.ref.good).2.2 (Kd.V_reads' HS14.out.ref.good).2.1 (by have := hLEN.out; omega)).mono ?_; rintro e w15 ⟨rfl, hd⟩; have HS15 := Aside0.mk (HS14.out.belowS hd); clear hd)
            | (go_at_call 19; refine (bad_calls g w3.heap.size _ p1.rest p1.good p1.bad p1.tries _ HS15.out.plan (by have := hLEN.out; omega)).mono ?_; rintro e w16 ⟨v16, rfl, hR, hb⟩; obtain ⟨A16, c16, ev⟩ := Kd.R_slice hR; subst ev; have HR16 := Aside0.mk (Kd.R_reads' hR).2; have HS16 := Aside0.mk (HS15.out.belowS hb); clear hR hb)
            | (go_at_call_of 14 (Value.slice A16 p1.bad.length c16); refine (same_refl_calls A16 c16 p1.bad Ab2 cb2 _ HR16.out.2 HR16.out.1 (Kd.V_reads' HS16.out.ref.bad).2.2 (Kd.V_reads' HS16.out.ref.bad).2.1 (by have := hLEN.out; omega)).mono ?_; rintro e w17 ⟨rfl, hd⟩; have HS17 := Aside0.mk (HS16.out.belowS hd); clear hd))
        all_goals go_wp2
        go_roundg (gk - 1)
        case measure => have := HK.out; omega
        case rel => exact ⟨i + 1, _, _, p1, _, _, _, (by first | rfl | (simp [*]; done)), ⟨by have := HK.out; omega⟩, HS17, ⟨HI2.out⟩⟩
    · have c0' : decide ((i : Int) < (l1.length : Int)) = false := decide_eq_false (by omega)
      have c0'' : decide (i < l1.length) = false := decide_eq_false c
      have HOW := Aside0.mk (Kd.V_reads' HS1.out.own).2
      clear c
      go_wp2_with (go_at_call 14; refine (same_refl_calls A3 c3 l0 A0 c0 _ HOW.out.2 HOW.out.1 (Kd.C_below HR0.out HS1.out.below) HC0.out (by have := HN.out; omega)).mono ?_; rintro e w8 ⟨rfl, hd⟩; have HB8 := Aside0.mk (below_step HS1.out.below hd); clear hd)
      go_ret
      exact ⟨rfl, HB8.out⟩
end Go.Proofs.Ytdfnpjmebnlfbaa.PAll
