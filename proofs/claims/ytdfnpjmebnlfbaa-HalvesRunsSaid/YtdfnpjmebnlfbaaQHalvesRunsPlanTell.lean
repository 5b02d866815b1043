
import Derived.Test.YtdfnpjmebnlfbaaQHalvesRunsPlanStep
namespace Go.Proofs.YtdfnpjmebnlfbaaW.PrintMore
end Go.Proofs.YtdfnpjmebnlfbaaW.PrintMore
set_option linter.unusedVariables false
set_option linter.unusedSimpArgs false
namespace Go.Proofs.Ytdfnpjmebnlfbaa.PAll
open Go Go.Proofs Go.RowKit Go.Proofs.YtdfnpjmebnlfbaaW.PrintWords Go.Proofs.YtdfnpjmebnlfbaaW.PrintLast Go.Proofs.YtdfnpjmebnlfbaaW.PrintMore
structure Pl where
  rest : List (List ByteArray)
  good : List ByteArray
  bad : List ByteArray
  tries : Int
def Pl.tell (p : Pl) (b : Bool) : Pl × Int :=
  if (nextL p.rest).length = 0 then (p, 121)
  else if b = true then (⟨p.rest.dropLast, p.good ++ nextL p.rest, p.bad, wrap64 (p.tries + 1)⟩, 0)
  else if (nextL p.rest).length = 1 then (⟨p.rest.dropLast, p.good, p.bad ++ nextL p.rest, wrap64 (p.tries + 1)⟩, 0)
  else (⟨p.rest.dropLast ++ [(nextL p.rest).drop (((nextL p.rest).length + 1) / 2), (nextL p.rest).take (((nextL p.rest).length + 1) / 2)], p.good, p.bad, wrap64 (p.tries + 1)⟩, 0)
abbrev PlanP (W : World) (B g : Nat) (S : Nat → Prop) (p : Pl) : Prop := PlanS W B g S p.rest p.good p.bad p.tries
theorem slice_open {α : Type} {d : Kd α} {e base : Nat} {ok : Nat → Prop} {W : World} {v : Value} {xs : List α} (h : d.R e W base ok v xs) : ∃ A n c, v = .slice A n c := by
  obtain ⟨A, c, h⟩ := Kd.R_slice h
  exact ⟨A, _, c, h⟩
theorem PlanS.base {W : World} {B g : Nat} {S : Nat → Prop} {rest : List (List ByteArray)} {good bad : List ByteArray} {tries : Int} (h : PlanS W B g S rest good bad tries) : B ≤ W.heap.size := by
  obtain ⟨_, _, _, hb, hS, hg, _⟩ := h
  exact Nat.le_of_lt (Nat.lt_of_le_of_lt (hS g hg).1 (hS g hg).2)
theorem PlanV.mono {W : World} {B g : Nat} {S S' : Nat → Prop} {vr vg vb : Value} {rest : List (List ByteArray)} {good bad : List ByteArray} {tries : Int} (h : PlanV W B g S vr vg vb rest good bad tries) (hs : ∀ k, S k → S' k) (hS' : ∀ k, S' k → B ≤ k ∧ k < W.heap.size) : PlanV W B g S' vr vg vb rest good bad tries := by
  obtain ⟨hb, hS, hg, h1, h2, h3⟩ := h
  exact ⟨hb, hS', hs g hg, Kd.R_mono h1 (fun k q => ⟨hs k q.1, q.2⟩), Kd.R_mono h2 (fun k q => ⟨hs k q.1, q.2⟩), Kd.R_mono h3 hs⟩
set_option maxHeartbeats 8000000 in
set_option maxRecDepth 100000 in
theorem tell_none (g B : Nat) (S : Nat → Prop) (p : Pl) (b : Bool) (w : World) (hP : PlanP w B g S p) (h0 : (nextL p.rest).length = 0) :
    Calls Try.prog 15 #[.pointer (some ⟨g, 0, none⟩), .bool b] w fun e w' => e = .returned (.int .i64 121) ∧ PlanP w' B g S p ∧ Told w w' B S S := by
  have HP := Aside0.mk hP
  have H0 := Aside0.mk h0
  clear hP h0
  go_enter Try.func15, Try.ntmps15
  go_wp2_with (go_at_call 13; refine (next_calls g B S p.rest p.good p.bad p.tries _ HP.out (by rw [H0.out]; omega)).mono ?_; rintro e w1 ⟨v, rfl, hR, hb⟩; obtain ⟨A, c, ev⟩ := Kd.R_slice hR; subst ev; rw [H0.out]; have HB := Aside0.mk hb; clear hR hb)
  go_ret
  exact ⟨rfl, HP.out.below HB.out, Told.of_below HB.out HP.out.base⟩
set_option maxHeartbeats 16000000 in
set_option maxRecDepth 100000 in
theorem tell_good (g B : Nat) (S : Nat → Prop) (p : Pl) (w : World) (hP : PlanP w B g S p) (h0 : 0 < (nextL p.rest).length) (hlim : (nextL p.rest).length ≤ 1000000 ∧ p.rest.length ≤ 1000000 ∧ p.good.length ≤ 1000000 ∧ p.bad.length ≤ 1000000) :
    Calls Try.prog 15 #[.pointer (some ⟨g, 0, none⟩), .bool true] w fun e w' => e = .returned (.int .i64 0) ∧ ∃ S' : Nat → Prop, PlanP w' B g S' ⟨p.rest.dropLast, p.good ++ nextL p.rest, p.bad, wrap64 (p.tries + 1)⟩ ∧ Told w w' B S S' := by
  have hu49 := Try.underlying49
  obtain ⟨rest, good, bad, tries⟩ := p
  obtain ⟨q, l, hql⟩ : ∃ q l, rest = q ++ [l] := by
    rcases List.eq_nil_or_concat rest with rfl | ⟨q, l, h⟩
    · exact absurd h0 (by simp [nextL])
    · exact ⟨q, l, by rw [h, List.concat_eq_append]⟩
  subst hql
  have hP1 := hP
  obtain ⟨vr, vg, vb, hV⟩ := hP.v
  obtain ⟨ad, cr, ev1⟩ := Kd.R_slice1 hV.2.2.2.1 (by simp)
  obtain ⟨Ag, cg, ev2⟩ := Kd.R_slice hV.2.2.2.2.1
  obtain ⟨Ab, cb, ev3⟩ := Kd.R_slice hV.2.2.2.2.2
  subst ev1; subst ev2; subst ev3
  simp only [nextL_snoc, List.dropLast_concat] at h0 hlim ⊢
  obtain ⟨hl1, hl2, hl3, hl4⟩ := hlim
  simp only [List.length_append, List.length_singleton] at hl2 hl3 hl4
  have hn : (q ++ [l]).length = q.length + 1 := by simp
  have hle := (Kd.R_reads' hV.2.2.2.1).2.1
  rw [hn] at hle hV
  obtain ⟨i0, hi0, _, hsz, _⟩ := info_parts info22
  have hcut := cut_to (P := Try.prog) 29 22 .i64 Try.underlying29 hi0 (some ad) (q.length + 1) cr (q.length : Int) (by omega) (by omega) hle
  rw [Int.toNat_natCast] at hcut
  have w1_ : wrap64 (q.length : Int) = (q.length : Int) := by unfold wrap64; omega
  have w5_ : IntKind.i64.wrap (q.length : Int) = (q.length : Int) := (i64_w _).trans w1_
  have hcut2 : ∀ W : World, (Instr.slice 29 (.slice (some ad) (q.length + 1) cr) none (some (.int .i64 (IntKind.i64.wrap (q.length : Int)))) none).run Try.prog W = .ok (.slice (some ad) q.length cr) W := fun W => (congrArg (fun j => (Instr.slice 29 (.slice (some ad) (q.length + 1) cr) none (some (.int .i64 j)) none).run Try.prog W) w5_).trans (hcut W)
  have h1' := Kd.R_take (m := q.length) hV.2.2.2.1 (by simp)
  rw [List.take_left' (by rfl)] at h1'
  have H0 := Aside0.mk h0
  have hpos : 0 < l.length := by omega
  clear h0
  have HP := Aside0.mk hP1
  have HV := Aside0.mk hV
  have H1 := Aside0.mk h1'
  have HL := Aside0.mk (show l.length < 8796093022208 by omega)
  have HL1 := Aside0.mk hl1
  have HL2 := Aside0.mk (show q.length ≤ 1000000 by omega)
  have HL3 := Aside0.mk hl3
  have HL4 := Aside0.mk hl4
  clear hP hP1 hV h1' hi0 hsz hle hn hl1 hl2 hl3 hl4
  go_enter Try.func15, Try.ntmps15
  go_upto_region 4 with (go_at_call 13; refine (next_calls g B S (q ++ [l]) good bad tries _ HP.out (by rw [nextL_snoc]; exact HL.out)).mono ?_; rintro e w1 ⟨v, rfl, hR, hb⟩; rw [nextL_snoc] at hR; obtain ⟨A, c, ev⟩ := Kd.R_slice hR; subst ev; have HB := Aside0.mk hb; have HO := Aside0.mk hR; clear hR hb)
  have HV1 := Aside0.mk (HV.out.below HB.out)
  have H11 := Aside0.mk (Kd.R_below H1.out HB.out)
  have HT1 := Aside0.mk (Told.of_below (S := S) HB.out HP.out.base)
  have hc0 : w1.cell? ⟨g, 0, none⟩ = some (.slice (some ad) (q.length + 1) cr) := (blk_cell HV1.out.1 0).trans rfl
  have hf0 := blk_frozen HV1.out.1 0
  have mixed : Try.prog.follows Departure.mixedOrders = true := by kernel_rfl
  go_region_law_o (fail)
  all_goals clear hcut hcut2 w1_ w5_ mixed hc0 hf0 hpos
  all_goals have HV2 := Aside0.mk (HV1.out.set0 H11.out).drew
  all_goals have HT2 := Aside0.mk ((HT1.out.trans (HV1.out.told 0 (.slice (some ad) q.length cr))).drew)
  all_goals have HO2 := Aside0.mk (Kd.R_drew (Kd.R_set HO.out HV1.out.1 (by decide) 0 (.slice (some ad) q.length cr)))
  all_goals generalize (w1.setCell ⟨g, 0, none⟩ (.slice (some ad) q.length cr)).drew = w2 at HV2 HT2 HO2 ⊢
  all_goals have hc3 : w2.cell? ⟨g, 3, none⟩ = some (.int .i64 tries) := (blk_cell HV2.out.1 3).trans rfl
  all_goals have hf3 := blk_frozen HV2.out.1 3
  all_goals clear HV1 H11 HT1 HO H1 HV HP HB
  all_goals go_upto_region 9 with fail
  all_goals have HV3 := Aside0.mk (HV2.out.set3 (wrap64 (tries + 1)))
  all_goals have HT3 := Aside0.mk (HT2.out.trans (HV2.out.told 3 (.int .i64 (wrap64 (tries + 1)))))
  all_goals have HO3 := Aside0.mk (Kd.R_set HO2.out HV2.out.1 (by decide) 3 (.int .i64 (wrap64 (tries + 1))))
  all_goals clear hc3 hf3
  all_goals generalize (w2.setCell ⟨g, 3, none⟩ (.int .i64 (wrap64 (tries + 1)))) = w3 at HV3 HT3 HO3 ⊢
  all_goals clear HV2 HT2 HO2
  all_goals have hc4 : w3.cell? ⟨g, 1, none⟩ = some (.slice Ag good.length cg) := (blk_cell HV3.out.1 1).trans rfl
  all_goals have hf4 := blk_frozen HV3.out.1 1
  all_goals have HC4 := Aside0.mk (Kd.R_reads' HO3.out).2.2
  all_goals have HBB := Aside0.mk (show B ≤ w3.heap.size from Nat.le_of_lt (Nat.lt_of_le_of_lt HV3.out.gB.1 HV3.out.gB.2))
  all_goals go_wp2_with ((with_reducible refine gate_builtin (b := .append) (xs := #[.tmp 56, .tmp 57]) rfl ?_); at_builtin; refine Kd.R_append_rows Kd.string (w0 := w3) B rfl (.tmp 56) (.tmp 57) 22 9 (.string ⟨#[]⟩) 16 rfl Try.underlying22 info9 rfl (by decide) (by omega) (.slice Ag good.length cg) good l A l.length c (fun k => More S w3 k ∧ some k ≠ (Value.slice Ab bad.length cb).ownBlock) (fun _ => False) rfl rfl ?aO ?aR (fun _ _ h => h) (fun _ h => h.elim) ?aF ?aB ?aS ?aL ?_; (case aR => exact HC4.out); (case aB => exact Below.refl _ _); (case aF => exact HV3.out.fresh1); (case aO => exact HV3.out.in1); (case aS => exact HBB.out); (case aL => have h1_ := HL1.out; have h2_ := HL3.out; omega); intro v4 w4 ho4 hb4 hg4 hat4; obtain ⟨A4, n4, c4, ev4⟩ := slice_open ho4; subst ev4; have HP4 := Aside0.mk (HV3.out.put1 ho4 hg4 hat4 hb4); have hk4 := blk_grown HV3.out.1 hg4 (Kd.R_ne HV3.out.2.2.2.2.1 HV3.out.1 (by decide)); have hc5 : w4.cell? ⟨g, 1, none⟩ = some (.slice Ag good.length cg) := (blk_cell hk4 1).trans rfl; have hf5 := blk_frozen hk4 1; clear ho4 hb4 hg4 hat4 hk4 hc4 hf4)
  all_goals go_ret
  all_goals exact ⟨rfl, _, HP4.out.1.s, HT3.out.trans HP4.out.2⟩
set_option maxHeartbeats 16000000 in
set_option maxRecDepth 100000 in
theorem tell_bad (g B : Nat) (S : Nat → Prop) (p : Pl) (w : World) (hP : PlanP w B g S p) (h0 : 1 = (nextL p.rest).length) (hlim : (nextL p.rest).length ≤ 1000000 ∧ p.rest.length ≤ 1000000 ∧ p.good.length ≤ 1000000 ∧ p.bad.length ≤ 1000000) :
    Calls Try.prog 15 #[.pointer (some ⟨g, 0, none⟩), .bool false] w fun e w' => e = .returned (.int .i64 0) ∧ ∃ S' : Nat → Prop, PlanP w' B g S' ⟨p.rest.dropLast, p.good, p.bad ++ nextL p.rest, wrap64 (p.tries + 1)⟩ ∧ Told w w' B S S' := by
  have hu49 := Try.underlying49
  obtain ⟨rest, good, bad, tries⟩ := p
  obtain ⟨q, l, hql⟩ : ∃ q l, rest = q ++ [l] := by
    rcases List.eq_nil_or_concat rest with rfl | ⟨q, l, h⟩
    · exact absurd h0 (by simp [nextL])
    · exact ⟨q, l, by rw [h, List.concat_eq_append]⟩
  subst hql
  have hP1 := hP
  obtain ⟨vr, vg, vb, hV⟩ := hP.v
  obtain ⟨ad, cr, ev1⟩ := Kd.R_slice1 hV.2.2.2.1 (by simp)
  obtain ⟨Ag, cg, ev2⟩ := Kd.R_slice hV.2.2.2.2.1
  obtain ⟨Ab, cb, ev3⟩ := Kd.R_slice hV.2.2.2.2.2
  subst ev1; subst ev2; subst ev3
  simp only [nextL_snoc, List.dropLast_concat] at h0 hlim ⊢
  obtain ⟨hl1, hl2, hl3, hl4⟩ := hlim
  simp only [List.length_append, List.length_singleton] at hl2 hl3 hl4
  have hn : (q ++ [l]).length = q.length + 1 := by simp
  have hle := (Kd.R_reads' hV.2.2.2.1).2.1
  rw [hn] at hle hV
  obtain ⟨i0, hi0, _, hsz, _⟩ := info_parts info22
  have hcut := cut_to (P := Try.prog) 29 22 .i64 Try.underlying29 hi0 (some ad) (q.length + 1) cr (q.length : Int) (by omega) (by omega) hle
  rw [Int.toNat_natCast] at hcut
  have w1_ : wrap64 (q.length : Int) = (q.length : Int) := by unfold wrap64; omega
  have w5_ : IntKind.i64.wrap (q.length : Int) = (q.length : Int) := (i64_w _).trans w1_
  have hcut2 : ∀ W : World, (Instr.slice 29 (.slice (some ad) (q.length + 1) cr) none (some (.int .i64 (IntKind.i64.wrap (q.length : Int)))) none).run Try.prog W = .ok (.slice (some ad) q.length cr) W := fun W => (congrArg (fun j => (Instr.slice 29 (.slice (some ad) (q.length + 1) cr) none (some (.int .i64 j)) none).run Try.prog W) w5_).trans (hcut W)
  have h1' := Kd.R_take (m := q.length) hV.2.2.2.1 (by simp)
  rw [List.take_left' (by rfl)] at h1'
  have H0 := Aside0.mk h0
  have hpos : 0 < l.length := by omega
  clear h0
  have HP := Aside0.mk hP1
  have HV := Aside0.mk hV
  have H1 := Aside0.mk h1'
  have HL := Aside0.mk (show l.length < 8796093022208 by omega)
  have HL1 := Aside0.mk hl1
  have HL2 := Aside0.mk (show q.length ≤ 1000000 by omega)
  have HL3 := Aside0.mk hl3
  have HL4 := Aside0.mk hl4
  clear hP hP1 hV h1' hi0 hsz hle hn hl1 hl2 hl3 hl4
  go_enter Try.func15, Try.ntmps15
  go_upto_region 4 with (go_at_call 13; refine (next_calls g B S (q ++ [l]) good bad tries _ HP.out (by rw [nextL_snoc]; exact HL.out)).mono ?_; rintro e w1 ⟨v, rfl, hR, hb⟩; rw [nextL_snoc] at hR; obtain ⟨A, c, ev⟩ := Kd.R_slice hR; subst ev; have HB := Aside0.mk hb; have HO := Aside0.mk hR; clear hR hb)
  have HV1 := Aside0.mk (HV.out.below HB.out)
  have H11 := Aside0.mk (Kd.R_below H1.out HB.out)
  have HT1 := Aside0.mk (Told.of_below (S := S) HB.out HP.out.base)
  have hc0 : w1.cell? ⟨g, 0, none⟩ = some (.slice (some ad) (q.length + 1) cr) := (blk_cell HV1.out.1 0).trans rfl
  have hf0 := blk_frozen HV1.out.1 0
  have mixed : Try.prog.follows Departure.mixedOrders = true := by kernel_rfl
  go_region_law_o (fail)
  all_goals clear hcut hcut2 w1_ w5_ mixed hc0 hf0 hpos
  all_goals have h1b : (((l.length : Nat) : Int) == 1) = true := by rw [← H0.out]; rfl
  all_goals have HV2 := Aside0.mk (HV1.out.set0 H11.out).drew
  all_goals have HT2 := Aside0.mk ((HT1.out.trans (HV1.out.told 0 (.slice (some ad) q.length cr))).drew)
  all_goals have HO2 := Aside0.mk (Kd.R_drew (Kd.R_set HO.out HV1.out.1 (by decide) 0 (.slice (some ad) q.length cr)))
  all_goals generalize (w1.setCell ⟨g, 0, none⟩ (.slice (some ad) q.length cr)).drew = w2 at HV2 HT2 HO2 ⊢
  all_goals have hc3 : w2.cell? ⟨g, 3, none⟩ = some (.int .i64 tries) := (blk_cell HV2.out.1 3).trans rfl
  all_goals have hf3 := blk_frozen HV2.out.1 3
  all_goals clear HV1 H11 HT1 HO H1 HV HP HB
  all_goals go_upto_region 11 with fail
  all_goals have HV3 := Aside0.mk (HV2.out.set3 (wrap64 (tries + 1)))
  all_goals have HT3 := Aside0.mk (HT2.out.trans (HV2.out.told 3 (.int .i64 (wrap64 (tries + 1)))))
  all_goals have HO3 := Aside0.mk (Kd.R_set HO2.out HV2.out.1 (by decide) 3 (.int .i64 (wrap64 (tries + 1))))
  all_goals clear hc3 hf3
  all_goals generalize (w2.setCell ⟨g, 3, none⟩ (.int .i64 (wrap64 (tries + 1)))) = w3 at HV3 HT3 HO3 ⊢
  all_goals clear HV2 HT2 HO2
  all_goals have hc4 : w3.cell? ⟨g, 2, none⟩ = some (.slice Ab bad.length cb) := (blk_cell HV3.out.1 2).trans rfl
  all_goals have hf4 := blk_frozen HV3.out.1 2
  all_goals have HC4 := Aside0.mk (Kd.R_reads' HO3.out).2.2
  all_goals have HBB := Aside0.mk (show B ≤ w3.heap.size from Nat.le_of_lt (Nat.lt_of_le_of_lt HV3.out.gB.1 HV3.out.gB.2))
  all_goals go_wp2_with ((with_reducible refine gate_builtin (b := .append) (xs := #[.tmp 69, .tmp 70]) rfl ?_); at_builtin; refine Kd.R_append_rows Kd.string (w0 := w3) B rfl (.tmp 69) (.tmp 70) 22 9 (.string ⟨#[]⟩) 16 rfl Try.underlying22 info9 rfl (by decide) (by omega) (.slice Ab bad.length cb) bad l A l.length c (fun k => More S w3 k) (fun _ => False) rfl rfl ?aO ?aR (fun _ _ h => h) (fun _ h => h.elim) ?aF ?aB ?aS ?aL ?_; (case aR => exact HC4.out); (case aB => exact Below.refl _ _); (case aF => exact PlanV.fresh2); (case aO => exact HV3.out.in2); (case aS => exact HBB.out); (case aL => have h1_ := HL1.out; have h2_ := HL4.out; omega); intro v4 w4 ho4 hb4 hg4 hat4; obtain ⟨A4, n4, c4, ev4⟩ := slice_open ho4; subst ev4; have HP4 := Aside0.mk (HV3.out.put2 ho4 hg4 hat4 hb4); have hk4 := blk_grown HV3.out.1 hg4 (Kd.R_ne HV3.out.2.2.2.2.2 HV3.out.1 (by decide)); have hc5 : w4.cell? ⟨g, 2, none⟩ = some (.slice Ab bad.length cb) := (blk_cell hk4 2).trans rfl; have hf5 := blk_frozen hk4 2; clear ho4 hb4 hg4 hat4 hk4 hc4 hf4)
  all_goals go_ret
  all_goals exact ⟨rfl, _, HP4.out.1.s, HT3.out.trans HP4.out.2⟩
theorem lit_row2 (W : World) (v u : Value) (l m : List ByteArray) (base : Nat) (okp : Nat → Prop) (h : Kd.R Kd.string 9 W base okp v l) (h2 : Kd.R Kd.string 9 W base okp u m) :
    ReadsRow (fun x cs => (Kd.slice 9 Kd.string).M (W.alloc (.cells #[v, u] 22)) base okp x cs) 1 (W.alloc (.cells #[v, u] 22)) (some ⟨W.heap.size, 0, none⟩) 2 [l, m] := by
  refine ⟨rfl, by omega, fun _ => ⟨_, rfl, fun j p hj => ?_⟩⟩
  rcases j with _ | _ | j
  · obtain rfl : l = p := by simpa using hj
    refine ⟨[v], rfl, ⟨v, rfl, Kd.R_alloc h _⟩, fun i z hu => ?_⟩
    cases i with
    | zero =>
      obtain rfl : v = z := by simpa using hu
      exact (blk_cell (heap_alloc_new W _) 0).trans rfl
    | succ i => simp at hu
  · obtain rfl : m = p := by simpa using hj
    refine ⟨[u], rfl, ⟨u, rfl, Kd.R_alloc h2 _⟩, fun i z hu => ?_⟩
    cases i with
    | zero =>
      obtain rfl : u = z := by simpa using hu
      exact (blk_cell (heap_alloc_new W _) 1).trans rfl
    | succ i => simp at hu
  · simp at hj
theorem split_f (l : List ByteArray) (h : l.length ≤ 1000000) : halves_Split.f l = some (l.take ((l.length + 1) / 2), l.drop ((l.length + 1) / 2)) := by
  have e : wrap64 (Int.tdiv (wrap64 ((l.length : Int) + 1)) 2) = (((l.length + 1) / 2 : Nat) : Int) := by
    have e1 : wrap64 ((l.length : Int) + 1) = ((l.length + 1 : Nat) : Int) := by unfold wrap64; omega
    rw [e1, show (2 : Int) = ((2 : Nat) : Int) from rfl, ← Int.ofNat_tdiv]
    unfold wrap64; omega
  unfold halves_Split.f
  rw [e, if_pos (by omega), if_pos (by omega), Int.toNat_natCast]
  have c1 : slices_Clone_string_string.f (l.take ((l.length + 1) / 2)) = some (l.take ((l.length + 1) / 2)) := if_pos (by rw [List.length_take]; omega)
  have c2 : slices_Clone_string_string.f (l.drop ((l.length + 1) / 2)) = some (l.drop ((l.length + 1) / 2)) := if_pos (by rw [List.length_drop]; omega)
  rw [c1, c2]; rfl
set_option maxHeartbeats 16000000 in
set_option maxRecDepth 100000 in
theorem tell_split (g B : Nat) (S : Nat → Prop) (p : Pl) (w : World) (hP : PlanP w B g S p) (h0 : 2 ≤ (nextL p.rest).length) (hlim : (nextL p.rest).length ≤ 1000000 ∧ p.rest.length ≤ 1000000 ∧ p.good.length ≤ 1000000 ∧ p.bad.length ≤ 1000000) :
    Calls Try.prog 15 #[.pointer (some ⟨g, 0, none⟩), .bool false] w fun e w' => e = .returned (.int .i64 0) ∧ ∃ S' : Nat → Prop, PlanP w' B g S' ⟨p.rest.dropLast ++ [(nextL p.rest).drop (((nextL p.rest).length + 1) / 2), (nextL p.rest).take (((nextL p.rest).length + 1) / 2)], p.good, p.bad, wrap64 (p.tries + 1)⟩ ∧ Told w w' B S S' := by
  have hu49 := Try.underlying49
  obtain ⟨rest, good, bad, tries⟩ := p
  obtain ⟨q, l, hql⟩ : ∃ q l, rest = q ++ [l] := by
    rcases List.eq_nil_or_concat rest with rfl | ⟨q, l, h⟩
    · exact absurd h0 (by simp [nextL])
    · exact ⟨q, l, by rw [h, List.concat_eq_append]⟩
  subst hql
  have hP1 := hP
  obtain ⟨vr, vg, vb, hV⟩ := hP.v
  obtain ⟨ad, cr, ev1⟩ := Kd.R_slice1 hV.2.2.2.1 (by simp)
  obtain ⟨Ag, cg, ev2⟩ := Kd.R_slice hV.2.2.2.2.1
  obtain ⟨Ab, cb, ev3⟩ := Kd.R_slice hV.2.2.2.2.2
  subst ev1; subst ev2; subst ev3
  simp only [nextL_snoc, List.dropLast_concat] at h0 hlim ⊢
  obtain ⟨hl1, hl2, hl3, hl4⟩ := hlim
  simp only [List.length_append, List.length_singleton] at hl2 hl3 hl4
  have hn : (q ++ [l]).length = q.length + 1 := by simp
  have hle := (Kd.R_reads' hV.2.2.2.1).2.1
  rw [hn] at hle hV
  obtain ⟨i0, hi0, _, hsz, _⟩ := info_parts info22
  have hcut := cut_to (P := Try.prog) 29 22 .i64 Try.underlying29 hi0 (some ad) (q.length + 1) cr (q.length : Int) (by omega) (by omega) hle
  rw [Int.toNat_natCast] at hcut
  have w1_ : wrap64 (q.length : Int) = (q.length : Int) := by unfold wrap64; omega
  have w5_ : IntKind.i64.wrap (q.length : Int) = (q.length : Int) := (i64_w _).trans w1_
  have hcut2 : ∀ W : World, (Instr.slice 29 (.slice (some ad) (q.length + 1) cr) none (some (.int .i64 (IntKind.i64.wrap (q.length : Int)))) none).run Try.prog W = .ok (.slice (some ad) q.length cr) W := fun W => (congrArg (fun j => (Instr.slice 29 (.slice (some ad) (q.length + 1) cr) none (some (.int .i64 j)) none).run Try.prog W) w5_).trans (hcut W)
  have h1' := Kd.R_take (m := q.length) hV.2.2.2.1 (by simp)
  rw [List.take_left' (by rfl)] at h1'
  have H0 := Aside0.mk h0
  have hpos : 0 < l.length := by omega
  clear h0
  have HP := Aside0.mk hP1
  have HV := Aside0.mk hV
  have H1 := Aside0.mk h1'
  have HL := Aside0.mk (show l.length < 8796093022208 by omega)
  have HL1 := Aside0.mk hl1
  have HL2 := Aside0.mk (show q.length ≤ 1000000 by omega)
  have HL3 := Aside0.mk hl3
  have HL4 := Aside0.mk hl4
  clear hP hP1 hV h1' hi0 hsz hle hn hl1 hl2 hl3 hl4
  go_enter Try.func15, Try.ntmps15
  go_upto_region 4 with (go_at_call 13; refine (next_calls g B S (q ++ [l]) good bad tries _ HP.out (by rw [nextL_snoc]; exact HL.out)).mono ?_; rintro e w1 ⟨v, rfl, hR, hb⟩; rw [nextL_snoc] at hR; obtain ⟨A, c, ev⟩ := Kd.R_slice hR; subst ev; have HB := Aside0.mk hb; have HO := Aside0.mk hR; clear hR hb)
  have HV1 := Aside0.mk (HV.out.below HB.out)
  have H11 := Aside0.mk (Kd.R_below H1.out HB.out)
  have HT1 := Aside0.mk (Told.of_below (S := S) HB.out HP.out.base)
  have hc0 : w1.cell? ⟨g, 0, none⟩ = some (.slice (some ad) (q.length + 1) cr) := (blk_cell HV1.out.1 0).trans rfl
  have hf0 := blk_frozen HV1.out.1 0
  have mixed : Try.prog.follows Departure.mixedOrders = true := by kernel_rfl
  go_region_law_o (fail)
  all_goals clear hcut hcut2 w1_ w5_ mixed hc0 hf0 hpos
  all_goals have h1b : (((l.length : Nat) : Int) == 1) = false := by have h0_ := H0.out; rw [beq_eq_false_iff_ne]; omega
  all_goals have HV2 := Aside0.mk (HV1.out.set0 H11.out).drew
  all_goals have HT2 := Aside0.mk ((HT1.out.trans (HV1.out.told 0 (.slice (some ad) q.length cr))).drew)
  all_goals have HO2 := Aside0.mk (Kd.R_drew (Kd.R_set HO.out HV1.out.1 (by decide) 0 (.slice (some ad) q.length cr)))
  all_goals generalize (w1.setCell ⟨g, 0, none⟩ (.slice (some ad) q.length cr)).drew = w2 at HV2 HT2 HO2 ⊢
  all_goals have hc3 : w2.cell? ⟨g, 3, none⟩ = some (.int .i64 tries) := (blk_cell HV2.out.1 3).trans rfl
  all_goals have hf3 := blk_frozen HV2.out.1 3
  all_goals clear HV1 H11 HT1 HO H1 HV HP HB
  all_goals go_upto_region 6 with fail
  all_goals have HV3 := Aside0.mk (HV2.out.set3 (wrap64 (tries + 1)))
  all_goals have HT3 := Aside0.mk (HT2.out.trans (HV2.out.told 3 (.int .i64 (wrap64 (tries + 1)))))
  all_goals have HO3 := Aside0.mk (Kd.R_set HO2.out HV2.out.1 (by decide) 3 (.int .i64 (wrap64 (tries + 1))))
  all_goals clear hc3 hf3
  all_goals generalize (w2.setCell ⟨g, 3, none⟩ (.int .i64 (wrap64 (tries + 1)))) = w3 at HV3 HT3 HO3 ⊢
  all_goals clear HV2 HT2 HO2
  all_goals have HC4 := Aside0.mk (Kd.R_reads' HO3.out).2
  all_goals have HBB := Aside0.mk (show B ≤ w3.heap.size from Nat.le_of_lt (Nat.lt_of_le_of_lt HV3.out.gB.1 HV3.out.gB.2))
  all_goals have HF := Aside0.mk (split_f l HL1.out)
  all_goals go_upto_region 7 with (go_at_call 20; refine (halves_Split.calls A c l _ _ _ HC4.out.2 HC4.out.1 HF.out).mono ?_; rintro e w4 ⟨va, vb_, rfl, hra, hrb, hb4⟩; have HV4 := Aside0.mk (HV3.out.below hb4); have HB4 := Aside0.mk hb4; obtain ⟨Aa, na, ca, eva⟩ := slice_open hra; obtain ⟨Al, nb, cl, evb⟩ := slice_open hrb; subst eva; subst evb; have HRa := Aside0.mk hra; have HRb := Aside0.mk hrb; clear hra hrb hb4)
  all_goals have hc4 : w4.cell? ⟨g, 0, none⟩ = some (.slice (some ad) q.length cr) := (blk_cell HV4.out.1 0).trans rfl
  all_goals have hf4 := blk_frozen HV4.out.1 0
  all_goals have HV5 := Aside0.mk (show PlanV (w4.alloc (.cells #[.slice Al nb cl, .slice Aa na ca] 22)) B g (fun k => S k ∨ (w3.heap.size ≤ k ∧ k < w4.heap.size)) (.slice (some ad) q.length cr) (.slice Ag good.length cg) (.slice Ab bad.length cb) q good bad (wrap64 (tries + 1)) from
    (HV4.out.below (below_alloc (Below.refl _ _) _)).mono (fun k h => .inl h) (fun k h => by
      have hz : (w4.alloc (.cells #[.slice Al nb cl, .slice Aa na ca] 22)).heap.size = w4.heap.size + 1 := World.size_alloc _ _
      rw [hz]
      have hB := HBB.out
      rcases h with h | h
      · have := HV4.out.2.1 k h; omega
      · omega))
  all_goals have HT5 := Aside0.mk (show Told w3 (w4.alloc (.cells #[.slice Al nb cl, .slice Aa na ca] 22)) B S (fun k => S k ∨ (w3.heap.size ≤ k ∧ k < w4.heap.size)) from
    ⟨Kept.of_below (below_alloc HB4.out _) _, fun k h => h.elim .inl (fun h => .inr h.1), (below_alloc HB4.out _).mono HBB.out⟩)
  all_goals have HLT := Aside0.mk (show ReadsRow (fun x cs => (Kd.slice 9 Kd.string).M (w4.alloc (.cells #[.slice Al nb cl, .slice Aa na ca] 22)) B (fun k => w3.heap.size ≤ k ∧ k < w4.heap.size) x cs) 1 (w4.alloc (.cells #[.slice Al nb cl, .slice Aa na ca] 22)) (some ⟨w4.heap.size, 0, none⟩) 2 [l.drop ((l.length + 1) / 2), l.take ((l.length + 1) / 2)] from
    lit_row2 w4 _ _ _ _ B _ (Kd.R_lower (Kd.R_mono (Kd.R_bound HRb.out) (fun k h => ⟨h.2.1, h.2.2.1⟩)) HBB.out) (Kd.R_lower (Kd.R_mono (Kd.R_bound HRa.out) (fun k h => ⟨h.2.1, h.2.2.1⟩)) HBB.out))
  all_goals have HOK := Aside0.mk (show ∀ k, (w3.heap.size ≤ k ∧ k < w4.heap.size) → (More (fun k => S k ∨ (w3.heap.size ≤ k ∧ k < w4.heap.size)) (w4.alloc (.cells #[.slice Al nb cl, .slice Aa na ca] 22)) k ∧ some k ≠ (Value.slice Ag good.length cg).ownBlock ∧ some k ≠ (Value.slice Ab bad.length cb).ownBlock) ∧ some k ≠ (Value.slice (some ad) q.length cr).ownBlock from
    fun k h => ⟨⟨.inl (.inr h), (HV3.out.fresh0 k h.1).2⟩, fun e => by have := (HV3.out.2.1 k (HV3.out.2.2.2.1.1 k e.symm).1).2; omega⟩)
  all_goals go_wp2_with ((with_reducible refine gate_builtin (b := .append) (xs := #[.tmp 43, .tmp 46]) rfl ?_); at_builtin; refine Kd.R_append_rows (Kd.slice 9 Kd.string) (w0 := w4.alloc (.cells #[.slice Al nb cl, .slice Aa na ca] 22)) B rfl (.tmp 43) (.tmp 46) 29 22 (.slice none 0 0) 24 rfl Try.underlying29 info22 rfl (by decide) (by omega) (.slice (some ad) q.length cr) q [l.drop ((l.length + 1) / 2), l.take ((l.length + 1) / 2)] _ 2 2 (fun k => More (fun k => S k ∨ (w3.heap.size ≤ k ∧ k < w4.heap.size)) (w4.alloc (.cells #[.slice Al nb cl, .slice Aa na ca] 22)) k ∧ some k ≠ (Value.slice Ag good.length cg).ownBlock ∧ some k ≠ (Value.slice Ab bad.length cb).ownBlock) (fun k => w3.heap.size ≤ k ∧ k < w4.heap.size) rfl rfl ?aO ?aR (fun _ _ h => h) ?aK ?aF ?aB ?aS ?aL ?_; (case aR => exact HLT.out); (case aK => exact HOK.out); (case aB => exact Below.refl _ _); (case aF => exact HV5.out.fresh0); (case aO => exact HV5.out.in0); (case aS => exact Nat.le_of_lt (Nat.lt_of_le_of_lt HV5.out.gB.1 HV5.out.gB.2)); (case aL => have h1_ := HL2.out; omega); intro v6 w6 ho6 hb6 hg6 hat6; obtain ⟨A6, n6, c6, ev6⟩ := slice_open ho6; subst ev6; have HP6 := Aside0.mk (HV5.out.put0 ho6 hg6 hb6); have hk6 := blk_grown HV5.out.1 hg6 (Kd.R_ne HV5.out.2.2.2.1 HV5.out.1 (by decide)); have hc6 : w6.cell? ⟨g, 0, none⟩ = some (.slice (some ad) q.length cr) := (blk_cell hk6 0).trans rfl; have hf6 := blk_frozen hk6 0; clear ho6 hb6 hg6 hat6 hk6 hc4 hf4)
  all_goals go_ret
  all_goals exact ⟨rfl, _, HP6.out.1.s, HT3.out.trans (HT5.out.trans HP6.out.2)⟩
end Go.Proofs.Ytdfnpjmebnlfbaa.PAll
