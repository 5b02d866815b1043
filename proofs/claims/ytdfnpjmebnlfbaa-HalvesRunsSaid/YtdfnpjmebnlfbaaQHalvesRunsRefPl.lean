
import Derived.Test.YtdfnpjmebnlfbaaQHalvesRunsRefTell
import Derived.Test.YtdfnpjmebnlfbaaQHalvesRunsPlanLaw
import Derived.Test.YtdfnpjmebnlfbaaQHalvesRunsPAllx3
namespace Go.Proofs.YtdfnpjmebnlfbaaW.PrintMore
end Go.Proofs.YtdfnpjmebnlfbaaW.PrintMore
set_option linter.unusedVariables false
set_option linter.unusedSimpArgs false
namespace Go.Proofs.Ytdfnpjmebnlfbaa.PAll
open Go Go.Proofs Go.RowKit Go.Proofs.YtdfnpjmebnlfbaaW.PrintWords Go.Proofs.YtdfnpjmebnlfbaaW.PrintLast Go.Proofs.YtdfnpjmebnlfbaaW.PrintMore
abbrev NewR : Type := List (List ByteArray) × List ByteArray × List ByteArray × Int × Int
def newR (l : List ByteArray) : NewR := if l.Nodup then (firstL l, [], [], 0, 0) else ([], [], [], 0, 121)
theorem new_l1 (l : List ByteArray) (i : Nat) (hi : i < l.length) (hb : l.length ≤ 1000000) (ih : (∀ j (hj : j < i), l[i] ≠ l[j]'(by omega)) → Ev (fun k => packhorseref12_New.l0 k l (l.length : Int) ((i : Int) + 1)) (newR l)) (hbad : ∀ j (hj : j < i), l[i] = l[j]'(by omega) → newR l = ([], [], [], 0, 121)) (d : Nat) :
    ∀ j : Nat, j + d = i → (∀ j' (hj : j' < j) (h2 : j' < l.length), l[i] ≠ l[j']) → Ev (fun k => packhorseref12_New.l1 k l (i : Int) (j : Int) (l.length : Int) (i : Int)) (newR l) := by
  induction d with
  | zero =>
    intro j h hj
    obtain rfl : j = i := by omega
    refine Ev.step (fun k => by rw [packhorseref12_New.l1, if_neg (by omega), w64 (by omega) (by omega)]) ?_
    exact ih (fun j' hj' => hj j' hj' (by omega))
  | succ d ihd =>
    intro j h hj
    refine Ev.step (fun k => by rw [packhorseref12_New.l1, if_pos (by omega), if_pos (by omega), if_pos (by omega), if_pos (by omega), if_pos (by omega), rd_str l i hi, rd_str l j (by omega), w64 (by omega) (by omega)]) ?_
    by_cases c : l[i] = l[j]'(by omega)
    · refine Ev.ifp (toList_iff.2 c) ?_
      rw [hbad j (by omega) c]
      exact Ev.now _
    · refine Ev.ifn (fun e => c (toList_inj e)) ?_
      refine ihd (j + 1) (by omega) (fun j' hj' h2 => ?_)
      by_cases e : j' = j
      · subst e; exact c
      · exact hj j' (by omega) h2
theorem new_l0 (l : List ByteArray) (hb : l.length ≤ 1000000) (d : Nat) : ∀ i : Nat, i + d = l.length → (l.take i).Nodup → Ev (fun k => packhorseref12_New.l0 k l (l.length : Int) (i : Int)) (newR l) := by
  induction d with
  | zero =>
    intro i h hn
    rw [List.take_of_length_le (by omega)] at hn
    by_cases c : l = []
    · subst c
      refine Ev.step (f := fun _ => some (newR [])) (fun k => ?_) (Ev.now _)
      rw [packhorseref12_New.l0, if_neg (by simp), if_pos (by simp)]
      rfl
    · have hp := List.length_pos_iff.2 c
      refine Ev.step (f := fun _ => some (newR l)) (fun k => ?_) (Ev.now _)
      rw [packhorseref12_New.l0, if_neg (by omega), if_neg (by omega)]
      show (if ([] : List ByteArray).length + l.length < 8796093022208 then _ else _) = _
      rw [if_pos (by simp; omega), newR, if_pos hn, firstL, if_neg c, List.nil_append]
  | succ d ih =>
    intro i h hn
    have hi : i < l.length := by omega
    refine Ev.step (fun k => by rw [packhorseref12_New.l0, if_pos (by omega)]) ?_
    refine new_l1 l i hi hb (fun hne => ?_) (fun j hj e => ?_) i 0 (by omega) (fun j' hj _ => by omega)
    · have h2 := ih (i + 1) (by omega) (nodup_take_succ l i hi hn (fun hm => by
        obtain ⟨j, hj, e⟩ := List.mem_iff_getElem.1 hm
        rw [List.length_take] at hj
        rw [List.getElem_take] at e
        exact hne j (by omega) e.symm))
      simpa using h2
    · rw [newR, if_neg]
      exact not_nodup_of l i hi (by rw [e]; exact List.mem_iff_getElem.2 ⟨j, by rw [List.length_take]; omega, by rw [List.getElem_take]⟩)
theorem new_eq (l : List ByteArray) (hb : l.length ≤ 1000000) : Ev (fun k => packhorseref12_New.f k l) (newR l) := by
  have h := new_l0 l hb l.length 0 (by omega) (by simp)
  simpa [packhorseref12_New.f] using h
theorem rnew_calls (A0 : Option Addr) (c0 : Nat) (l : List ByteArray) (w : World) (hr0 : Kd.C Kd.string w A0 l.length l) (hc0 : l.length ≤ c0) (hb : l.length ≤ 1000000) :
    Calls Try.prog 12 #[.slice A0 l.length c0] w fun e w' => ∃ vr vg vb : Value, e = .returned (.tuple #[.agg #[vr, vg, vb, .int .i64 0], .int .i64 (if l.Nodup then 0 else 121)]) ∧ RefV w' (fun k => w.heap.size ≤ k) vr vg vb (if l.Nodup then firstL l else []) [] [] ∧ Below w.heap.size w w' := by
  obtain ⟨k, hk⟩ := (new_eq l hb).rounds
  have h4 : ∃ r4 r5, newR l = ((if l.Nodup then firstL l else []), [], [], r4, r5) ∧ r4 = 0 ∧ r5 = (if l.Nodup then 0 else 121) := by
    unfold newR
    by_cases c : l.Nodup
    · rw [if_pos c, if_pos c]; exact ⟨_, _, rfl, rfl, by rw [if_pos c]⟩
    · rw [if_neg c, if_neg c]; exact ⟨_, _, rfl, rfl, by rw [if_neg c]⟩
  obtain ⟨r4, r5, he, rfl, hr5⟩ := h4
  rw [he] at hk
  refine (packhorseref12_New.calls k A0 c0 l _ _ _ _ _ w hr0 hc0 hk).mono ?_
  rintro e w' ⟨v0, v1, v2, rfl, h0, h1, h2, hB⟩
  refine ⟨v0, v1, v2, by rw [hr5], ⟨Kd.V_mono (Kd.N_V h0) (fun _ hk => hk.1), Kd.V_mono (Kd.R_V h1) (fun _ hk => hk.1), Kd.V_mono (Kd.R_V h2) (fun _ hk => hk.1)⟩, hB⟩
set_option maxHeartbeats 16000000 in
set_option maxRecDepth 100000 in
theorem rtell_none (ok : Nat → Prop) (vr vg vb : Value) (good bad : List ByteArray) (tries : Int) (b : Bool) (w : World) (hP : RefV w ok vr vg vb [] good bad) :
    Calls Try.prog 16 #[.agg #[vr, vg, vb, .int .i64 tries], .bool b] w fun e w' => ∃ vr' vg' vb' : Value, e = .returned (.tuple #[.agg #[vr', vg', vb', .int .i64 tries], .int .i64 121]) ∧ Below w.heap.size w w' ∧ RefV w' (fun k => ok k ∨ w.heap.size ≤ k) vr' vg' vb' [] good bad := by
  have hu31 := Try.underlying31
  obtain ⟨hR, hG, hB⟩ := hP
  obtain ⟨Ar, cr, hvr, hcr, hFr⟩ := hR
  subst hvr
  obtain ⟨Ag, cg, hvg, hcg, hFg⟩ := hG
  subst hvg
  obtain ⟨Ab, cb, hvb, hcb, hFb⟩ := hB
  subst hvb
  have HFr := Aside0.mk (show Kd.V (Kd.slice 9 Kd.string) 22 w 0 ok (.slice Ar 0 cr) [] from ⟨Ar, cr, rfl, hcr, hFr⟩)
  have HFg := Aside0.mk (show Kd.V Kd.string 9 w 0 ok (.slice Ag good.length cg) good from ⟨Ag, cg, rfl, hcg, hFg⟩)
  have HFb := Aside0.mk (show Kd.V Kd.string 9 w 0 ok (.slice Ab bad.length cb) bad from ⟨Ab, cb, rfl, hcb, hFb⟩)
  have HB := Aside0.mk (Below.refl w.heap.size w)
  clear hFr hFg hFb hcr hcg hcb
  simp only [List.length_nil]
  go_enter Try.func16, Try.ntmps16
  go_upto_region 2 with (first
    | ((with_reducible refine gate_dst (N := 2) rfl ?_); refine box_event ?hg (N := 2) ?hd (cs := #[.slice Ar 0 cr, .slice Ag good.length cg, .slice Ab bad.length cb, .int .i64 tries]) (t := 31) ?hr ?_; (case hd => rfl); (case hg => rfl); (case hr => first | (go_simp; done) | (go_simp; rfl)); intro gp hgp w1 hbx hb; have BP := Aside0.mk hbx; have HB1 := Aside0.mk (below_step HB.out hb); obtain ⟨hc0, hc1, hc2, hc3⟩ := (cells31 hbx); clear hbx hb hgp)
    | ((with_reducible refine gate_dst (N := 4) rfl ?_); refine box_event ?hg (N := 4) ?hd (cs := #[.slice none 0 0, .slice none 0 0, .slice none 0 0, .int .i64 0]) (t := 31) ?hr ?_; (case hd => rfl); (case hg => rfl); (case hr => first | (go_simp; done) | (go_simp; rfl)); intro gr hgr w2 hbx hb; have BR := Aside0.mk hbx; have BP2 := Aside0.mk (blk_below BP.out hb); have HB2 := Aside0.mk (below_step HB1.out hb); have HGR := Aside0.mk (show w.heap.size ≤ gr by rw [hgr]; exact HB1.out.size); obtain ⟨hd0, hd1, hd2, hd3⟩ := cells31 BP2.out; clear hbx hb hgr))
  clear hc0 hc1 hc2 hc3
  obtain ⟨hr0, hr1, hr2, hr3⟩ := cells31 BR.out
  have hf0 := blk_frozen BR.out 0
  have hf1 := blk_frozen BR.out 1
  have hf2 := blk_frozen BR.out 2
  have hf3 := blk_frozen BR.out 3
  go_wp2
  have lift : ∀ {α : Type} {d : Kd α} {e : Nat} {v : Value} {xs : List α}, Kd.V d e w 0 ok v xs → Kd.V d e w2 0 (fun k => (ok k ∨ w.heap.size ≤ k) ∧ k ≠ gr) v xs := fun hv => Kd.V_mono (Kd.V_below (Kd.V_bound hv) HB2.out) (fun k hk => ⟨.inl hk.1, by have := hk.2; have := HGR.out; omega⟩)
  have HE := rtell_end (t := tries) (ok := ok) BR.out HGR.out HB2.out ⟨lift HFr.out, lift HFg.out, lift HFb.out⟩
  refine bodyPost_ret (results_ct rfl _ _ gr 31 #[.slice Ar 0 cr, .slice Ag good.length cg, .slice Ab bad.length cb, .int .i64 tries] (0, 0) _ rfl HE.1 Try.underlying31 rfl (by kernel_rfl)) rfl ?_
  exact ⟨_, _, _, rfl, HE.2.1, HE.2.2⟩
theorem rtell_pl (ok : Nat → Prop) (vr vg vb : Value) (p : Pl) (b : Bool) (w : World) (hP : RefV w ok vr vg vb p.rest.reverse p.good p.bad) (hlim : (nextL p.rest).length ≤ 1000000 ∧ p.rest.length ≤ 1000000 ∧ p.good.length ≤ 1000000 ∧ p.bad.length ≤ 1000000) (hpos : p.rest ≠ [] → 0 < (nextL p.rest).length) :
    Calls Try.prog 16 #[.agg #[vr, vg, vb, .int .i64 p.tries], .bool b] w fun e w' => ∃ vr' vg' vb' : Value, e = .returned (.tuple #[.agg #[vr', vg', vb', .int .i64 (p.tell b).1.tries], .int .i64 (p.tell b).2]) ∧ Below w.heap.size w w' ∧
      RefV w' (fun k => ok k ∨ w.heap.size ≤ k) vr' vg' vb' (p.tell b).1.rest.reverse (p.tell b).1.good (p.tell b).1.bad := by
  obtain ⟨rest, good, bad, tries⟩ := p
  rcases List.eq_nil_or_concat rest with e | ⟨q, l, e⟩
  · subst e
    rw [show (Pl.mk [] good bad tries).tell b = (⟨[], good, bad, tries⟩, 121) from rfl]
    exact rtell_none ok vr vg vb good bad tries b w hP
  · rw [List.concat_eq_append] at e
    subst e
    have hl := hpos (by simp)
    simp only [nextL_snoc, List.length_append, List.length_singleton] at hl hlim
    have ht : (Pl.mk (q ++ [l]) good bad tries).tell b = (⟨if b = true then q else if l.length = 1 then q else q ++ [l.drop ((l.length + 1) / 2), l.take ((l.length + 1) / 2)], if b = true then good ++ l else good, if b = true then bad else if l.length = 1 then bad ++ l else bad, wrap64 (tries + 1)⟩, 0) := by
      unfold Pl.tell
      simp only [nextL_snoc, List.dropLast_concat]
      rw [if_neg (by omega)]
      cases b with
      | true => simp
      | false =>
        by_cases c : l.length = 1
        · simp [c]
        · simp [c]
    rw [ht]
    have h := rtell_calls ok vr vg vb l q.reverse good bad tries b w (by simpa using hP) (by simp; omega)
    refine h.mono ?_
    rintro e w' ⟨v0, v1, v2, rfl, hb, hR⟩
    refine ⟨v0, v1, v2, rfl, hb, ?_⟩
    have e1 : (if b = true then q else if l.length = 1 then q else q ++ [l.drop ((l.length + 1) / 2), l.take ((l.length + 1) / 2)]).reverse = (if b = true then q.reverse else if l.length = 1 then q.reverse else l.take ((l.length + 1) / 2) :: l.drop ((l.length + 1) / 2) :: q.reverse) := by
      cases b with
      | true => simp
      | false =>
        by_cases c : l.length = 1
        · simp [c]
        · simp [c]
    simp only
    rw [e1]
    exact hR
end Go.Proofs.Ytdfnpjmebnlfbaa.PAll
