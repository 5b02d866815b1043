
import Derived.Test.YtdfnpjmebnlfbaaQHalvesRunsPlan
import Derived.Maps.OwnSet
import Derived.Maps.OwnOps
import Derived.Maps.Views
import Derived.Shelf.RegionOpenPlain
namespace Go.Proofs.YtdfnpjmebnlfbaaW.PrintMore
end Go.Proofs.YtdfnpjmebnlfbaaW.PrintMore
set_option linter.unusedVariables false
set_option linter.unusedSimpArgs false
namespace Go.Proofs.Ytdfnpjmebnlfbaa.PAll
open Go Go.Proofs Go.RowKit Go.Proofs.YtdfnpjmebnlfbaaW.PrintWords Go.Proofs.YtdfnpjmebnlfbaaW.PrintLast Go.Proofs.YtdfnpjmebnlfbaaW.PrintMore Go.Maps Go.WideMaps
theorem law9 : Keyed Try.prog 9 := string_keyed Try.underlying9
theorem zero3 (w : World) : (zeroValue 3).run Try.prog w = .ok (.int .i64 0) w := by kernel_rfl
theorem nodup_take_succ (l : List ByteArray) (i : Nat) (hi : i < l.length) (h : (l.take i).Nodup) (hn : l[i] ∉ l.take i) : (l.take (i + 1)).Nodup := by
  rw [List.take_add_one, List.getElem?_eq_getElem hi]
  simp only [Option.toList]
  rw [List.nodup_append]
  refine ⟨h, by simp, ?_⟩
  intro x hx y hy e
  rw [List.mem_singleton.1 hy] at e
  exact hn (e ▸ hx)
theorem mem_take_succ (l : List ByteArray) (i : Nat) (hi : i < l.length) (x : ByteArray) : x ∈ l.take (i + 1) ↔ (x ∈ l.take i ∨ x = l[i]) := by
  rw [List.take_add_one, List.getElem?_eq_getElem hi, List.mem_append, Option.toList, List.mem_singleton]
theorem not_nodup_of (l : List ByteArray) (i : Nat) (hi : i < l.length) (hn : l[i] ∈ l.take i) : ¬ l.Nodup := by
  intro h
  rw [← List.take_append_drop i l, List.nodup_append] at h
  exact h.2.2 _ hn _ (List.mem_of_getElem? (i := 0) (by rw [List.getElem?_drop, Nat.add_zero, List.getElem?_eq_getElem hi])) rfl
def firstL (l : List ByteArray) : List (List ByteArray) := if l = [] then [] else [l]
theorem plan_new {w W : World} {g : Nat} (hb : W.heap[g]? = some (.cells #[.slice none 0 0, .slice none 0 0, .slice none 0 0, .int .i64 0] 49 (0, 0))) (hg : w.heap.size ≤ g) : PlanS W w.heap.size g (fun k => w.heap.size ≤ k ∧ k < W.heap.size) [] [] [] 0 :=
  ⟨.slice none 0 0, .slice none 0 0, .slice none 0 0, hb, fun k h => h, ⟨hg, blk_lt hb⟩, Kd.R_nil _ _ _ _ _, Kd.R_nil _ _ _ _ _, Kd.R_nil _ _ _ _ _⟩
theorem plan_first {w W : World} {g : Nat} {A : Option Addr} {c : Nat} {l : List ByteArray} (hb : W.heap[g]? = some (.cells #[.slice none 0 0, .slice none 0 0, .slice none 0 0, .int .i64 0] 49 (0, 0))) (hg : w.heap.size ≤ g)
    (ho : Kd.R (Kd.slice 9 Kd.string) 22 W w.heap.size (fun _ => True) (.slice A 1 c) [l]) : PlanS (W.setCell ⟨g, 0, none⟩ (.slice A 1 c)) w.heap.size g (fun k => w.heap.size ≤ k ∧ k < W.heap.size) [l] [] [] 0 := by
  have hsz : (W.setCell ⟨g, 0, none⟩ (.slice A 1 c)).heap.size = W.heap.size := World.size_setCell _ _ _
  refine ⟨.slice A 1 c, .slice none 0 0, .slice none 0 0, by simpa using blk_set hb 0 (.slice A 1 c), fun k h => ⟨h.1, by rw [hsz]; exact h.2⟩, ⟨hg, blk_lt hb⟩, ?_, Kd.R_nil _ _ _ _ _, Kd.R_nil _ _ _ _ _⟩
  exact Kd.R_set (Kd.R_mono (Kd.R_bound ho) (fun k h => ⟨⟨h.2.1, h.2.2.1⟩, by simp [Value.ownBlock], by simp [Value.ownBlock]⟩)) hb (by decide) 0 _
theorem lit_row (W : World) (v : Value) (l : List ByteArray) (base : Nat) (okp : Nat → Prop) (h : Kd.R Kd.string 9 W base okp v l) :
    ReadsRow (fun x cs => (Kd.slice 9 Kd.string).M (W.alloc (.cells #[v] 22)) base okp x cs) 1 (W.alloc (.cells #[v] 22)) (some ⟨W.heap.size, 0, none⟩) 1 [l] := by
  refine ⟨rfl, by omega, fun _ => ⟨_, rfl, fun j p hj => ⟨[v], rfl, ?_, fun i u hu => ?_⟩⟩⟩
  · cases j with
    | zero => obtain rfl : l = p := by simpa using hj
              exact ⟨v, rfl, Kd.R_alloc h _⟩
    | succ j => simp at hj
  · cases j with
    | zero =>
      cases i with
      | zero =>
        obtain rfl : v = u := by simpa using hu
        exact (blk_cell (heap_alloc_new W _) 0).trans rfl
      | succ i => simp at hu
    | succ j => simp at hj
def Seen (l : List ByteArray) (i : Nat) (D : DataW Unit) : Prop := IsMap D ∧ ∀ s : ByteArray, (Maps.has D (.string s.data.toList) = true ↔ s ∈ l.take i)
theorem bytes_inj {a b : ByteArray} (h : a.data.toList = b.data.toList) : a = b := by
  cases a; cases b
  simp only [ByteArray.mk.injEq]
  exact Array.toList_inj.1 h
theorem seen_put {l : List ByteArray} {i : Nat} {D : DataW Unit} {s : ByteArray} (d : DataW Unit) (h : Seen l i D) (hs : ∀ x : ByteArray, x ∈ l.take (i + 1) ↔ (x ∈ l.take i ∨ x = s)) : Seen l (i + 1) (D.put (.string s.data.toList) d) := by
  refine ⟨h.1.put _ _, fun x => ?_⟩
  by_cases e : x = s
  · subst e
    exact ⟨fun _ => (hs x).2 (.inr rfl), fun _ => has_put_same (k := .string x.data.toList) h.1 trivial d⟩
  · rw [has_put_other (fun e2 => e (bytes_inj (by injection e2))) d, h.2 x, hs x]
    exact ⟨.inl, fun q => q.resolve_right e⟩
set_option maxHeartbeats 8000000 in
set_option maxRecDepth 100000 in
theorem new_calls (A0 : Option Addr) (c0 : Nat) (l : List ByteArray) (w : World) (hr0 : Kd.C Kd.string w A0 l.length l) (hc0 : l.length ≤ c0) (hl : l.length < 8796093022208) (hs : ∀ s ∈ l, s.size ≤ maxLen) :
    Calls Try.prog 11 #[.slice A0 l.length c0] w fun e w' => Below w.heap.size w w' ∧ (l.Nodup ∧ (∃ g S, e = .returned (.tuple #[.pointer (some ⟨g, 0, none⟩), .int .i64 0]) ∧ PlanS w' w.heap.size g S (firstL l) [] [] 0)
      ∨ ¬ l.Nodup ∧ e = .returned (.tuple #[.pointer none, .int .i64 121])) := by
  have hu49 := Try.underlying49
  have hmm := @run_makeMap Try.prog
  have HR0 := Aside0.mk hr0
  have HC0 := Aside0.mk hc0
  have HL := Aside0.mk hl
  have HS := Aside0.mk hs
  clear hr0 hc0 hl hs
  have HB := Aside0.mk (Below.refl w.heap.size w)
  go_enter Try.func11, Try.ntmps11
  go_wp2
  repeat (go_quiet (fail); try go_wp2)
  go_loopg [13] l.length (fun kq v13 w' => ∃ (i : Nat) (D : DataW Unit), v13 = .int .i64 (i : Int) ∧ Aside0 (kq + i = l.length) ∧ Aside0 ((l.take i).Nodup) ∧ Aside0 (Seen l i D) ∧ Aside0 (w'.ownsMap Try.prog 9 (plainElem Try.prog 3) w.heap.size i D) ∧ Aside0 (Below w.heap.size w w'))
  case atStart =>
    exact ⟨0, .map [], rfl, ⟨by omega⟩, ⟨by simp⟩, ⟨isMap_empty, fun s => by simp [Maps.has]⟩, ⟨World.ownsMap_made _ _ _ _⟩, ⟨below_alloc (Below.refl _ _) _⟩⟩
  case round =>
    obtain ⟨i, D, rfl, HK, HN, HD, HM, HB⟩ := hrel
    by_cases c : i < l.length
    · obtain ⟨ad, cs, hA, _, hKs, hcell⟩ := Kd.C_get (Kd.C_below HR0.out HB.out) ByteArray.empty (i : Int) (by omega) (by omega)
      subst hA
      have hin := hcell 0 (.string l[i]) (by rw [show cs = _ from hKs]; simp [List.getD_eq_getElem?_getD, List.getElem?_eq_getElem c])
      rw [show Kd.string.sz = 1 from rfl] at hin
      simp only [Int.toNat_natCast, Nat.mul_one, Nat.add_zero] at hin
      clear hcell hKs
      have hsz := HS.out l[i] (List.getElem_mem c)
      have HI := Aside0.mk (nodup_take_succ l i c HN.out)
      have HI2 := Aside0.mk (not_nodup_of l i c)
      have HD2 := HD.out.2 l[i]
      have HSN := Aside0.mk (show ∀ x : ByteArray, x ∈ l.take (i + 1) ↔ (x ∈ l.take i ∨ x = l[i]) from fun x => mem_take_succ l i c x)
      obtain ⟨s, hs⟩ : ∃ s, s = l[i] := ⟨_, rfl⟩
      rw [← hs] at hin hsz HI HI2 HD2 HSN
      clear hs
      have hkey := keyOf_string_mk Try.underlying9 hsz
      have c0' : decide ((i : Int) < (l.length : Int)) = true := decide_eq_true (by omega)
      have p0 : (0 : Int) ≤ (i : Int) := by omega
      have q0 : (i : Int) < (l.length : Int) := by omega
      have w0 : wrap64 ((i : Int) + 1) = (i : Int) + 1 := by have := HL.out; unfold wrap64; omega
      have wf0 : (Lit.int .i64 (i : Int)).wf = true := WalkArith.wf_i64 (by have := HL.out; omega)
      by_cases hh : s ∈ l.take i
      · have hhas : Maps.has D (.string s.data.toList) = true := HD2.2 hh
        clear HD2
        go_wp2_with (first | (at_lookup; refine wpList_lookup_own_ok_int _ rfl _ _ 46 rfl 9 3 .i64 law9 Try.underlying46 Try.underlying3 (zero3 _) w.heap.size i D rfl HM.out _ (.string s.data.toList) rfl hkey ?_; intro c hat hwc; rw [hhas]))
        repeat (go_quiet (fail); try go_wp2)
        go_ret2
        exact ⟨HB.out, .inr ⟨HI2.out hh, rfl⟩⟩
      · have hhas : Maps.has D (.string s.data.toList) = false := by cases q : Maps.has D (.string s.data.toList); rfl; exact absurd (HD2.1 q) hh
        clear HD2
        go_wp2_with (first | (at_lookup; refine wpList_lookup_own_ok_int _ rfl _ _ 46 rfl 9 3 .i64 law9 Try.underlying46 Try.underlying3 (zero3 _) w.heap.size i D rfl HM.out _ (.string s.data.toList) rfl hkey ?_; intro c hat hwc; rw [hhas]) | (at_mapUpdate; refine wpList_mapUpdate_own _ rfl _ _ _ 46 rfl 9 3 law9 Try.underlying46 _ w.heap.size i D rfl HM.out (by have := HL.out; unfold maxLen; omega) _ _ _ rfl rfl hkey _ [] (plainElem_int Try.underlying3 wf0) ?_; intro w1 hown1 hgrow1; have HM1 := Aside0.mk hown1; have HG1 := Aside0.mk hgrow1; clear hown1 hgrow1))
        repeat (go_quiet (fail); try go_wp2)
        go_roundg (gk - 1)
        case measure => have := HK.out; omega
        case rel => exact ⟨i + 1, D.put (.string s.data.toList) (.lit (.int .i64 (i : Int))), (by first | rfl | (simp [*]; done)), ⟨by have := HK.out; omega⟩, ⟨HI.out hh⟩, ⟨seen_put _ HD.out HSN.out⟩, ⟨HM1.out⟩, ⟨HB.out.grown HG1.out HB.out.size (fun j hj => by cases hj; exact Nat.le_refl _)⟩⟩
    · have hil : i = l.length := by have := HK.out; omega
      subst hil
      have HN' := Aside0.mk (show l.Nodup from by have := HN.out; rwa [List.take_length] at this)
      clear HN HD HM HK c
      have c0' : decide ((l.length : Int) < (l.length : Int)) = false := decide_eq_false (by omega)
      by_cases hz : l = []
      · subst hz
        go_wp2_with ((with_reducible refine gate_dst (N := 30) rfl ?_); refine box_event ?hg (N := 30) ?hd (cs := #[.slice none 0 0, .slice none 0 0, .slice none 0 0, .int .i64 0]) (t := 49) ?hr ?_; (case hd => rfl); (case hg => rfl); (case hr => first | (go_simp; done) | (go_simp; rfl)); intro gb hg w1 hbox hb; have HB1 := Aside0.mk (below_step HB.out hb); have BK := Aside0.mk hbox; have HG := Aside0.mk hg; clear hb hbox hg)
        repeat (go_quiet (fail); try go_wp2)
        go_ret2
        exact ⟨HB1.out, .inl ⟨HN'.out, gb, fun k => w.heap.size ≤ k ∧ k < w1.heap.size, rfl, plan_new BK.out (by rw [HG.out]; exact HB.out.size)⟩⟩
      · have hp : 0 < l.length := List.length_pos_iff.2 hz
        go_wp2_with ((with_reducible refine gate_dst (N := 30) rfl ?_); refine box_event ?hg (N := 30) ?hd (cs := #[.slice none 0 0, .slice none 0 0, .slice none 0 0, .int .i64 0]) (t := 49) ?hr ?_; (case hd => rfl); (case hg => rfl); (case hr => first | (go_simp; done) | (go_simp; rfl)); intro gb hg w1 hbox hb; have HB1 := Aside0.mk (below_step HB.out hb); have BK := Aside0.mk hbox; have HG := Aside0.mk hg; clear hb hbox hg)
        repeat (go_quiet (fail); try go_wp2)
        have HRc := Aside0.mk (Kd.C_below HR0.out HB1.out)
        have HNc := Aside0.mk (show slices_Clone_string_string.f l = some l from if_pos HL.out)
        have hGB : w.heap.size ≤ gb := by rw [HG.out]; exact HB.out.size
        have HGB := Aside0.mk hGB
        clear hGB
        have hc1 : w1.cell? ⟨gb, 0, none⟩ = some (.slice none 0 0) := (blk_cell BK.out 0).trans rfl
        have mixed : Try.prog.follows Departure.mixedOrders = true := by kernel_rfl
        go_region_law_o (first
          | (refine goes_ Try.func23 (by kernel_rfl) rfl #[.slice A0 l.length c0] (by rfl) rfl rfl (by (try simp only [List.map_toArray, List.map_cons, List.map_nil]); first | done | rfl) ?_; refine (slices_Clone_string_string.calls A0 c0 l l _ (by repeat (first | exact HRc.out | (with_reducible refine Kd.C_drewN ?_ _) | (with_reducible refine Kd.C_drew ?_))) HC0.out HNc.out).mono ?_; rintro e w2 ⟨v2, rfl, hR2, hb2⟩; refine ⟨_, rfl, ?_⟩; obtain ⟨A2, c2, ev2⟩ := Kd.R_slice hR2; subst ev2; have BK2 := Aside0.mk (blk_below (blk_drew BK.out) hb2); have HO2 := Aside0.mk (Kd.R_lower hR2 HB1.out.size); have HB2 := Aside0.mk (below_step HB1.out (below_step (below_drew (Below.refl _ _)) hb2)); have hc2 : w2.cell? ⟨gb, 0, none⟩ = some (.slice none 0 0) := (blk_cell BK2.out 0).trans rfl; have hc2a : (w2.alloc (.cells #[.slice A2 l.length c2] 22)).cell? ⟨gb, 0, none⟩ = some (.slice none 0 0) := (blk_cell (blk_alloc BK2.out _) 0).trans rfl; clear hR2 hb2)
          | (refine Kd.R_append_rows_step (Kd.slice 9 Kd.string) (w0 := w) w.heap.size (by rfl) (.tmp 38) (.tmp 41) 29 22 (.slice none 0 0) 24 (by rfl) Try.underlying29 info22 rfl (by decide) (by omega) (.slice none 0 0) [] [l] _ 1 1 (fun _ => True) (fun _ => True) (by rfl) (by rfl) (Kd.R_nil _ _ _ _ _) (lit_row _ _ l w.heap.size _ HO2.out) (fun _ _ h => h) (fun _ _ => ⟨trivial, by simp [Value.ownBlock]⟩) (fun _ _ => trivial) (below_alloc HB2.out _) (below_alloc HB2.out _).size (by simp) ?_; intro v3 w3 ho3 hb3 hg3 hat3; obtain ⟨A3, c3, ev3⟩ := Kd.R_slice ho3; subst ev3; have HO3 := Aside0.mk ho3; have HB3 := Aside0.mk hb3; have BK3 := Aside0.mk (blk_grown (blk_alloc BK2.out _) hg3 (by simp [Value.ownBlock])); have hc3 : w3.cell? ⟨gb, 0, none⟩ = some (.slice none 0 0) := (blk_cell BK3.out 0).trans rfl; have hf3 := blk_frozen BK3.out 0; clear ho3 hb3 hg3 hat3))
        all_goals go_wp2
        all_goals go_ret2
        all_goals exact ⟨below_set HB3.out HGB.out, .inl ⟨HN'.out, gb, fun k => w.heap.size ≤ k ∧ k < w3.heap.size, rfl, by rw [show firstL l = [l] from if_neg hz]; exact plan_first BK3.out HGB.out HO3.out⟩⟩
end Go.Proofs.Ytdfnpjmebnlfbaa.PAll
