import Derived.Test.YtdfnpjmebnlfbaaQHalvesFindsAlive
import Derived.Test.YtdfnpjmebnlfbaaQHalvesFindsLawsF
import Derived.Test.YtdfnpjmebnlfbaaQHalvesFindsFinds
import Derived.Test.YtdfnpjmebnlfbaaQHalvesFindsSame
import Derived.Deep.RegionWith
import Derived.Laws.Runes

namespace Go.Proofs.YtdfnpjmebnlfbaaW.PrintMore
end Go.Proofs.YtdfnpjmebnlfbaaW.PrintMore
set_option linter.unusedVariables false
set_option linter.unusedSimpArgs false
namespace Go.Proofs.Ytdfnpjmebnlfbaa.PAll
open Go Go.Proofs Go.RowKit Go.Proofs.YtdfnpjmebnlfbaaW.PrintWords Go.Proofs.YtdfnpjmebnlfbaaW.PrintLast Go.Proofs.YtdfnpjmebnlfbaaW.PrintMore
theorem lit_strF (W : World) (s : ByteArray) : Kd.C Kd.string (W.alloc (.cells #[.string s] 9)) (some ⟨W.heap.size, 0, none⟩) 1 [s] := by
  refine ⟨rfl, by omega, fun _ => ⟨_, rfl, fun j p hj => ?_⟩⟩
  rcases j with _ | j
  · obtain rfl : s = p := by simpa using hj
    refine ⟨[.string s], rfl, rfl, fun i z hu => ?_⟩
    cases i with
    | zero =>
      obtain rfl : Value.string s = z := by simpa using hu
      exact (blk_cell (heap_alloc_new W _) 0).trans rfl
    | succ i => simp at hu
  · simp at hj
theorem meas1 {gk k a : Nat} (h : gk + k = a) (hk : k < a) : a - k - 1 < gk := by omega
theorem meas2 {gk k a : Nat} (h : gk + k = a) (hk : k < a) : a - k - 1 + (k + 1) = a := by omega
set_option maxHeartbeats 16000000 in
set_option maxRecDepth 100000 in
theorem packhorselaw12_HalvesFinds.calls (a0 : Int) (A1 : Option Addr) (c1 : Nat) (l1 : List Bool) (r : Bool) (w : World) (hr1 : Kd.C Kd.bool w A1 l1.length l1) (hc1 : l1.length ≤ c1) (h : packhorselaw12_HalvesFinds.f a0 l1 = some r) (hr_ : r = true) : Calls Try.prog 9 #[.int .i64 a0, .slice A1 l1.length c1] w fun e w' => e = .returned (.bool r) ∧ Below w.heap.size w w' := by
  subst hr_
  clear h
  have HR1 := Aside0.mk hr1
  have HC1 := Aside0.mk hc1
  clear hr1 hc1
  by_cases k1 : a0 < 1
  · have k1a : decide (a0 < 1) = true := decide_eq_true k1
    clear k1
    go_enter Try.func9, Try.ntmps9
    go_wp2_with (go_at_call 10; refine (alive_calls _).mono ?_; rintro e w1 ⟨rfl, hb⟩; have HB1 := Aside0.mk hb; clear hb)
    go_ret
    exact ⟨rfl, HB1.out⟩
  have k1a : decide (a0 < 1) = false := decide_eq_false k1
  by_cases k2 : 200 < a0
  · have k2a : decide (200 < a0) = true := decide_eq_true k2
    clear k1 k2
    go_enter Try.func9, Try.ntmps9
    go_wp2_with (go_at_call 10; refine (alive_calls _).mono ?_; rintro e w1 ⟨rfl, hb⟩; have HB1 := Aside0.mk hb; clear hb)
    go_ret
    exact ⟨rfl, HB1.out⟩
  have k2a : decide (200 < a0) = false := decide_eq_false k2
  by_cases k3 : 200 < l1.length
  · have k3a : decide ((200 : Int) < (l1.length : Int)) = true := decide_eq_true (by omega)
    have k3b : decide (200 < l1.length) = true := decide_eq_true k3
    clear k1 k2 k3
    go_enter Try.func9, Try.ntmps9
    go_wp2_with (go_at_call 10; refine (alive_calls _).mono ?_; rintro e w1 ⟨rfl, hb⟩; have HB1 := Aside0.mk hb; clear hb)
    go_ret
    exact ⟨rfl, HB1.out⟩
  have k3a : decide ((200 : Int) < (l1.length : Int)) = false := decide_eq_false (by omega)
  have k3b : decide (200 < l1.length) = false := decide_eq_false k3
  obtain ⟨m, rfl⟩ : ∃ m : Nat, a0 = (m : Int) := ⟨a0.toNat, by omega⟩
  have HM := Aside0.mk (show 1 ≤ m ∧ m ≤ 200 by omega)
  have HT := Aside0.mk (show l1.length ≤ 200 by omega)
  clear k1 k2 k3
  go_enter Try.func9, Try.ntmps9
  go_upto_region 6 with (first
    | (go_at_call 10; refine (alive_calls _).mono ?_; rintro e w1 ⟨rfl, hb⟩; have HB1 := Aside0.mk hb; clear hb)
    | ((with_reducible refine gate_dst (N := 31) rfl ?_); refine Kd.R_lit Kd.string (w0 := w1) w1.heap.size 9 ?hg (N := 31) ?hd (xs := ([] : List ByteArray)) (inner := []) (ok := fun _ => True) (okp := fun _ => True) ?hr ?hp (fun _ hk => hk) trivial (Below.refl _ _) (Nat.le_refl _) (by simp) ?_; (case hd => rfl); (case hg => rfl); (case hr => first | (go_simp; done) | (go_simp; rfl)); (case hp => exact (Reps.none _ _)); intro v5 w5 ho hb hg hn; have R5 := Aside0.mk ho; have B5 := Aside0.mk hb; clear ho hb hg hn)
    | ((with_reducible refine gate_dst (N := 32) rfl ?_); refine Kd.R_lit Kd.string (w0 := w1) w1.heap.size 9 ?hg (N := 32) ?hd (xs := ([] : List ByteArray)) (inner := []) (ok := fun _ => True) (okp := fun _ => True) ?hr ?hp (fun _ hk => hk) trivial B5.out B5.out.size (by simp) ?_; (case hd => rfl); (case hg => rfl); (case hr => first | (go_simp; done) | (go_simp; rfl)); (case hp => exact (Reps.none _ _)); intro v6 w6 ho hb hg hn; have P65 := Aside0.mk (apart_new R5.out hn); replace R5 := Aside0.mk (Kd.R_grown R5.out hg (fun _ _ => by simp)); have R6 := Aside0.mk ho; have B6 := Aside0.mk hb; clear ho hb hg hn)
    | ((with_reducible refine gate_dst (N := 33) rfl ?_); refine Kd.R_lit Kd.string (w0 := w1) w1.heap.size 9 ?hg (N := 33) ?hd (xs := ([] : List ByteArray)) (inner := []) (ok := fun _ => True) (okp := fun _ => True) ?hr ?hp (fun _ hk => hk) trivial B6.out B6.out.size (by simp) ?_; (case hd => rfl); (case hg => rfl); (case hr => first | (go_simp; done) | (go_simp; rfl)); (case hp => exact (Reps.none _ _)); intro v7 w7 ho hb hg hn; have P75 := Aside0.mk (apart_new R5.out hn); have P76 := Aside0.mk (apart_new R6.out hn); replace R5 := Aside0.mk (Kd.R_grown R5.out hg (fun _ _ => by simp)); replace R6 := Aside0.mk (Kd.R_grown R6.out hg (fun _ _ => by simp)); have R7 := Aside0.mk ho; have B7 := Aside0.mk hb; clear ho hb hg hn))
  clear k1a k2a k3a k3b B5 B6
  go_wp2
  go_loopg [5, 6, 7, 8] m (fun kq v5 v6 v7 v8 w' => ∃ (i : Nat), v8 = .int .i64 (i : Int) ∧ Aside0 (kq + i = m) ∧ Aside0 (Kd.R Kd.string 9 w' w1.heap.size (fun _ => True) v5 (namesF i)) ∧ Aside0 (Kd.R Kd.string 9 w' w1.heap.size (fun _ => True) v6 (wrongF l1 i)) ∧ Aside0 (Kd.R Kd.string 9 w' w1.heap.size (fun _ => True) v7 (rightF l1 i)) ∧ Aside0 (Apart v6 v5) ∧ Aside0 (Apart v7 v5) ∧ Aside0 (Apart v7 v6) ∧ Aside0 (Below w1.heap.size w1 w'))
  case atStart => exact ⟨0, rfl, ⟨by omega⟩, R5, R6, R7, P65, P75, P76, B7⟩
  case round =>
    clear R5 R6 R7 P65 P75 P76 B7
    obtain ⟨i, rfl, HK, R5, R6, R7, P65, P75, P76, HB⟩ := hrel
    by_cases c : i < m
    · have c0' : decide ((i : Int) < (m : Int)) = true := decide_eq_true (by omega)
      have c0'' : decide (i < m) = true := decide_eq_true c
      have hi := HM.out
      obtain ⟨sa, hsa⟩ : ∃ s, Utf8.encode (97 + (i : Int) % 26) = s := ⟨_, rfl⟩
      obtain ⟨sb, hsb⟩ : ∃ s, Utf8.encode (97 + (i : Int) / 26) = s := ⟨_, rfl⟩
      have hz1 : sa.size = 1 := by rw [← hsa, show (i : Int) % 26 = ((i % 26 : Nat) : Int) from rfl, enc_letter _ (by omega)]; rfl
      have hz2 : sb.size = 1 := by rw [← hsb, show (i : Int) / 26 = ((i / 26 : Nat) : Int) from rfl, enc_letter _ (by omega)]; rfl
      have hszA : (9223372036854775807 < (⟨#[110]⟩ : ByteArray).size + sb.size) = False := eq_false (by rw [hz2]; decide)
      have hszB : (9223372036854775807 < 1 + sb.size) = False := eq_false (by rw [hz2]; decide)
      obtain ⟨s1, hs1⟩ : ∃ s, (⟨#[110]⟩ : ByteArray) ++ sb = s := ⟨_, rfl⟩
      have hz3 : s1.size = 2 := by rw [← hs1, ByteArray.size_append, hz2]; rfl
      have hszC : (9223372036854775807 < s1.size + sa.size) = False := eq_false (by rw [hz3, hz1]; decide)
      obtain ⟨s0, hs0⟩ : ∃ s, s1 ++ sa = s := ⟨_, rfl⟩
      have HSS := Aside0.mk (show s0 = nmF i by rw [← hs0, ← hs1, ← hsa, ← hsb]; rfl)
      clear hz1 hz2 hz3
      have w2a : wrap64 ((i : Int) / 26) = (i : Int) / 26 := by unfold wrap64; omega
      have w2b : wrap64 (97 + (i : Int) / 26) = 97 + (i : Int) / 26 := by unfold wrap64; omega
      have w2c : wrap32 (97 + (i : Int) / 26) = 97 + (i : Int) / 26 := by unfold wrap32; omega
      have w2d : wrap64 ((i : Int) + 1) = (i : Int) + 1 := by unfold wrap64; omega
      have HL5 := Aside0.mk (show (namesF i).length ≤ 200 by rw [namesF_length]; omega)
      have HL6 := Aside0.mk (show (wrongF l1 i).length ≤ 200 from Nat.le_trans (wrongF_le l1 i) (by omega))
      have HL7 := Aside0.mk (show (rightF l1 i).length ≤ 200 from Nat.le_trans (rightF_le l1 i) (by omega))
      clear hi
      obtain ⟨A5, n5, c5, ev⟩ := slice_open R5.out
      subst ev
      obtain ⟨A6, n6, c6, ev⟩ := slice_open R6.out
      subst ev
      obtain ⟨A7, n7, c7, ev⟩ := slice_open R7.out
      subst ev
      by_cases ci : i < l1.length
      · have e0 : decide ((i : Int) < (l1.length : Int)) = true := decide_eq_true (by omega)
        have e1 : decide (i < l1.length) = true := decide_eq_true ci
        have p0 : (0 : Int) ≤ (i : Int) := by omega
        have q0 : (i : Int) < (l1.length : Int) := by omega
        obtain ⟨ad, cs, hA, _, hKs, hcell⟩ := Kd.C_get (Kd.C_below HR1.out HB1.out) false (i : Int) p0 q0
        subst hA
        have hin := hcell 0 (.bool (l1.getD i false)) (by rw [show cs = _ from hKs]; simp [List.getD_eq_getElem?_getD])
        rw [show Kd.bool.sz = 1 from rfl] at hin
        simp only [Int.toNat_natCast, Nat.mul_one, Nat.add_zero] at hin
        clear hcell hKs
        have HIN := Aside0.mk hin
        clear hin ci
        cases hbi : l1.getD i false with
        | true =>
          rw [hbi] at HIN
          have HBI := Aside0.mk hbi
          clear hbi
          go_wp2_with (first
            | ((with_reducible refine gate_builtin (b := .append) (xs := #[.tmp 51, .tmp 53]) rfl ?_); at_builtin; refine Kd.R_append_rows Kd.string (w0 := w1) w1.heap.size rfl (.tmp 51) (.tmp 53) 22 9 (.string ⟨#[]⟩) 16 rfl Try.underlying22 info9 rfl (by decide) (by omega) (.slice A5 n5 c5) (namesF i) [s0] _ 1 1 (fun _ => True) (fun _ => False) rfl rfl ?aO ?aR (fun _ _ h => h) (fun _ h => h.elim) ?aF ?aB ?aS ?aL ?_; (case aR => exact lit_strF _ _); (case aB => exact below_alloc HB.out _); (case aF => exact (fun _ _ => trivial)); (case aO => exact Kd.R_alloc R5.out _); (case aS => exact (below_alloc HB.out _).size); (case aL => have h1_ := HL5.out; omega); intro vz5 wz5 ho hb hg hat; have q6 := Kd.R_alloc R6.out (.cells #[.string s0] 9); have q7 := Kd.R_alloc R7.out (.cells #[.string s0] 9); have y6 := apart_after q6 P65.out.symm hat; have z6 := row_other q6 hg P65.out.symm; have y7 := apart_after q7 P75.out.symm hat; have z7 := row_other q7 hg P75.out.symm; replace P65 := Aside0.mk (y6).symm; replace R6 := Aside0.mk z6; replace P75 := Aside0.mk (y7).symm; replace R7 := Aside0.mk z7; have hin_ := pw_cell_below (show Below w1.heap.size w1 _ from hb) HIN.out; replace HB := Aside0.mk hb; replace R5 := Aside0.mk ho; clear ho hb hg hat q6 y6 z6 q7 y7 z7)
            | ((with_reducible refine gate_builtin (b := .append) (xs := #[.tmp 65, .tmp 67]) rfl ?_); at_builtin; refine Kd.R_append_rows Kd.string (w0 := w1) w1.heap.size rfl (.tmp 65) (.tmp 67) 22 9 (.string ⟨#[]⟩) 16 rfl Try.underlying22 info9 rfl (by decide) (by omega) (.slice A6 n6 c6) (wrongF l1 i) [s0] _ 1 1 (fun _ => True) (fun _ => False) rfl rfl ?aO ?aR (fun _ _ h => h) (fun _ h => h.elim) ?aF ?aB ?aS ?aL ?_; (case aR => exact lit_strF _ _); (case aB => exact below_alloc HB.out _); (case aF => exact (fun _ _ => trivial)); (case aO => exact Kd.R_alloc R6.out _); (case aS => exact (below_alloc HB.out _).size); (case aL => have h1_ := HL6.out; omega); intro vz6 wz6 ho hb hg hat; have q5 := Kd.R_alloc R5.out (.cells #[.string s0] 9); have q7 := Kd.R_alloc R7.out (.cells #[.string s0] 9); have y5 := apart_after q5 P65.out hat; have z5 := row_other q5 hg P65.out; have y7 := apart_after q7 P76.out.symm hat; have z7 := row_other q7 hg P76.out.symm; replace P65 := Aside0.mk y5; replace R5 := Aside0.mk z5; replace P76 := Aside0.mk (y7).symm; replace R7 := Aside0.mk z7; replace HB := Aside0.mk hb; replace R6 := Aside0.mk ho; clear ho hb hg hat q5 y5 z5 q7 y7 z7))
          go_roundg (gk - 1)
          case measure => have := HK.out; omega
          case rel => exact ⟨i + 1, (by first | rfl | (simp [*]; done)), ⟨by have := HK.out; omega⟩, ⟨by rw [namesF_succ, ← HSS.out]; exact R5.out⟩, ⟨by rw [wrongF_succ, if_pos HBI.out, ← HSS.out]; exact R6.out⟩, ⟨by rw [rightF_succ, if_pos HBI.out, List.append_nil]; exact R7.out⟩, P65, P75, P76, HB⟩
        | false =>
          rw [hbi] at HIN
          have HBI := Aside0.mk (show ¬ l1.getD i false = true by rw [hbi]; decide)
          clear hbi
          go_wp2_with (first
            | ((with_reducible refine gate_builtin (b := .append) (xs := #[.tmp 51, .tmp 53]) rfl ?_); at_builtin; refine Kd.R_append_rows Kd.string (w0 := w1) w1.heap.size rfl (.tmp 51) (.tmp 53) 22 9 (.string ⟨#[]⟩) 16 rfl Try.underlying22 info9 rfl (by decide) (by omega) (.slice A5 n5 c5) (namesF i) [s0] _ 1 1 (fun _ => True) (fun _ => False) rfl rfl ?aO ?aR (fun _ _ h => h) (fun _ h => h.elim) ?aF ?aB ?aS ?aL ?_; (case aR => exact lit_strF _ _); (case aB => exact below_alloc HB.out _); (case aF => exact (fun _ _ => trivial)); (case aO => exact Kd.R_alloc R5.out _); (case aS => exact (below_alloc HB.out _).size); (case aL => have h1_ := HL5.out; omega); intro vz5 wz5 ho hb hg hat; have q6 := Kd.R_alloc R6.out (.cells #[.string s0] 9); have q7 := Kd.R_alloc R7.out (.cells #[.string s0] 9); have y6 := apart_after q6 P65.out.symm hat; have z6 := row_other q6 hg P65.out.symm; have y7 := apart_after q7 P75.out.symm hat; have z7 := row_other q7 hg P75.out.symm; replace P65 := Aside0.mk (y6).symm; replace R6 := Aside0.mk z6; replace P75 := Aside0.mk (y7).symm; replace R7 := Aside0.mk z7; have hin_ := pw_cell_below (show Below w1.heap.size w1 _ from hb) HIN.out; replace HB := Aside0.mk hb; replace R5 := Aside0.mk ho; clear ho hb hg hat q6 y6 z6 q7 y7 z7)
            | ((with_reducible refine gate_builtin (b := .append) (xs := #[.tmp 69, .tmp 71]) rfl ?_); at_builtin; refine Kd.R_append_rows Kd.string (w0 := w1) w1.heap.size rfl (.tmp 69) (.tmp 71) 22 9 (.string ⟨#[]⟩) 16 rfl Try.underlying22 info9 rfl (by decide) (by omega) (.slice A7 n7 c7) (rightF l1 i) [s0] _ 1 1 (fun _ => True) (fun _ => False) rfl rfl ?aO ?aR (fun _ _ h => h) (fun _ h => h.elim) ?aF ?aB ?aS ?aL ?_; (case aR => exact lit_strF _ _); (case aB => exact below_alloc HB.out _); (case aF => exact (fun _ _ => trivial)); (case aO => exact Kd.R_alloc R7.out _); (case aS => exact (below_alloc HB.out _).size); (case aL => have h1_ := HL7.out; omega); intro vz7 wz7 ho hb hg hat; have q5 := Kd.R_alloc R5.out (.cells #[.string s0] 9); have q6 := Kd.R_alloc R6.out (.cells #[.string s0] 9); have y5 := apart_after q5 P75.out hat; have z5 := row_other q5 hg P75.out; have y6 := apart_after q6 P76.out hat; have z6 := row_other q6 hg P76.out; replace P75 := Aside0.mk y5; replace R5 := Aside0.mk z5; replace P76 := Aside0.mk y6; replace R6 := Aside0.mk z6; replace HB := Aside0.mk hb; replace R7 := Aside0.mk ho; clear ho hb hg hat q5 y5 z5 q6 y6 z6))
          go_roundg (gk - 1)
          case measure => have := HK.out; omega
          case rel => exact ⟨i + 1, (by first | rfl | (simp [*]; done)), ⟨by have := HK.out; omega⟩, ⟨by rw [namesF_succ, ← HSS.out]; exact R5.out⟩, ⟨by rw [wrongF_succ, if_neg HBI.out, List.append_nil]; exact R6.out⟩, ⟨by rw [rightF_succ, if_neg HBI.out, ← HSS.out]; exact R7.out⟩, P65, P75, P76, HB⟩
      · have e0 : decide ((i : Int) < (l1.length : Int)) = false := decide_eq_false (by omega)
        have e1 : decide (i < l1.length) = false := decide_eq_false ci
        have HBI := Aside0.mk (show ¬ l1.getD i false = true by rw [List.getD_eq_getElem?_getD, List.getElem?_eq_none (by omega)]; decide)
        clear ci
        go_wp2_with (first
          | ((with_reducible refine gate_builtin (b := .append) (xs := #[.tmp 51, .tmp 53]) rfl ?_); at_builtin; refine Kd.R_append_rows Kd.string (w0 := w1) w1.heap.size rfl (.tmp 51) (.tmp 53) 22 9 (.string ⟨#[]⟩) 16 rfl Try.underlying22 info9 rfl (by decide) (by omega) (.slice A5 n5 c5) (namesF i) [s0] _ 1 1 (fun _ => True) (fun _ => False) rfl rfl ?aO ?aR (fun _ _ h => h) (fun _ h => h.elim) ?aF ?aB ?aS ?aL ?_; (case aR => exact lit_strF _ _); (case aB => exact below_alloc HB.out _); (case aF => exact (fun _ _ => trivial)); (case aO => exact Kd.R_alloc R5.out _); (case aS => exact (below_alloc HB.out _).size); (case aL => have h1_ := HL5.out; omega); intro vz5 wz5 ho hb hg hat; have q6 := Kd.R_alloc R6.out (.cells #[.string s0] 9); have q7 := Kd.R_alloc R7.out (.cells #[.string s0] 9); have y6 := apart_after q6 P65.out.symm hat; have z6 := row_other q6 hg P65.out.symm; have y7 := apart_after q7 P75.out.symm hat; have z7 := row_other q7 hg P75.out.symm; replace P65 := Aside0.mk (y6).symm; replace R6 := Aside0.mk z6; replace P75 := Aside0.mk (y7).symm; replace R7 := Aside0.mk z7; replace HB := Aside0.mk hb; replace R5 := Aside0.mk ho; clear ho hb hg hat q6 y6 z6 q7 y7 z7)
          | ((with_reducible refine gate_builtin (b := .append) (xs := #[.tmp 69, .tmp 71]) rfl ?_); at_builtin; refine Kd.R_append_rows Kd.string (w0 := w1) w1.heap.size rfl (.tmp 69) (.tmp 71) 22 9 (.string ⟨#[]⟩) 16 rfl Try.underlying22 info9 rfl (by decide) (by omega) (.slice A7 n7 c7) (rightF l1 i) [s0] _ 1 1 (fun _ => True) (fun _ => False) rfl rfl ?aO ?aR (fun _ _ h => h) (fun _ h => h.elim) ?aF ?aB ?aS ?aL ?_; (case aR => exact lit_strF _ _); (case aB => exact below_alloc HB.out _); (case aF => exact (fun _ _ => trivial)); (case aO => exact Kd.R_alloc R7.out _); (case aS => exact (below_alloc HB.out _).size); (case aL => have h1_ := HL7.out; omega); intro vz7 wz7 ho hb hg hat; have q5 := Kd.R_alloc R5.out (.cells #[.string s0] 9); have q6 := Kd.R_alloc R6.out (.cells #[.string s0] 9); have y5 := apart_after q5 P75.out hat; have z5 := row_other q5 hg P75.out; have y6 := apart_after q6 P76.out hat; have z6 := row_other q6 hg P76.out; replace P75 := Aside0.mk y5; replace R5 := Aside0.mk z5; replace P76 := Aside0.mk y6; replace R6 := Aside0.mk z6; replace HB := Aside0.mk hb; replace R7 := Aside0.mk ho; clear ho hb hg hat q5 y5 z5 q6 y6 z6))
        go_roundg (gk - 1)
        case measure => have := HK.out; omega
        case rel => exact ⟨i + 1, (by first | rfl | (simp [*]; done)), ⟨by have := HK.out; omega⟩, ⟨by rw [namesF_succ, ← HSS.out]; exact R5.out⟩, ⟨by rw [wrongF_succ, if_neg HBI.out, List.append_nil]; exact R6.out⟩, ⟨by rw [rightF_succ, if_neg HBI.out, ← HSS.out]; exact R7.out⟩, P65, P75, P76, HB⟩
    · have c0' : decide ((i : Int) < (m : Int)) = false := decide_eq_false (by omega)
      have c0'' : decide (i < m) = false := decide_eq_false c
      obtain rfl : i = m := by have := HK.out; omega
      obtain ⟨A5, c5, ev⟩ := Kd.R_slice R5.out
      rw [namesF_length] at ev
      subst ev
      have h7 := (Kd.R_reads' R5.out).2
      rw [namesF_length] at h7
      have HC5 := Aside0.mk h7
      obtain ⟨A6, c6, ev⟩ := Kd.R_slice R6.out
      subst ev
      obtain ⟨A7, c7, ev⟩ := Kd.R_slice R7.out
      subst ev
      have HC6 := Aside0.mk (Kd.R_reads' R6.out).2
      have HC7 := Aside0.mk (Kd.R_reads' R7.out).2
      have HBw := Aside0.mk (below_step HB1.out HB.out)
      have z := new_calls A5 c5 (namesF i) _ (by rw [namesF_length]; exact HC5.out.2) (by rw [namesF_length]; exact HC5.out.1) (by rw [namesF_length]; have := HM.out; omega) (namesF_size HM.out.2)
      rw [namesF_length] at z
      have HNEW := Aside0.mk z
      clear h7 R5 R6 R7 P65 P75 P76 c HK z HB c0' c0''
      generalize wr = wn at HC5 HC6 HC7 HBw HNEW ⊢
      go_upto_region 17 with (go_at_call 11; refine HNEW.out.mono ?_; rintro e w3 ⟨hb2, h2⟩; rcases h2 with ⟨hnd, g, S, rfl, hP⟩ | ⟨hnd, rfl⟩; (rotate_left; exact absurd (namesF_nodup HM.out.2) hnd); have HBn := Aside0.mk hb2; have HP := Aside0.mk hP; clear hb2 hP hnd)
      have hne : namesF i ≠ [] := fun e => by have h1 := namesF_length i; rw [e] at h1; have := HM.out; simp at h1; omega
      have HINV := Aside0.mk (show InvB (namesF i) (bdF (wrongF l1 i)) ⟨firstL (namesF i), [], [], 0⟩ (cost (bdF (wrongF l1 i)) (namesF i)) by have z := invB_first (namesF i) (bdF (wrongF l1 i)); rw [if_neg hne] at z; exact z)
      have HCOST := Aside0.mk (finds_cost (bl := l1) HM.out.1 HM.out.2)
      have HNE := Aside0.mk hne
      have HBAD := Aside0.mk (finds_bad (bl := l1) HM.out.2)
      have HGOOD := Aside0.mk (finds_good (bl := l1) HM.out.2)
      have HWL := Aside0.mk (show (wrongF l1 i).length ≤ i from wrongF_le l1 i)
      have HRL := Aside0.mk (show (rightF l1 i).length ≤ i from rightF_le l1 i)
      clear hne HNEW
      generalize wrongF l1 i = wl at HC6 HINV HCOST HBAD HGOOD HWL ⊢
      generalize rightF l1 i = rl at HC7 HGOOD HRL ⊢
      go_wp2
      go_loopg [12, 13] (cost (bdF wl) (namesF i)) (fun kq v12 v13 w' => ∃ (S' : Nat → Prop) (p : Pl), v12 = .int .i64 p.tries ∧ Aside0 (PlanP w' wn.heap.size g S' p) ∧ Aside0 (InvB (namesF i) (bdF wl) p kq) ∧ Aside0 (Below wn.heap.size wn w'))
      case atStart => exact ⟨S, ⟨firstL (namesF i), [], [], 0⟩, rfl, ⟨HP.out⟩, HINV, HBn⟩
      case round =>
        clear HINV HP HBn
        obtain ⟨S1, p, rfl, HP, HI, HB⟩ := hrel
        have HLM := Aside0.mk (HI.out.lim (by rw [namesF_length]; have := HM.out; omega))
        obtain ⟨rest, good, bad, tries⟩ := p
        dsimp only
        have cq : decide (tries ≤ 1000) = true := decide_eq_true (by
          have h1 := HI.out.tries
          rw [if_neg HNE.out] at h1
          have := HCOST.out.1
          simp only at h1
          omega)
        rcases List.eq_nil_or_concat rest with e | ⟨q, l, e⟩
        · subst e
          obtain ⟨hg, hbd, htr⟩ := HI.out.ends rfl
          simp only at hg hbd htr
          rw [if_neg HNE.out] at htr
          rw [HGOOD.out] at hg
          rw [HBAD.out] at hbd
          subst hg
          subst hbd
          have HTR := Aside0.mk htr
          clear htr
          have HLM3 := Aside0.mk (show good.length < 8796093022208 ∧ bad.length < 8796093022208 ∧ good.length ≤ 1000000000 ∧ bad.length ≤ 1000000000 by have h1 := HRL.out; have h2 := HWL.out; have h3 := HM.out; omega)
          have HBND := Aside0.mk (fun W => Pure.bound_calls i bad.length W HM.out.1 (by have := HM.out; omega) HWL.out)
          have hct := HCOST.out.2
          have ct : decide (tries ≤ ((2 * bad.length * (Pure.bl (i - 1) + 1) + 1 : Nat) : Int)) = true := decide_eq_true (by rw [HTR.out]; exact_mod_cast hct)
          clear hct
          generalize 2 * bad.length * (Pure.bl (i - 1) + 1) + 1 = bN at HBND ct
          go_wp2_with (first
            | (go_at_call 13; refine (next_calls g wn.heap.size S1 [] good bad tries _ HP.out (by simp [nextL])).mono ?_; rintro e w5 ⟨v5, rfl, hR, hb⟩; have hR := (show Kd.R Kd.string 9 w5 _ (fun _ => True) v5 [] from hR); obtain ⟨A9, c9, ev⟩ := Kd.R_slice hR; subst ev; replace HP := Aside0.mk (HP.out.below hb); replace HB := Aside0.mk (HB.out.trans (hb.mono HB.out.size)); clear hR hb)
            | (go_at_call 17; refine (tries_calls g wn.heap.size S1 [] good bad tries _ HP.out).mono ?_; rintro e w8 ⟨rfl, rfl⟩)
            | (go_at_call 21; refine (HBND.out _).mono ?_; rintro e w9 ⟨rfl, hb⟩; replace HP := Aside0.mk (HP.out.below hb); replace HB := Aside0.mk (HB.out.trans (hb.mono HB.out.size)); clear hb)
            | (go_at_call 19; refine (bad_calls g wn.heap.size S1 [] good bad tries _ HP.out HLM3.out.2.1).mono ?_; rintro e w9 ⟨v9, rfl, hR, hb⟩; obtain ⟨A9, c9, ev⟩ := Kd.R_slice hR; subst ev; replace HP := Aside0.mk (HP.out.below hb); replace HB := Aside0.mk (HB.out.trans (hb.mono HB.out.size)); have HS1 := Aside0.mk (same_refl_calls A9 c9 bad A6 c6 _ (Kd.R_reads' hR).2.2 (Kd.R_reads' hR).2.1 (Kd.C_below HC6.out.2 HB.out) HC6.out.1 HLM3.out.2.2.2); clear hR hb)
            | (go_at_call 14; refine HS1.out.mono ?_; rintro e w10 ⟨rfl, hb⟩; replace HP := Aside0.mk (HP.out.below hb); replace HB := Aside0.mk (HB.out.trans (hb.mono HB.out.size)); clear hb HS1)
            | (go_at_call 18; refine (good_calls g wn.heap.size S1 [] good bad tries _ HP.out HLM3.out.1).mono ?_; rintro e w11 ⟨v11, rfl, hR, hb⟩; obtain ⟨A11, c11, ev⟩ := Kd.R_slice hR; subst ev; replace HP := Aside0.mk (HP.out.below hb); replace HB := Aside0.mk (HB.out.trans (hb.mono HB.out.size)); have HS2 := Aside0.mk (same_refl_calls A11 c11 good A7 c7 _ (Kd.R_reads' hR).2.2 (Kd.R_reads' hR).2.1 (Kd.C_below HC7.out.2 HB.out) HC7.out.1 HLM3.out.2.2.1); clear hR hb)
            | (go_at_call 14; refine HS2.out.mono ?_; rintro e w12 ⟨rfl, hb⟩; replace HB := Aside0.mk (HB.out.trans (hb.mono HB.out.size)); clear hb HS2))
          go_ret
          exact ⟨rfl, below_step HBw.out HB.out⟩
        · rw [List.concat_eq_append] at e
          subst e
          have hpos : 0 < l.length := HI.out.pos l (by simp)
          have cl : decide ((0 : Int) < (l.length : Int)) = true := decide_eq_true (by omega)
          have cl2 : decide (0 < l.length) = true := decide_eq_true hpos
          have HLL := Aside0.mk (show l.length ≤ 1000000 by have := HLM.out.1; rw [nextL_snoc] at this; exact this)
          obtain ⟨p2, left2, ht, hi2, hl2⟩ := HI.out.tell rfl (Nat.le_trans HCOST.out.1 (by decide))
          have HTL := Aside0.mk ht
          have HI2 := Aside0.mk hi2
          have HL2 := Aside0.mk hl2
          have wt : wrap64 (tries + 1) = p2.tries := by
            have h1 := hi2.tries
            have h2 := HI.out.tries
            rw [if_neg HNE.out] at h1 h2
            have := HCOST.out.1
            simp only at h2
            unfold wrap64; omega
          clear hpos ht hi2 hl2
          go_wp2_with (go_at_call 13; refine (next_calls g wn.heap.size S1 (q ++ [l]) good bad tries _ HP.out (by rw [nextL_snoc]; have := HLL.out; omega)).mono ?_; rintro e w5 ⟨v5, rfl, hR, hb⟩; rw [nextL_snoc] at hR; obtain ⟨A9, c9, ev⟩ := Kd.R_slice hR; subst ev; replace HP := Aside0.mk (HP.out.below hb); replace HB := Aside0.mk (HB.out.trans (hb.mono HB.out.size)); have HC9 := Aside0.mk (Kd.R_reads' hR).2; clear hR hb)
          go_loopg [13, 95] l.length (fun kq v13 v95 w' => ∃ (j : Nat), v13 = .bool (okRow (bdF wl) (l.take j)) ∧ v95 = .int .i64 (j : Int) ∧ Aside0 (kq + j = l.length) ∧ w' = w5)
          case atStart => exact ⟨0, rfl, rfl, ⟨by omega⟩, rfl⟩
          case round =>
            obtain ⟨j, rfl, rfl, HJ, rfl⟩ := hrel
            by_cases cj : j < l.length
            · have e0 : decide ((j : Int) < (l.length : Int)) = true := decide_eq_true (by omega)
              have e1 : decide (j < l.length) = true := decide_eq_true cj
              obtain ⟨ad, cs, hA, _, hKs, hcell⟩ := Kd.C_get HC9.out.2 ByteArray.empty (j : Int) (by omega) (by omega)
              subst hA
              have hin := hcell 0 (.string l[j]) (by rw [show cs = _ from hKs]; simp [List.getD_eq_getElem?_getD, List.getElem?_eq_getElem cj])
              rw [show Kd.string.sz = 1 from rfl] at hin
              simp only [Int.toNat_natCast, Nat.mul_one, Nat.add_zero] at hin
              clear hcell hKs
              have HOK := Aside0.mk (okRow_take (bd := bdF wl) j cj)
              generalize l[j] = s at hin HOK
              generalize okRow (bdF wl) (l.take j) = ok0 at HOK ⊢
              have p4 : (0 : Int) ≤ (j : Int) := by omega
              have q4 : (j : Int) < (l.length : Int) := by omega
              have w4_ : wrap64 ((j : Int) + 1) = (j : Int) + 1 := by have := HLL.out; unfold wrap64; omega
              go_wp2
              go_loopg [13, 101] wl.length (fun kq v13 v101 w' => ∃ (k : Nat), v13 = .bool (ok0 && ((wl.take k).all (fun x => !(s == x)))) ∧ v101 = .int .i64 (k : Int) ∧ Aside0 (kq + k = wl.length) ∧ w' = wr)
              case atStart => exact ⟨0, by simp, rfl, ⟨by omega⟩, rfl⟩
              case round =>
                obtain ⟨k, rfl, rfl, HK2, rfl⟩ := hrel
                by_cases ck : k < wl.length
                · have f0 : decide ((k : Int) < (wl.length : Int)) = true := decide_eq_true (by omega)
                  have f1 : decide (k < wl.length) = true := decide_eq_true ck
                  obtain ⟨ad2, cs2, hA2, _, hKs2, hcell2⟩ := Kd.C_get (Kd.C_below HC6.out.2 HB.out) ByteArray.empty (k : Int) (by omega) (by omega)
                  subst hA2
                  have hin2 := hcell2 0 (.string wl[k]) (by rw [show cs2 = _ from hKs2]; simp [List.getD_eq_getElem?_getD, List.getElem?_eq_getElem ck])
                  rw [show Kd.string.sz = 1 from rfl] at hin2
                  simp only [Int.toNat_natCast, Nat.mul_one, Nat.add_zero] at hin2
                  clear hcell2 hKs2
                  have HST := Aside0.mk (show ((wl.take (k + 1)).all (fun x => !(s == x))) = (((wl.take k).all (fun x => !(s == x))) && !(s == wl[k])) by rw [List.take_add_one, List.getElem?_eq_getElem ck, List.all_append]; simp)
                  generalize wl[k] = x at hin2 HST
                  generalize (wl.take k).all (fun x => !(s == x)) = al at HST ⊢
                  have p5 : (0 : Int) ≤ (k : Int) := by omega
                  have q5 : (k : Int) < (wl.length : Int) := by omega
                  have w5_ : wrap64 ((k : Int) + 1) = (k : Int) + 1 := by have := HWL.out; have := HM.out; unfold wrap64; omega
                  cases hfl : (ok0 && al) with
                  | false =>
                    have HNX := Aside0.mk (show (ok0 && (wl.take (k + 1)).all (fun x => !(s == x))) = false by rw [HST.out, ← Bool.and_assoc, hfl]; rfl)
                    clear hfl
                    go_wp2
                    go_roundg (wl.length - k - 1)
                    case measure => exact meas1 HK2.out ck
                    case rel => exact ⟨k + 1, by rw [HNX.out], (by first | rfl | (simp [*]; done)), ⟨meas2 HK2.out ck⟩, rfl⟩
                  | true =>
                    have HFL := Aside0.mk hfl
                    clear hfl
                    by_cases c5 : s.toList = x.toList
                    · have g0 : (s.toList == x.toList) = true := beq_iff_eq.mpr c5
                      have g1 : (s.toList != x.toList) = false := bne_eq_false_iff_eq.mpr c5
                      have HNX := Aside0.mk (show (ok0 && (wl.take (k + 1)).all (fun x => !(s == x))) = false by rw [HST.out, ← Bool.and_assoc, HFL.out, show (s == x) = true from beq_iff_eq.2 (toList_inj c5)]; rfl)
                      clear c5
                      go_wp2
                      go_roundg (wl.length - k - 1)
                      case measure => exact meas1 HK2.out ck
                      case rel => exact ⟨k + 1, by rw [HNX.out], (by first | rfl | (simp [*]; done)), ⟨meas2 HK2.out ck⟩, rfl⟩
                    · have g0 : (s.toList == x.toList) = false := beq_eq_false_iff_ne.mpr c5
                      have g1 : (s.toList != x.toList) = true := bne_iff_ne.mpr c5
                      have HNX := Aside0.mk (show (ok0 && (wl.take (k + 1)).all (fun x => !(s == x))) = true by rw [HST.out, ← Bool.and_assoc, HFL.out, show (s == x) = false from beq_eq_false_iff_ne.2 (fun e => c5 (by rw [e]))]; rfl)
                      clear c5
                      go_wp2
                      go_roundg (wl.length - k - 1)
                      case measure => exact meas1 HK2.out ck
                      case rel => exact ⟨k + 1, by rw [HNX.out], (by first | rfl | (simp [*]; done)), ⟨meas2 HK2.out ck⟩, rfl⟩
                · have f0 : decide ((k : Int) < (wl.length : Int)) = false := decide_eq_false (by omega)
                  have f1 : decide (k < wl.length) = false := decide_eq_false ck
                  have HFE := Aside0.mk (show (ok0 && (wl.take k).all (fun x => !(s == x))) = okRow (bdF wl) (l.take (j + 1)) by
                    rw [HOK.out, List.take_of_length_le (by omega)]
                    unfold bdF
                    rw [List.all_eq_not_any_not]
                    simp)
                  rw [HFE.out]
                  clear ck
                  go_wp2
                  go_roundg (l.length - j - 1)
                  case measure => exact meas1 HJ.out cj
                  case rel => exact ⟨j + 1, rfl, (by first | rfl | (simp [*]; done)), ⟨meas2 HJ.out cj⟩, rfl⟩
            · have e0 : decide ((j : Int) < (l.length : Int)) = false := decide_eq_false (by omega)
              have e1 : decide (j < l.length) = false := decide_eq_false cj
              have HTK := Aside0.mk (show l.take j = l from List.take_of_length_le (by omega))
              rw [HTK.out]
              clear cj
              generalize okRow (bdF wl) l = okb at HTL ⊢
              go_wp2_with (go_at_call 15; refine (tell_to g wn.heap.size S1 ⟨q ++ [l], good, bad, tries⟩ okb _ _ _ HP.out HLM.out HTL.out).mono ?_; rintro e w7 ⟨rfl, S7, hP7, hT7⟩; have HP7 := Aside0.mk hP7; have HB7 := Aside0.mk (HB.out.trans hT7.below); clear hP7 hT7)
              go_roundg left2
              case measure => have := HL2.out; omega
              case rel => exact ⟨S7, p2, (by first | rfl | (simp [*]; done)), ⟨HP7.out⟩, ⟨HI2.out⟩, ⟨HB7.out⟩⟩
end Go.Proofs.Ytdfnpjmebnlfbaa.PAll
