import Derived.Test.YtdfnpjmebnlfbaaQHalvesAllAlive
import Derived.Test.YtdfnpjmebnlfbaaQHalvesAllLawsF
import Derived.Test.YtdfnpjmebnlfbaaQHalvesAllPlanLaw
import Derived.Test.YtdfnpjmebnlfbaaQHalvesAllSame
import Derived.Deep.RegionWith

namespace Go.Proofs.YtdfnpjmebnlfbaaW.PrintMore
end Go.Proofs.YtdfnpjmebnlfbaaW.PrintMore
set_option linter.unusedVariables false
set_option linter.unusedSimpArgs false
namespace Go.Proofs.Ytdfnpjmebnlfbaa.PAll
open Go Go.Proofs Go.RowKit Go.Proofs.YtdfnpjmebnlfbaaW.PrintWords Go.Proofs.YtdfnpjmebnlfbaaW.PrintLast Go.Proofs.YtdfnpjmebnlfbaaW.PrintMore
theorem count_nodup {l : List ByteArray} (h : l.Nodup) {a : ByteArray} (ha : a ∈ l) : l.count a = 1 := by
  have h1 := List.nodup_iff_count.1 h a
  have h2 := List.count_pos_iff.2 ha
  omega
theorem count_take {l : List ByteArray} (a : ByteArray) (j : Nat) (hj : j < l.length) : (l.take (j + 1)).count a = (l.take j).count a + if l[j] = a then 1 else 0 := by
  rw [List.take_add_one, List.getElem?_eq_getElem hj, List.count_append]
  by_cases c : l[j] = a
  · rw [if_pos c, c]; simp
  · rw [if_neg c]; simp [c]
set_option maxHeartbeats 16000000 in
set_option maxRecDepth 100000 in
theorem packhorselaw12_HalvesAll.calls (A0 : Option Addr) (c0 : Nat) (l0 : List ByteArray) (A1 : Option Addr) (c1 : Nat) (l1 : List Bool) (r : Bool) (w : World) (hr0 : Kd.C Kd.string w A0 l0.length l0) (hc0 : l0.length ≤ c0) (hr1 : Kd.C Kd.bool w A1 l1.length l1) (hc1 : l1.length ≤ c1)
    (h : packhorselaw12_HalvesAll.f l0 l1 = some r) (hr_ : r = true) : Calls Try.prog 6 #[.slice A0 l0.length c0, .slice A1 l1.length c1] w fun e w' => e = .returned (.bool r) ∧ Below w.heap.size w w' := by
  subst hr_
  have hs : ∀ x ∈ l0, x.size ≤ 140737488351232 := by
    by_cases q : ∀ x ∈ l0, x.size ≤ 140737488351232
    · exact q
    · unfold packhorselaw12_HalvesAll.f at h; rw [if_neg q] at h; cases h
  clear h
  have HR0 := Aside0.mk hr0
  have HC0 := Aside0.mk hc0
  have HR1 := Aside0.mk hr1
  have HC1 := Aside0.mk hc1
  have HS := Aside0.mk (show ∀ x ∈ l0, x.size ≤ maxLen from fun x hx => by have := hs x hx; unfold maxLen; omega)
  clear hr0 hc0 hr1 hc1 hs
  by_cases k1 : 60 < l0.length
  · have k1a : decide ((60 : Int) < (l0.length : Int)) = true := decide_eq_true (by omega)
    have k1b : decide (60 < l0.length) = true := decide_eq_true k1
    clear k1
    go_enter Try.func6, Try.ntmps6
    go_wp2_with (go_at_call 10; refine (alive_calls _).mono ?_; rintro e w1 ⟨rfl, hb⟩; have HB1 := Aside0.mk hb; clear hb)
    go_ret
    exact ⟨rfl, HB1.out⟩
  have k1a : decide ((60 : Int) < (l0.length : Int)) = false := decide_eq_false (by omega)
  have k1b : decide (60 < l0.length) = false := decide_eq_false k1
  by_cases k2 : 200 < l1.length
  · have k2a : decide ((200 : Int) < (l1.length : Int)) = true := decide_eq_true (by omega)
    have k2b : decide (200 < l1.length) = true := decide_eq_true k2
    clear k1 k2
    go_enter Try.func6, Try.ntmps6
    go_wp2_with (go_at_call 10; refine (alive_calls _).mono ?_; rintro e w1 ⟨rfl, hb⟩; have HB1 := Aside0.mk hb; clear hb)
    go_ret
    exact ⟨rfl, HB1.out⟩
  have k2a : decide ((200 : Int) < (l1.length : Int)) = false := decide_eq_false (by omega)
  have k2b : decide (200 < l1.length) = false := decide_eq_false k2
  have HN := Aside0.mk (show l0.length ≤ 60 by omega)
  have HT := Aside0.mk (show l1.length ≤ 200 by omega)
  clear k1 k2
  by_cases hnd : l0.Nodup
  rotate_left
  · have HD := Aside0.mk hnd
    clear hnd
    go_enter Try.func6, Try.ntmps6
    go_wp2_with (first
      | (go_at_call 10; refine (alive_calls _).mono ?_; rintro e w1 ⟨rfl, hb⟩; have HB1 := Aside0.mk hb; clear hb)
      | (go_at_call 11; refine (new_calls A0 c0 l0 _ (Kd.C_below HR0.out HB1.out) HC0.out (by have := HN.out; omega) HS.out).mono ?_; rintro e w2 ⟨hb2, h2⟩; rcases h2 with ⟨hnd, g, S, rfl, hP⟩ | ⟨hnd, rfl⟩; (exact absurd hnd HD.out); have HB2 := Aside0.mk (below_step HB1.out hb2); clear hb2 hnd))
    go_ret
    exact ⟨rfl, HB2.out⟩
  have HD := Aside0.mk hnd
  clear hnd
  go_enter Try.func6, Try.ntmps6
  go_upto_region 8 with (first
    | (go_at_call 10; refine (alive_calls _).mono ?_; rintro e w1 ⟨rfl, hb⟩; have HB1 := Aside0.mk hb; clear hb)
    | (go_at_call 11; refine (new_calls A0 c0 l0 _ (Kd.C_below HR0.out HB1.out) HC0.out (by have := HN.out; omega) HS.out).mono ?_; rintro e w2 ⟨hb2, h2⟩; rcases h2 with ⟨hnd, g, S, rfl, hP⟩ | ⟨hnd, rfl⟩; (rotate_left; exact absurd HD.out hnd); have HB2 := Aside0.mk (below_step HB1.out hb2); have HP := Aside0.mk hP; clear hb2 hP hnd))
  have HLE := Aside0.mk HB1.out.size
  have HI := Aside0.mk (inv_first l0 0)
  clear HB1 k1a k1b k2a k2b
  go_wp2
  go_loopg [38] l1.length (fun kq v38 w' => ∃ (i : Nat) (S' : Nat → Prop) (p : Pl), v38 = .int .i64 (i : Int) ∧ Aside0 (kq + i = l1.length) ∧ Aside0 (PlanP w' w1.heap.size g S' p) ∧ Aside0 (Inv l0 p) ∧ Aside0 (Below w.heap.size w w'))
  case atStart => exact ⟨0, S, ⟨firstL l0, [], [], 0⟩, rfl, ⟨by omega⟩, ⟨HP.out⟩, ⟨HI.out⟩, ⟨HB2.out⟩⟩
  case round =>
    clear HP HI HB2
    obtain ⟨i, S1, p, rfl, HK, HP, HI, HB⟩ := hrel
    by_cases c : i < l1.length
    · have c0' : decide ((i : Int) < (l1.length : Int)) = true := decide_eq_true (by omega)
      have c0'' : decide (i < l1.length) = true := decide_eq_true c
      obtain ⟨ad, cs, hA, _, hKs, hcell⟩ := Kd.C_get (Kd.C_below HR1.out HB.out) false (i : Int) (by omega) (by omega)
      subst hA
      have hin := hcell 0 (.bool l1[i]) (by rw [show cs = _ from hKs]; simp [List.getD_eq_getElem?_getD, List.getElem?_eq_getElem c])
      rw [show Kd.bool.sz = 1 from rfl] at hin
      simp only [Int.toNat_natCast, Nat.mul_one, Nat.add_zero] at hin
      clear hcell hKs
      generalize l1[i] = bi at hin
      have p0 : (0 : Int) ≤ (i : Int) := by omega
      have q0 : (i : Int) < (l1.length : Int) := by omega
      have w0 : wrap64 ((i : Int) + 1) = (i : Int) + 1 := by have := HT.out; unfold wrap64; omega
      go_wp2_with (go_at_call 15; refine (tell_calls g w1.heap.size S1 p bi _ HP.out (HI.out.lim (by have := HN.out; omega))).mono ?_; rintro e w3 ⟨rfl, S3, hP3, hT3⟩; have HP3 := Aside0.mk hP3; have HB3 := Aside0.mk (below_weaken HB.out HLE.out hT3.below); clear hP3 hT3)
      go_roundg (gk - 1)
      case measure => have := HK.out; omega
      case rel => exact ⟨i + 1, S3, (p.tell bi).1, (by first | rfl | (simp [*]; done)), ⟨by have := HK.out; omega⟩, ⟨HP3.out⟩, ⟨HI.out.tell bi⟩, ⟨HB3.out⟩⟩
    · have c0' : decide ((i : Int) < (l1.length : Int)) = false := decide_eq_false (by omega)
      have c0'' : decide (i < l1.length) = false := decide_eq_false c
      clear c HK
      have HP0 := HP
      go_upto_region 14 with (first
        | (go_at_call 18; refine (good_calls g w1.heap.size S1 p.rest p.good p.bad p.tries _ HP.out (by have := HI.out.lim (by have := HN.out; omega); omega)).mono ?_; rintro e w3 ⟨v3, rfl, hR, hb⟩; obtain ⟨A3, c3, ev⟩ := Kd.R_slice hR; subst ev; replace HP := Aside0.mk (HP.out.below hb); replace HB := Aside0.mk (below_step HB.out hb); clear hR hb)
        | (go_at_call 19; refine (bad_calls g w1.heap.size S1 p.rest p.good p.bad p.tries _ HP.out (by have := HI.out.lim (by have := HN.out; omega); omega)).mono ?_; rintro e w4 ⟨v4, rfl, hR, hb⟩; obtain ⟨A4, c4, ev⟩ := Kd.R_slice hR; subst ev; replace HP := Aside0.mk (HP.out.below hb); replace HB := Aside0.mk (below_step HB.out hb); clear hR hb))
      have HL := Aside0.mk (show wrap64 (wrap64 ((l0.length : Int) - (p.good.length : Int)) - (p.bad.length : Int)) = (p.rest.flatten.length : Int) by
        have h1 := HI.out.len
        have h2 := HN.out
        unfold wrap64; omega)
      have HK := Aside0.mk (show p.rest.length ≤ 60 by
        have h1 := HI.out.len
        have h2 := HN.out
        have h3 := rows_le p.rest HI.out.pos
        omega)
      clear HP0 c0' c0''
      generalize wrap64 (wrap64 ((l0.length : Int) - (p.good.length : Int)) - (p.bad.length : Int)) = left at HL ⊢
      go_wp2
      go_loopg [9, 10] p.rest.length (fun kq v9 v10 w' => ∃ (left : Int) (k : Nat) (S' : Nat → Prop) (p' : Pl), v9 = .int .i64 left ∧ v10 = .int .i64 (k : Int) ∧ Aside0 (kq = p'.rest.length) ∧ Aside0 (k + kq ≤ 60) ∧ Aside0 (left = (p'.rest.flatten.length : Int)) ∧ Aside0 (PlanP w' w1.heap.size g S' p') ∧ Aside0 (Inv l0 p') ∧ Aside0 (Below w.heap.size w w'))
      case atStart => exact ⟨left, 0, S1, p, rfl, rfl, ⟨rfl⟩, ⟨by have := HK.out; omega⟩, HL, HP, HI, HB⟩
      case round =>
        clear HP HI HB HL HK
        obtain ⟨left, k, S2, p2, rfl, rfl, HQ, HK, HL, HP, HI, HB⟩ := hrel
        have ck : decide ((k : Int) ≤ 60) = true := decide_eq_true (by have := HK.out; omega)
        have ck2 : decide (k ≤ 60) = true := decide_eq_true (by have := HK.out; omega)
        obtain ⟨rest, good, bad, tries⟩ := p2
        rcases List.eq_nil_or_concat rest with e | ⟨q, l, e⟩
        · subst e
          have HE := Aside0.mk (show (good ++ bad).length = l0.length by
            have h1 := HI.out.len
            simp only [List.flatten_nil, List.length_nil] at h1
            rw [List.length_append]; omega)
          have HCN := Aside0.mk (show ∀ s, (good ++ bad).count s = l0.count s from fun s => by
            have h1 := HI.out.cnt s
            simp only [List.flatten_nil, List.count_nil] at h1
            rw [List.count_append]; omega)
          have HLM := Aside0.mk (HI.out.lim (by have := HN.out; omega))
          obtain rfl : left = 0 := by have := HL.out; simpa using this
          go_upto_region 22 with (first
            | (go_at_call 13; refine (next_calls g w1.heap.size S2 [] good bad tries _ HP.out (by simp [nextL])).mono ?_; rintro e w3 ⟨v3, rfl, hR, hb⟩; have hR := (show Kd.R Kd.string 9 w3 _ (fun _ => True) v3 [] from hR); obtain ⟨A3, c3, ev⟩ := Kd.R_slice hR; subst ev; have HP3 := Aside0.mk (HP.out.below hb); have HB3 := Aside0.mk (below_step HB.out hb); have HZ3 := Aside0.mk (show wr.heap.size ≤ w3.heap.size from hb.size); clear hR hb)
            | (go_at_call 18; refine (good_calls g w1.heap.size S2 [] good bad tries _ HP3.out (Nat.lt_of_le_of_lt HLM.out.2.2.1 (by decide))).mono ?_; rintro e w4 ⟨v4, rfl, hR, hb⟩; have HR4 := Aside0.mk hR; have HP4 := Aside0.mk (HP3.out.below hb); have HB4 := Aside0.mk (below_step HB3.out hb); have HZ4 := Aside0.mk (show w3.heap.size ≤ w4.heap.size from hb.size); clear hR hb)
            | (go_at_call 19; refine (bad_calls g w1.heap.size S2 [] good bad tries _ HP4.out (Nat.lt_of_le_of_lt HLM.out.2.2.2 (by decide))).mono ?_; rintro e w5 ⟨v5, rfl, hR, hb⟩; obtain ⟨A5, c5, ev⟩ := Kd.R_slice hR; subst ev; have HR5 := Aside0.mk (Kd.R_below HR4.out hb); have HC5 := Aside0.mk (Kd.R_reads' hR).2.2; have HB5 := Aside0.mk (below_step HB4.out hb); have HZ5 := Aside0.mk (show w3.heap.size ≤ w5.heap.size from Nat.le_trans HZ4.out hb.size); clear hR hb)
            | ((with_reducible refine gate_builtin (b := .append) (xs := #[.tmp 74, .tmp 76]) rfl ?_); at_builtin; refine Kd.R_append_rows Kd.string (w0 := w5) w3.heap.size rfl (.tmp 74) (.tmp 76) 22 9 (.string ⟨#[]⟩) 16 rfl Try.underlying22 info9 rfl (by decide) (by omega) v4 good bad A5 bad.length c5 (fun _ => True) (fun _ => False) rfl rfl ?aO ?aR (fun _ _ h => h) (fun _ h => h.elim) ?aF ?aB ?aS ?aL ?_; (case aR => exact HC5.out); (case aB => exact Below.refl _ _); (case aF => exact (fun _ _ => trivial)); (case aO => exact HR5.out); (case aS => exact HZ5.out); (case aL => have h1_ : good.length ≤ 1000000 := HLM.out.2.2.1; have h2_ : bad.length ≤ 1000000 := HLM.out.2.2.2; omega); intro v6 w6 ho6 hb6 hg6 hat6; obtain ⟨A6, c6, ev⟩ := Kd.R_slice ho6; rw [HE.out] at ev; subst ev; have h7 := (Kd.R_reads' ho6).2; rw [HE.out] at h7; have HC6 := Aside0.mk h7; have HB6 := Aside0.mk (below_weaken HB5.out (Nat.le_trans HLE.out (Nat.le_trans HP.out.base (Nat.le_trans (show wr.heap.size ≤ w3.heap.size from HZ3.out) (Nat.le_refl _)))) hb6); clear ho6 hb6 hg6 hat6 h7))
          have HLI := Aside0.mk (show l0.length ≤ 60 from HN.out)
          go_wp2
          go_loopg [89] l0.length (fun kq v89 w' => ∃ (i : Nat), v89 = .int .i64 (i : Int) ∧ Aside0 (kq + i = l0.length) ∧ w' = w6)
          case atStart => exact ⟨0, rfl, ⟨by omega⟩, rfl⟩
          case round =>
            clear HK HQ
            obtain ⟨i3, rfl, HK3, rfl⟩ := hrel
            by_cases c3i : i3 < l0.length
            · have d0 : decide ((i3 : Int) < (l0.length : Int)) = true := decide_eq_true (by omega)
              have d1 : decide (i3 < l0.length) = true := decide_eq_true c3i
              obtain ⟨ad, cs, hA, _, hKs, hcell⟩ := Kd.C_get (Kd.C_below HR0.out HB6.out) ByteArray.empty (i3 : Int) (by omega) (by omega)
              subst hA
              have hin := hcell 0 (.string l0[i3]) (by rw [show cs = _ from hKs]; simp [List.getD_eq_getElem?_getD, List.getElem?_eq_getElem c3i])
              rw [show Kd.string.sz = 1 from rfl] at hin
              simp only [Int.toNat_natCast, Nat.mul_one, Nat.add_zero] at hin
              clear hcell hKs
              have HONE := Aside0.mk (show (good ++ bad).count l0[i3] = 1 by rw [HCN.out]; exact count_nodup HD.out (List.getElem_mem c3i))
              generalize l0[i3] = s at hin HONE
              have p3 : (0 : Int) ≤ (i3 : Int) := by omega
              have q3 : (i3 : Int) < (l0.length : Int) := by omega
              have w3_ : wrap64 ((i3 : Int) + 1) = (i3 : Int) + 1 := by have := HLI.out; unfold wrap64; omega
              go_wp2
              go_loopg [14, 95] l0.length (fun kq v14 v95 w' => ∃ (t : Int) (j : Nat), v14 = .int .i64 t ∧ v95 = .int .i64 (j : Int) ∧ Aside0 (t = (((good ++ bad).take j).count s : Int)) ∧ Aside0 (kq + j = l0.length) ∧ w' = wr)
              case atStart => exact ⟨0, 0, rfl, rfl, ⟨by simp⟩, ⟨by omega⟩, rfl⟩
              case round =>
                obtain ⟨tm, j, rfl, rfl, HTM, HK4, rfl⟩ := hrel
                by_cases c4 : j < l0.length
                · have e0 : decide ((j : Int) < (l0.length : Int)) = true := decide_eq_true (by omega)
                  have e1 : decide (j < l0.length) = true := decide_eq_true c4
                  have hj : j < (good ++ bad).length := by rw [HE.out]; exact c4
                  obtain ⟨ad2, cs2, hA2, _, hKs2, hcell2⟩ := Kd.C_get HC6.out.2 ByteArray.empty (j : Int) (by omega) (by omega)
                  subst hA2
                  have hin2 := hcell2 0 (.string (good ++ bad)[j]) (by rw [show cs2 = _ from hKs2]; simp [List.getD_eq_getElem?_getD, List.getElem?_eq_getElem hj])
                  rw [show Kd.string.sz = 1 from rfl] at hin2
                  simp only [Int.toNat_natCast, Nat.mul_one, Nat.add_zero] at hin2
                  clear hcell2 hKs2
                  have HT4 := Aside0.mk (count_take s j hj)
                  generalize (good ++ bad)[j] = x at hin2 HT4
                  have p4 : (0 : Int) ≤ (j : Int) := by omega
                  have q4 : (j : Int) < (l0.length : Int) := by omega
                  have w4_ : wrap64 ((j : Int) + 1) = (j : Int) + 1 := by have := HLI.out; unfold wrap64; omega
                  have HTB := Aside0.mk (show ((good ++ bad).take j).count s ≤ 60 from Nat.le_trans (List.count_le_length ..) (by rw [List.length_take]; have := HLI.out; omega))
                  clear hj
                  by_cases c5 : x.toList = s.toList
                  · have f0 : (x.toList == s.toList) = true := beq_iff_eq.mpr c5
                    have HX := Aside0.mk (show x = s from toList_inj c5)
                    have w5_ : wrap64 (tm + 1) = tm + 1 := by have := HTM.out; have := HTB.out; unfold wrap64; omega
                    clear c5
                    go_wp2
                    go_roundg (l0.length - j - 1)
                    case measure => have := HK4.out; omega
                    case rel => exact ⟨tm + 1, j + 1, (by first | rfl | (simp [*]; done)), (by first | rfl | (simp [*]; done)), ⟨by rw [HT4.out, if_pos HX.out, HTM.out]; omega⟩, ⟨by have := HK4.out; omega⟩, rfl⟩
                  · have f0 : (x.toList == s.toList) = false := beq_eq_false_iff_ne.mpr c5
                    have HX := Aside0.mk (show ¬ x = s from fun e => c5 (by rw [e]))
                    clear c5
                    go_wp2
                    go_roundg (l0.length - j - 1)
                    case measure => have := HK4.out; omega
                    case rel => exact ⟨tm, j + 1, (by first | rfl | (simp [*]; done)), (by first | rfl | (simp [*]; done)), ⟨by rw [HT4.out, if_neg HX.out, HTM.out]; omega⟩, ⟨by have := HK4.out; omega⟩, rfl⟩
                · have e0 : decide ((j : Int) < (l0.length : Int)) = false := decide_eq_false (by omega)
                  have e1 : decide (j < l0.length) = false := decide_eq_false c4
                  obtain rfl : tm = 1 := by
                    have h1 := HTM.out
                    rw [List.take_of_length_le (by rw [HE.out]; omega), HONE.out] at h1
                    exact h1
                  clear c4
                  go_wp2
                  go_roundg (l0.length - i3 - 1)
                  case measure => have := HK3.out; omega
                  case rel => exact ⟨i3 + 1, (by first | rfl | (simp [*]; done)), ⟨by have := HK3.out; omega⟩, rfl⟩
            · have d0 : decide ((i3 : Int) < (l0.length : Int)) = false := decide_eq_false (by omega)
              have d1 : decide (i3 < l0.length) = false := decide_eq_false c3i
              go_wp2
              go_ret
              exact ⟨rfl, HB6.out⟩
        · rw [List.concat_eq_append] at e
          subst e
          have hpos : 0 < l.length := HI.out.pos l (by simp)
          have cl : decide ((0 : Int) < (l.length : Int)) = true := decide_eq_true (by omega)
          have cl2 : decide (0 < l.length) = true := decide_eq_true hpos
          have HT2 := Aside0.mk (tell_true (p := ⟨q ++ [l], good, bad, tries⟩) rfl hpos)
          have HI2 := Aside0.mk (show Inv l0 ⟨q, good ++ l, bad, wrap64 (tries + 1)⟩ by have z := HI.out.tell true; rw [HT2.out] at z; exact z)
          have HLM := Aside0.mk (HI.out.lim (by have := HN.out; omega))
          have wk : wrap64 ((k : Int) + 1) = (k : Int) + 1 := by have := HK.out; unfold wrap64; omega
          clear hpos
          obtain ⟨lq, hlq⟩ : ∃ x : Int, x = (q.flatten.length : Int) := ⟨_, rfl⟩
          have HLQ := Aside0.mk hlq
          have wl : wrap64 (left - (l.length : Int)) = lq := by
            rw [hlq]
            have h0 := HL.out
            have h1 := HI.out.len
            have h2 := HN.out
            simp only [List.flatten_append, List.flatten_cons, List.flatten_nil, List.append_nil, List.length_append] at h0 h1
            unfold wrap64; omega
          clear hlq
          go_wp2_with (first
            | (go_at_call 13; refine (next_calls g w1.heap.size S2 (q ++ [l]) good bad tries _ HP.out (by rw [nextL_snoc]; have := HLM.out; rw [nextL_snoc] at this; omega)).mono ?_; rintro e w3 ⟨v3, rfl, hR, hb⟩; rw [nextL_snoc] at hR; obtain ⟨A3, c3, ev⟩ := Kd.R_slice hR; subst ev; replace HP := Aside0.mk (HP.out.below hb); replace HB := Aside0.mk (below_step HB.out hb); clear hR hb)
            | (go_at_call 15; refine (tell_to g w1.heap.size S2 ⟨q ++ [l], good, bad, tries⟩ true _ _ _ HP.out HLM.out HT2.out).mono ?_; rintro e w5 ⟨rfl, S5, hP5, hT5⟩; have HP5 := Aside0.mk hP5; have HB5 := Aside0.mk (below_weaken HB.out HLE.out hT5.below); clear hP5 hT5))
          go_roundg (gk - 1)
          case measure => have := HQ.out; simp at this; omega
          case rel => exact ⟨lq, k + 1, S5, ⟨q, good ++ l, bad, wrap64 (tries + 1)⟩, rfl, (by first | rfl | (simp [*]; done)), ⟨by have := HQ.out; simp at this; simp only; omega⟩, ⟨by have := HQ.out; have := HK.out; simp at *; omega⟩, HLQ, ⟨HP5.out⟩, ⟨HI2.out⟩, ⟨HB5.out⟩⟩
end Go.Proofs.Ytdfnpjmebnlfbaa.PAll
