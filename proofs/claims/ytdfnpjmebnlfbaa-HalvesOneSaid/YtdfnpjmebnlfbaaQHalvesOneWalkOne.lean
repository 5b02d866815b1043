import Derived.Test.YtdfnpjmebnlfbaaQHalvesOneAlive
import Derived.Test.YtdfnpjmebnlfbaaQHalvesOneLawsF
import Derived.Test.YtdfnpjmebnlfbaaQHalvesOneOne
import Derived.Test.YtdfnpjmebnlfbaaQHalvesOneSame
import Derived.Deep.RegionWith
import Derived.Shelf.RegionOpenPlain
import Derived.Laws.Runes

namespace Go.Proofs.YtdfnpjmebnlfbaaW.PrintMore
end Go.Proofs.YtdfnpjmebnlfbaaW.PrintMore
set_option linter.unusedVariables false
set_option linter.unusedSimpArgs false
namespace Go.Proofs.Ytdfnpjmebnlfbaa.PAll
open Go Go.Proofs Go.RowKit Go.Proofs.YtdfnpjmebnlfbaaW.PrintWords Go.Proofs.YtdfnpjmebnlfbaaW.PrintLast Go.Proofs.YtdfnpjmebnlfbaaW.PrintMore
theorem lit_str (W : World) (s : ByteArray) : Kd.C Kd.string (W.alloc (.cells #[.string s] 9)) (some ⟨W.heap.size, 0, none⟩) 1 [s] := by
  refine ⟨rfl, by omega, fun _ => ⟨_, rfl, fun j p hj => ?_⟩⟩
  rcases j with _ | j
  · obtain rfl : s = p := by simpa using hj
    refine ⟨[.string s], rfl, rfl, fun i z hu => ?_⟩
    cases i with
    | zero =>
      obtain rfl : Value.string s = z := by simpa using hu
      exact (blk_cell (heap_alloc_new W _) 0).trans rfl
    | succ i => simp at hu
  · simp at hj
set_option maxHeartbeats 16000000 in
set_option maxRecDepth 100000 in
theorem packhorselaw12_HalvesOne.calls (a0 a1 : Int) (r : Bool) (w : World) (h : packhorselaw12_HalvesOne.f a0 a1 = some r) (hr_ : r = true) : Calls Try.prog 5 #[.int .i64 a0, .int .i64 a1] w fun e w' => e = .returned (.bool r) ∧ Below w.heap.size w w' := by
  subst hr_
  clear h
  by_cases k1 : a0 < 1
  · have k1a : decide (a0 < 1) = true := decide_eq_true k1
    clear k1
    go_enter Try.func5, Try.ntmps5
    go_wp2_with (go_at_call 10; refine (alive_calls _).mono ?_; rintro e w1 ⟨rfl, hb⟩; have HB1 := Aside0.mk hb; clear hb)
    go_ret
    exact ⟨rfl, HB1.out⟩
  have k1a : decide (a0 < 1) = false := decide_eq_false k1
  by_cases k2 : 500 < a0
  · have k2a : decide (500 < a0) = true := decide_eq_true k2
    clear k1 k2
    go_enter Try.func5, Try.ntmps5
    go_wp2_with (go_at_call 10; refine (alive_calls _).mono ?_; rintro e w1 ⟨rfl, hb⟩; have HB1 := Aside0.mk hb; clear hb)
    go_ret
    exact ⟨rfl, HB1.out⟩
  have k2a : decide (500 < a0) = false := decide_eq_false k2
  obtain ⟨m, rfl⟩ : ∃ m : Nat, a0 = (m : Int) := ⟨a0.toNat, by omega⟩
  have HM := Aside0.mk (show 1 ≤ m ∧ m ≤ 500 by omega)
  clear k1 k2
  go_enter Try.func5, Try.ntmps5
  go_upto_region 6 with (first
    | (go_at_call 10; refine (alive_calls _).mono ?_; rintro e w1 ⟨rfl, hb⟩; have HB1 := Aside0.mk hb; clear hb)
    | ((with_reducible refine gate_dst (N := 22) rfl ?_); refine Kd.R_lit Kd.string (w0 := w1) w1.heap.size 9 ?hg (N := 22) ?hd (xs := ([] : List ByteArray)) (inner := []) (ok := fun _ => True) (okp := fun _ => True) ?hr ?hp (fun _ hk => hk) trivial (Below.refl _ _) (Nat.le_refl _) (by simp) ?_; (case hd => rfl); (case hg => rfl); (case hr => first | (go_simp; done) | (go_simp; rfl)); (case hp => exact (Reps.none _ _)); intro v2 w2 ho hb hg hn; have HR2 := Aside0.mk ho; have HB2 := Aside0.mk hb; obtain ⟨A2, c2, ev2⟩ := Kd.R_slice ho; subst ev2; clear ho hb hg hn))
  clear k1a k2a
  go_wp2
  go_loopg [5, 6] m (fun kq v5 v6 w' => ∃ (i : Nat), v6 = .int .i64 (i : Int) ∧ Aside0 (kq + i = m) ∧ Aside0 (Kd.R Kd.string 9 w' w1.heap.size (fun _ => True) v5 (namesO i)) ∧ Aside0 (Below w1.heap.size w1 w'))
  case atStart => exact ⟨0, rfl, ⟨by omega⟩, ⟨HR2.out⟩, ⟨HB2.out⟩⟩
  case round =>
    clear HR2 HB2
    obtain ⟨i, rfl, HK, HR, HB⟩ := hrel
    by_cases c : i < m
    · have c0' : decide ((i : Int) < (m : Int)) = true := decide_eq_true (by omega)
      have c0'' : decide (i < m) = true := decide_eq_true c
      have hi := HM.out
      obtain ⟨sa, hsa⟩ : ∃ s, Utf8.encode (97 + (i : Int) % 26) = s := ⟨_, rfl⟩
      obtain ⟨sb, hsb⟩ : ∃ s, Utf8.encode (97 + (i : Int) / 26) = s := ⟨_, rfl⟩
      have hz1 : sa.size = 1 := by rw [← hsa, show (i : Int) % 26 = ((i % 26 : Nat) : Int) from rfl, enc_letter _ (by omega)]; rfl
      have hz2 : sb.size = 1 := by rw [← hsb, show (i : Int) / 26 = ((i / 26 : Nat) : Int) from rfl, enc_letter _ (by omega)]; rfl
      have hsz : (9223372036854775807 < sa.size + sb.size) = False := eq_false (by omega)
      obtain ⟨s0, hs0⟩ : ∃ s, sa ++ sb = s := ⟨_, rfl⟩
      have HSS := Aside0.mk (show s0 = nmO i by rw [← hs0, ← hsa, ← hsb]; rfl)
      clear hz1 hz2
      have w2a : wrap64 ((i : Int) / 26) = (i : Int) / 26 := by unfold wrap64; omega
      have w2b : wrap64 (97 + (i : Int) / 26) = 97 + (i : Int) / 26 := by unfold wrap64; omega
      have w2c : wrap32 (97 + (i : Int) / 26) = 97 + (i : Int) / 26 := by unfold wrap32; omega
      have w2d : wrap64 ((i : Int) + 1) = (i : Int) + 1 := by unfold wrap64; omega
      have HLI := Aside0.mk (show i ≤ 500 by omega)
      clear hi
      obtain ⟨A5, c5, ev⟩ := Kd.R_slice HR.out
      rw [namesO_length] at ev
      subst ev
      go_wp2_with (first | ((with_reducible refine gate_builtin (b := .append) (xs := #[.tmp 28, .tmp 40]) rfl ?_); at_builtin; refine Kd.R_append_rows Kd.string (w0 := w1) w1.heap.size rfl (.tmp 28) (.tmp 40) 22 9 (.string ⟨#[]⟩) 16 rfl Try.underlying22 info9 rfl (by decide) (by omega) (.slice A5 i c5) (namesO i) [s0] _ 1 1 (fun _ => True) (fun _ => False) rfl rfl ?aO ?aR (fun _ _ h => h) (fun _ h => h.elim) ?aF ?aB ?aS ?aL ?_; (case aR => exact lit_str _ _); (case aB => exact below_alloc HB.out _); (case aF => exact (fun _ _ => trivial)); (case aO => exact Kd.R_alloc HR.out _); (case aS => exact (below_alloc HB.out _).size); (case aL => rw [namesO_length]; have := HLI.out; omega); intro v6 w6 ho6 hb6 hg6 hat6; rw [HSS.out, ← namesO_succ] at ho6; have HR6 := Aside0.mk ho6; have HB6 := Aside0.mk hb6; clear ho6 hb6 hg6 hat6))
      go_roundg (gk - 1)
      case measure => have := HK.out; omega
      case rel => exact ⟨i + 1, (by first | rfl | (simp [*]; done)), ⟨by have := HK.out; omega⟩, ⟨HR6.out⟩, ⟨HB6.out⟩⟩
    · have c0' : decide ((i : Int) < (m : Int)) = false := decide_eq_false (by omega)
      have c0'' : decide (i < m) = false := decide_eq_false c
      obtain rfl : i = m := by have := HK.out; omega
      obtain ⟨A5, c5, ev⟩ := Kd.R_slice HR.out
      rw [namesO_length] at ev
      subst ev
      have h7 := (Kd.R_reads' HR.out).2
      rw [namesO_length] at h7
      have HC5 := Aside0.mk h7
      have HBw := Aside0.mk (below_step HB1.out HB.out)
      have z := new_calls A5 c5 (namesO i) _ (by rw [namesO_length]; exact HC5.out.2) (by rw [namesO_length]; exact HC5.out.1) (by rw [namesO_length]; have := HM.out; omega) (namesO_size HM.out.2)
      rw [namesO_length] at z
      have HNEW := Aside0.mk z
      clear h7 HR c HK z HB c0' c0''
      generalize wr = wn at HC5 HBw HNEW ⊢
      go_upto_region 13 with (go_at_call 11; refine HNEW.out.mono ?_; rintro e w3 ⟨hb2, h2⟩; rcases h2 with ⟨hnd, g, S, rfl, hP⟩ | ⟨hnd, rfl⟩; (rotate_left; exact absurd (namesO_nodup HM.out.2) hnd); have HBn := Aside0.mk hb2; have HP := Aside0.mk hP; clear hb2 hP hnd)
      have hne : namesO i ≠ [] := fun e => by have h1 := namesO_length i; rw [e] at h1; have := HM.out; simp at h1; omega
      have HINV := Aside0.mk (show InvB (namesO i) (bdO i a1) ⟨firstL (namesO i), [], [], 0⟩ (cost (bdO i a1) (namesO i)) by have z := invB_first (namesO i) (bdO i a1); rw [if_neg hne] at z; exact z)
      have HCOST := Aside0.mk (one_cost a1 HM.out.1 HM.out.2)
      have HNE := Aside0.mk hne
      clear hne HNEW
      go_wp2
      go_loopg [9] (cost (bdO i a1) (namesO i)) (fun kq v9 w' => ∃ (S' : Nat → Prop) (p : Pl), Aside0 (PlanP w' wn.heap.size g S' p) ∧ Aside0 (InvB (namesO i) (bdO i a1) p kq) ∧ Aside0 (Below wn.heap.size wn w'))
      case atStart => exact ⟨S, ⟨firstL (namesO i), [], [], 0⟩, ⟨HP.out⟩, HINV, HBn⟩
      case round =>
        clear HINV HP HBn
        obtain ⟨S1, p, HP, HI, HB⟩ := hrel
        have HLM := Aside0.mk (HI.out.lim (by rw [namesO_length]; have := HM.out; omega))
        obtain ⟨rest, good, bad, tries⟩ := p
        rcases List.eq_nil_or_concat rest with e | ⟨q, l, e⟩
        · subst e
          obtain ⟨hg, hbd, htr⟩ := HI.out.ends rfl
          simp only at hg hbd htr
          rw [if_neg HNE.out] at htr
          have HG := Aside0.mk hg
          have HBD := Aside0.mk hbd
          have HTR := Aside0.mk htr
          clear hg hbd htr
          go_wp2_with (go_at_call 13; refine (next_calls g wn.heap.size S1 [] good bad tries _ HP.out (by simp [nextL])).mono ?_; rintro e w5 ⟨v5, rfl, hR, hb⟩; have hR := (show Kd.R Kd.string 9 w5 _ (fun _ => True) v5 [] from hR); obtain ⟨A6, c6, ev⟩ := Kd.R_slice hR; subst ev; replace HP := Aside0.mk (HP.out.below hb); replace HB := Aside0.mk (HB.out.trans (hb.mono HB.out.size)); clear hR hb)
          go_loopg [12, 13] (Pure.bl (i - 1)) (fun kq v12 v13 w' => ∃ (d n : Nat), v12 = .int .i64 (d : Int) ∧ v13 = .int .i64 (n : Int) ∧ Aside0 (n = 2 ^ d) ∧ Aside0 (kq + d = Pure.bl (i - 1)) ∧ w' = w5)
          case atStart => exact ⟨0, 1, rfl, rfl, ⟨rfl⟩, ⟨by omega⟩, rfl⟩
          case round =>
            obtain ⟨d, n, rfl, rfl, HN2, HD, rfl⟩ := hrel
            have HDB := Aside0.mk (show d ≤ 20 by
              have h1 := HD.out
              have h2 : Pure.bl (i - 1) ≤ 20 := Pure.bl_small (by have := HM.out; omega)
              omega)
            by_cases cn : n < i
            · have e0 : decide ((n : Int) < (i : Int)) = true := decide_eq_true (by omega)
              have e1 : decide (n < i) = true := decide_eq_true cn
              have wd : wrap64 ((d : Int) + 1) = ((d + 1 : Nat) : Int) := by have := HDB.out; unfold wrap64; omega
              have w2n : wrap64 (2 * (n : Int)) = ((2 * n : Nat) : Int) := by have := HM.out; unfold wrap64; omega
              have HDL := Aside0.mk (show d < Pure.bl (i - 1) from Nat.lt_of_not_le (fun h => by
                have h1 := (Pure.bl_le (i - 1) d).1 h
                have h2 := HN2.out
                omega))
              go_wp2
              go_roundg (gk - 1)
              case measure => have := HD.out; have := HDL.out; omega
              case rel => exact ⟨d + 1, 2 * n, (by first | rfl | (simp [*]; done)), (by first | rfl | (simp [*]; done)), ⟨by rw [HN2.out, Nat.pow_succ, Nat.mul_comm]⟩, ⟨by have := HD.out; have := HDL.out; omega⟩, rfl⟩
            · have e0 : decide ((n : Int) < (i : Int)) = false := decide_eq_false (by omega)
              have e1 : decide (n < i) = false := decide_eq_false cn
              have HI2 := Aside0.mk (show i ≤ 2 ^ d by have := HN2.out; omega)
              clear cn
              by_cases rr : 0 ≤ a1 ∧ a1 < (i : Int)
              · obtain ⟨hf, hc⟩ := one_in HM.out.2 rr
                have hcd := hc d HI2.out
                obtain ⟨r1, r2⟩ := rr
                have r1b : decide (a1 < 0) = false := decide_eq_false (by omega)
                have r2b : decide ((i : Int) ≤ a1) = false := decide_eq_false (by omega)
                have ex : (List.filter (bdO i a1) (namesO i)).length = 1 := by rw [hf]; rfl
                obtain rfl : bad = [nmO a1.toNat] := by rw [HBD.out, hf]
                have wd : wrap64 (2 * (d : Int)) = 2 * (d : Int) := by have := HDB.out; unfold wrap64; omega
                have wd2 : wrap64 (2 * (d : Int) + 1) = 2 * (d : Int) + 1 := by have := HDB.out; unfold wrap64; omega
                have wdk : IntKind.i64.wrap (2 * (d : Int)) = 2 * (d : Int) := (i64_w _).trans wd
                have wdk2 : IntKind.i64.wrap (2 * (d : Int) + 1) = 2 * (d : Int) + 1 := (i64_w _).trans wd2
                have ct : decide (tries ≤ 2 * (d : Int) + 1) = true := decide_eq_true (by rw [HTR.out]; omega)
                obtain ⟨ad2, cs2, hA2, _, hKs2, hcell2⟩ := Kd.C_get (Kd.C_below HC5.out.2 HB.out) ByteArray.empty a1 r1 r2
                have hnm : (namesO i).getD a1.toNat ByteArray.empty = nmO a1.toNat := by
                  rw [List.getD_eq_getElem?_getD, List.getElem?_eq_getElem (by rw [namesO_length]; omega), namesO_get (by omega)]; rfl
                have hin2 := hcell2 0 (.string (nmO a1.toNat)) (by rw [show cs2 = _ from hKs2, hnm]; rfl)
                rw [show Kd.string.sz = 1 from rfl] at hin2
                simp only [Nat.mul_one, Nat.add_zero] at hin2
                subst hA2
                clear hcell2 hKs2 hnm hf hc hcd ex HBD
                generalize nmO a1.toNat = s at hin2 HP
                have f0 : (s.toList == s.toList) = true := beq_self_eq_true _
                go_wp2
                have HPd := Aside0.mk (HP.out.below (Below.refl _ _).drew)
                have HBd := Aside0.mk HB.out.drew
                have hin2d := pw_cell_below (below_drew (Below.refl _ _)) hin2
                go_region_with (first
                    | (go_at_call 17; refine (tries_calls g wn.heap.size S1 [] good [s] tries _ HPd.out).mono ?_; rintro e w8 ⟨rfl, rfl⟩)
                    | (go_at_call 19; refine (bad_calls g wn.heap.size S1 [] good [s] tries _ HPd.out (by simp)).mono ?_; rintro e w9 ⟨v9, rfl, hR, hb⟩; have HP9 := Aside0.mk (HPd.out.below hb); have HB9 := Aside0.mk (HBd.out.trans (hb.mono HBd.out.size)); obtain ⟨A9, c9, ev⟩ := Kd.R_slice hR; subst ev; obtain ⟨a9, ea9, hc9⟩ := cell_first (Kd.R_reads' hR).2.2; subst ea9; have hin9 := pw_cell_below hb hin2d; clear hR hb)
                    | (go_at_call 19; refine (bad_calls g wn.heap.size S1 [] good [s] tries _ HP9.out (by simp)).mono ?_; rintro e w10 ⟨v10, rfl, hR, hb⟩; have HB10 := Aside0.mk (HB9.out.trans (hb.mono HB9.out.size)); obtain ⟨A10, c10, ev⟩ := Kd.R_slice hR; subst ev; obtain ⟨a10, ea10, hc10⟩ := cell_first (Kd.R_reads' hR).2.2; subst ea10; have hin10 := pw_cell_below hb hin9; clear hR hb))
                all_goals go_wp2
                all_goals go_ret
                all_goals exact ⟨rfl, below_step HBw.out HB10.out⟩
              · obtain ⟨hc1, hgl⟩ := one_out rr
                rw [← HG.out] at hgl
                obtain rfl : tries = 1 := by rw [HTR.out, hc1]; rfl
                clear hc1 HG HBD HTR
                by_cases r1 : 0 ≤ a1
                · have r1b : decide (a1 < 0) = false := decide_eq_false (by omega)
                  have r2b : decide ((i : Int) ≤ a1) = true := decide_eq_true (by omega)
                  have HGL := Aside0.mk hgl
                  have HLM2 := Aside0.mk (show good.length < 8796093022208 by have := HM.out; omega)
                  clear rr r1 hgl
                  go_wp2_with (first
                    | (go_at_call 17; refine (tries_calls g wn.heap.size S1 [] good bad 1 _ HP.out).mono ?_; rintro e w8 ⟨rfl, rfl⟩)
                    | (go_at_call 18; refine (good_calls g wn.heap.size S1 [] good bad 1 _ HP.out HLM2.out).mono ?_; rintro e w9 ⟨v9, rfl, hR, hb⟩; obtain ⟨A9, c9, ev⟩ := Kd.R_slice hR; rw [HGL.out] at ev; subst ev; replace HB := Aside0.mk (HB.out.trans (hb.mono HB.out.size)); clear hR hb))
                  go_ret
                  exact ⟨rfl, below_step HBw.out HB.out⟩
                · have r1b : decide (a1 < 0) = true := decide_eq_true (by omega)
                  have HGL := Aside0.mk hgl
                  have HLM2 := Aside0.mk (show good.length < 8796093022208 by have := HM.out; omega)
                  clear rr r1 hgl
                  go_wp2_with (first
                    | (go_at_call 17; refine (tries_calls g wn.heap.size S1 [] good bad 1 _ HP.out).mono ?_; rintro e w8 ⟨rfl, rfl⟩)
                    | (go_at_call 18; refine (good_calls g wn.heap.size S1 [] good bad 1 _ HP.out HLM2.out).mono ?_; rintro e w9 ⟨v9, rfl, hR, hb⟩; obtain ⟨A9, c9, ev⟩ := Kd.R_slice hR; rw [HGL.out] at ev; subst ev; replace HB := Aside0.mk (HB.out.trans (hb.mono HB.out.size)); clear hR hb))
                  go_ret
                  exact ⟨rfl, below_step HBw.out HB.out⟩
        · rw [List.concat_eq_append] at e
          subst e
          have hpos : 0 < l.length := HI.out.pos l (by simp)
          have cl : decide ((0 : Int) < (l.length : Int)) = true := decide_eq_true (by omega)
          have cl2 : decide (0 < l.length) = true := decide_eq_true hpos
          have HLL := Aside0.mk (show l.length ≤ 1000000 by have := HLM.out.1; rw [nextL_snoc] at this; exact this)
          obtain ⟨p2, left2, ht, hi2, hl2⟩ := HI.out.tell rfl (Nat.le_trans HCOST.out (by decide))
          have HTL := Aside0.mk ht
          have HI2 := Aside0.mk hi2
          have HL2 := Aside0.mk hl2
          have ct : decide (1000 < p2.tries) = false := decide_eq_false (by
            have h1 := hi2.tries
            rw [if_neg HNE.out] at h1
            have := HCOST.out
            omega)
          clear hpos ht hi2 hl2
          go_wp2_with (go_at_call 13; refine (next_calls g wn.heap.size S1 (q ++ [l]) good bad tries _ HP.out (by rw [nextL_snoc]; have := HLL.out; omega)).mono ?_; rintro e w5 ⟨v5, rfl, hR, hb⟩; rw [nextL_snoc] at hR; obtain ⟨A6, c6, ev⟩ := Kd.R_slice hR; subst ev; replace HP := Aside0.mk (HP.out.below hb); replace HB := Aside0.mk (HB.out.trans (hb.mono HB.out.size)); have HC6 := Aside0.mk (Kd.R_reads' hR).2; clear hR hb)
          go_loopg [9, 60] l.length (fun kq v9 v60 w' => ∃ (j : Nat), v9 = .bool (okRow (bdO i a1) (l.take j)) ∧ v60 = .int .i64 (j : Int) ∧ Aside0 (kq + j = l.length) ∧ w' = w5)
          case atStart => exact ⟨0, rfl, rfl, ⟨by omega⟩, rfl⟩
          case round =>
            obtain ⟨j, rfl, rfl, HJ, rfl⟩ := hrel
            by_cases cj : j < l.length
            · have e0 : decide ((j : Int) < (l.length : Int)) = true := decide_eq_true (by omega)
              have e1 : decide (j < l.length) = true := decide_eq_true cj
              obtain ⟨ad, cs, hA, _, hKs, hcell⟩ := Kd.C_get HC6.out.2 ByteArray.empty (j : Int) (by omega) (by omega)
              subst hA
              have hin := hcell 0 (.string l[j]) (by rw [show cs = _ from hKs]; simp [List.getD_eq_getElem?_getD, List.getElem?_eq_getElem cj])
              rw [show Kd.string.sz = 1 from rfl] at hin
              simp only [Int.toNat_natCast, Nat.mul_one, Nat.add_zero] at hin
              clear hcell hKs
              have HOK := Aside0.mk (okRow_take (bd := bdO i a1) j cj)
              generalize l[j] = x at hin HOK
              have p4 : (0 : Int) ≤ (j : Int) := by omega
              have q4 : (j : Int) < (l.length : Int) := by omega
              have w4_ : wrap64 ((j : Int) + 1) = (j : Int) + 1 := by have := HLL.out; unfold wrap64; omega
              cases hb : okRow (bdO i a1) (l.take j) with
              | false =>
                have HN1 := Aside0.mk (show okRow (bdO i a1) (l.take (j + 1)) = false by rw [HOK.out, hb]; rfl)
                clear hb
                go_wp2
                go_roundg (l.length - j - 1)
                case measure => have := HJ.out; omega
                case rel => exact ⟨j + 1, by rw [HN1.out], (by first | rfl | (simp [*]; done)), ⟨by have := HJ.out; omega⟩, rfl⟩
              | true =>
                have HN1 := Aside0.mk (show okRow (bdO i a1) (l.take (j + 1)) = !bdO i a1 x by rw [HOK.out, hb]; rfl)
                clear hb
                by_cases r1 : 0 ≤ a1
                · have r1a : decide (0 ≤ a1) = true := decide_eq_true r1
                  by_cases r2 : a1 < (i : Int)
                  · have r2a : decide (a1 < (i : Int)) = true := decide_eq_true r2
                    have HBD := Aside0.mk (bdO_in ⟨r1, r2⟩ x)
                    obtain ⟨ad2, cs2, hA2, _, hKs2, hcell2⟩ := Kd.C_get (Kd.C_below HC5.out.2 HB.out) ByteArray.empty a1 r1 r2
                    have hnm : (namesO i).getD a1.toNat ByteArray.empty = nmO a1.toNat := by
                      rw [List.getD_eq_getElem?_getD, List.getElem?_eq_getElem (by rw [namesO_length]; omega), namesO_get (by omega)]; rfl
                    have hin2 := hcell2 0 (.string (nmO a1.toNat)) (by rw [show cs2 = _ from hKs2, hnm]; rfl)
                    rw [show Kd.string.sz = 1 from rfl] at hin2
                    simp only [Nat.mul_one, Nat.add_zero] at hin2
                    subst hA2
                    clear hcell2 hKs2 hnm
                    generalize nmO a1.toNat = s at hin2 HBD
                    by_cases c5 : x.toList = s.toList
                    · have f0 : (x.toList == s.toList) = true := beq_iff_eq.mpr c5
                      have HX := Aside0.mk (show (x == s) = true from beq_iff_eq.2 (toList_inj c5))
                      clear c5
                      go_wp2
                      go_roundg (l.length - j - 1)
                      case measure => have := HJ.out; omega
                      case rel => exact ⟨j + 1, by rw [HN1.out, HBD.out, HX.out]; rfl, (by first | rfl | (simp [*]; done)), ⟨by have := HJ.out; omega⟩, rfl⟩
                    · have f0 : (x.toList == s.toList) = false := beq_eq_false_iff_ne.mpr c5
                      have HX := Aside0.mk (show (x == s) = false from beq_eq_false_iff_ne.2 (fun e => c5 (by rw [e])))
                      clear c5
                      go_wp2
                      go_roundg (l.length - j - 1)
                      case measure => have := HJ.out; omega
                      case rel => exact ⟨j + 1, by rw [HN1.out, HBD.out, HX.out]; rfl, (by first | rfl | (simp [*]; done)), ⟨by have := HJ.out; omega⟩, rfl⟩
                  · have r2a : decide (a1 < (i : Int)) = false := decide_eq_false r2
                    have HBD := Aside0.mk (bdO_out (m := i) (a := a1) (fun h => r2 h.2) x)
                    clear r1 r2
                    go_wp2
                    go_roundg (l.length - j - 1)
                    case measure => have := HJ.out; omega
                    case rel => exact ⟨j + 1, by rw [HN1.out, HBD.out]; rfl, (by first | rfl | (simp [*]; done)), ⟨by have := HJ.out; omega⟩, rfl⟩
                · have r1a : decide (0 ≤ a1) = false := decide_eq_false r1
                  have HBD := Aside0.mk (bdO_out (m := i) (a := a1) (fun h => r1 h.1) x)
                  clear r1
                  go_wp2
                  go_roundg (l.length - j - 1)
                  case measure => have := HJ.out; omega
                  case rel => exact ⟨j + 1, by rw [HN1.out, HBD.out]; rfl, (by first | rfl | (simp [*]; done)), ⟨by have := HJ.out; omega⟩, rfl⟩
            · have e0 : decide ((j : Int) < (l.length : Int)) = false := decide_eq_false (by omega)
              have e1 : decide (j < l.length) = false := decide_eq_false cj
              have HTK := Aside0.mk (show l.take j = l from List.take_of_length_le (by omega))
              rw [HTK.out]
              clear cj
              generalize okRow (bdO i a1) l = okb at HTL ⊢
              go_wp2_with (first
                | (go_at_call 15; refine (tell_to g wn.heap.size S1 ⟨q ++ [l], good, bad, tries⟩ okb _ _ _ HP.out HLM.out HTL.out).mono ?_; rintro e w7 ⟨rfl, S7, hP7, hT7⟩; have HP7 := Aside0.mk hP7; have HB7 := Aside0.mk (HB.out.trans hT7.below); clear hP7 hT7)
                | (go_at_call 17; refine (tries_calls g wn.heap.size S7 p2.rest p2.good p2.bad p2.tries _ HP7.out).mono ?_; rintro e w8 ⟨rfl, rfl⟩))
              go_roundg left2
              case measure => have := HL2.out; omega
              case rel => exact ⟨S7, p2, ⟨HP7.out⟩, ⟨HI2.out⟩, ⟨HB7.out⟩⟩
end Go.Proofs.Ytdfnpjmebnlfbaa.PAll
