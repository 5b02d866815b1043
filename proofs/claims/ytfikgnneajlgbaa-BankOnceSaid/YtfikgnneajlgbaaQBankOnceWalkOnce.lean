
import Derived.Test.YtfikgnneajlgbaaQBankOnceBankLaw
import Derived.Test.YtfikgnneajlgbaaQBankOnceLawsF
set_option linter.unusedVariables false
set_option linter.unusedSimpArgs false
namespace Go.Proofs.Ytfikgnneajlgbaa.PAll
open Go Go.Proofs Go.RowKit Go.Proofs.YtfikgnneajlgbaaW.PrintWords Go.Proofs.YtfikgnneajlgbaaW.PrintLast Go.Proofs.YtfikgnneajlgbaaW.PrintMore Go.Maps
def OnceS (t : Int) (a : Acc) (vd : Bool) : Prop := (a = ⟨t, 0, true, 0⟩ ∧ vd = false) ∨ (a = ⟨0, t, false, 1⟩ ∧ vd = false) ∨ (a = ⟨0, 0, false, 0⟩ ∧ vd = true)
theorem once_start (t : Int) (h0 : 0 ≤ t) (h1 : t ≤ 1000000000000) : ∃ st, bk0.answer (-1) 2 idA (askA t) = (true, st) ∧ st.bad = [] ∧ st.acc idA = ⟨t, 0, true, 0⟩ := by
  have hr : rightT t = true := by unfold rightT; rw [decide_eq_true h0, decide_eq_true h1]; rfl
  have ha : askA t acc0 = (true, ⟨t, 0, true, 0⟩) := by unfold askA; rw [hr]; rfl
  refine ⟨(bk0.answer (-1) 2 idA (askA t)).2, ?_, rfl, ?_⟩
  · have h : (bk0.answer (-1) 2 idA (askA t)).1 = (askA t acc0).1 := rfl
    rw [ha] at h
    exact Prod.ext h rfl
  · have h : (bk0.answer (-1) 2 idA (askA t)).2.acc idA = (askA t acc0).2 := rfl
    rw [h, ha]
theorem askC_H {t : Int} (h0 : 0 ≤ t) (h1 : t ≤ 1000000000000) : (askC ⟨t, 0, true, 0⟩).2 = ⟨0, t, false, 1⟩ := by
  unfold askC
  have e1 : wrap64 (0 + t) = t := by unfold wrap64; omega
  have e2 : mn t 1000000000000 = t := by unfold mn; rw [if_neg (by omega)]
  have e3 : wrap64 (0 + 1) = 1 := by unfold wrap64; omega
  simp only [Bool.true_and, e1, e2, e3, if_true, if_false, Bool.false_eq_true, reduceIte]
theorem askC_P (t : Int) : (askC ⟨0, t, false, 1⟩).2 = ⟨0, t, false, 1⟩ := rfl
theorem askC_V : (askC ⟨0, 0, false, 0⟩).2 = ⟨0, 0, false, 0⟩ := rfl
theorem askV_H (t : Int) : (askV ⟨t, 0, true, 0⟩).2 = ⟨0, 0, false, 0⟩ := rfl
theorem askV_P (t : Int) : (askV ⟨0, t, false, 1⟩).2 = ⟨0, t, false, 1⟩ := rfl
theorem askV_V : (askV ⟨0, 0, false, 0⟩).2 = ⟨0, 0, false, 0⟩ := rfl
theorem cells28 {W : World} {g : Nat} {a b c d e : Value} (h : W.heap[g]? = some (.cells #[a, b, c, d, e] 28 (0, 0))) : W.cell? ⟨g, 0, none⟩ = some a ∧ W.cell? ⟨g, 1, none⟩ = some b ∧ W.cell? ⟨g, 2, none⟩ = some c ∧ W.cell? ⟨g, 3, none⟩ = some d ∧ W.cell? ⟨g, 4, none⟩ = some e :=
  ⟨(blk_cell h 0).trans rfl, (blk_cell h 1).trans rfl, (blk_cell h 2).trans rfl, (blk_cell h 3).trans rfl, (blk_cell h 4).trans rfl⟩
theorem keep28 {W W1 : World} {g : Nat} {cs : Array Value} (hk : KeepO refObj W W1) (h : W.heap[g]? = some (.cells cs 28 (0, 0))) : W1.heap[g]? = some (.cells cs 28 (0, 0)) := hk.2 _ _ h ⟨by decide, by decide, by decide⟩
theorem wfm1 : (Lit.int .i64 (-1)).wf = true := by decide
set_option maxHeartbeats 32000000 in
set_option maxRecDepth 100000 in
theorem packhorselaw20_BankOnce.calls (t : Int) (A1 : Option Addr) (c1 : Nat) (l1 : List S28) (r : Bool) (w : World) (hr1 : Kd.C k28 w A1 l1.length l1) (hc1 : l1.length ≤ c1) (h : packhorselaw20_BankOnce.f t l1 = some r) (hr_ : r = true) :
    Calls Try.prog 3 #[.int .i64 t, .slice A1 l1.length c1] w fun e w' => e = .returned (.bool r) ∧ Below w.heap.size w w' := by
  subst hr_
  have hs : (Lit.int .i64 t).wf = true ∧ ∀ x ∈ l1, okAct x := by
    by_cases q : (Lit.int .i64 t).wf = true ∧ ∀ x ∈ l1, okAct x
    · exact q
    · unfold packhorselaw20_BankOnce.f at h; rw [if_neg q] at h; cases h
  clear h
  have HR1 := Aside0.mk hr1
  have HC1 := Aside0.mk hc1
  have HOK := Aside0.mk hs.2
  clear hr1 hc1 hs
  by_cases k1 : t < 0
  · have k1a : decide (t < 0) = true := decide_eq_true k1
    clear k1
    go_enter Try.func3, Try.ntmps3
    go_wp2_with (go_at_call 6; refine (alive_calls _).mono ?_; rintro e w1 ⟨rfl, hb⟩; have HB1 := Aside0.mk hb; clear hb)
    go_ret
    exact ⟨rfl, HB1.out⟩
  have k1a : decide (t < 0) = false := decide_eq_false k1
  by_cases k2 : 1000000000000 < t
  · have k2a : decide (1000000000000 < t) = true := decide_eq_true k2
    clear k1 k2
    go_enter Try.func3, Try.ntmps3
    go_wp2_with (go_at_call 6; refine (alive_calls _).mono ?_; rintro e w1 ⟨rfl, hb⟩; have HB1 := Aside0.mk hb; clear hb)
    go_ret
    exact ⟨rfl, HB1.out⟩
  have k2a : decide (1000000000000 < t) = false := decide_eq_false k2
  by_cases k3 : 80 < l1.length
  · have k3a : decide ((80 : Int) < (l1.length : Int)) = true := decide_eq_true (by omega)
    have k3b : decide (80 < l1.length) = true := decide_eq_true k3
    clear k1 k2 k3
    go_enter Try.func3, Try.ntmps3
    go_wp2_with (go_at_call 6; refine (alive_calls _).mono ?_; rintro e w1 ⟨rfl, hb⟩; have HB1 := Aside0.mk hb; clear hb)
    go_ret
    exact ⟨rfl, HB1.out⟩
  have k3a : decide ((80 : Int) < (l1.length : Int)) = false := decide_eq_false (by omega)
  have k3b : decide (80 < l1.length) = false := decide_eq_false k3
  have HT := Aside0.mk (show 0 ≤ t ∧ t ≤ 1000000000000 by omega)
  have HN := Aside0.mk (show l1.length ≤ 80 by omega)
  clear k1 k2 k3
  obtain ⟨st0, hst0, hbd0, hac0⟩ := once_start t HT.out.1 HT.out.2
  have HST := Aside0.mk hst0
  have HI0 := Aside0.mk (show st0.bad = [] ∧ st0.acc idA = ⟨t, 0, true, 0⟩ from ⟨hbd0, hac0⟩)
  clear hst0 hbd0 hac0
  go_enter Try.func3, Try.ntmps3
  go_upto_region 9 with (first
    | (go_at_call 6; refine (alive_calls _).mono ?_; rintro e w1 ⟨rfl, hb⟩; have HB1 := Aside0.mk hb; clear hb)
    | (go_at_call 7; refine (new_calls _).mono ?_; rintro e w2 ⟨g, rfl, hS, hb⟩; have HS2 := Aside0.mk hS; have HB2 := Aside0.mk (below_step HB1.out hb); clear hS hb)
    | (go_at_call 8; refine (authorise_calls (-1) t idA HS2.out (by decide) wfm1 szA (by decide)).mono ?_; rintro e w3 ⟨rfl, hS, _, hb⟩; rw [HST.out] at hS ⊢; have HS3 := Aside0.mk hS; have HB3 := Aside0.mk (below_weaken HB2.out HB1.out.size hb); clear hS hb))
  have HLE := Aside0.mk HB1.out.size
  clear k1a k2a k3a k3b HB2 HS2 HB1
  go_wp2
  go_loopg [36, 6] l1.length (fun kq v36 v6 w' => ∃ (i n : Nat) (st : Bk) (a : Acc) (vd : Bool), v36 = .int .i64 (i : Int) ∧ v6 = .bool vd ∧ Aside0 (kq + i = l1.length) ∧ Aside0 (BankS w' w1.heap.size g n st) ∧ Aside0 (n ≤ 40 * i + 2) ∧ Aside0 (st.bad = [] ∧ st.acc idA = a ∧ OnceS t a vd) ∧ Aside0 (Below w.heap.size w w'))
  case atStart => exact ⟨0, 2, st0, ⟨t, 0, true, 0⟩, false, rfl, rfl, ⟨by omega⟩, HS3, ⟨by omega⟩, ⟨HI0.out.1, HI0.out.2, .inl ⟨rfl, rfl⟩⟩, HB3⟩
  case round =>
    clear HS3 HB3 HI0
    obtain ⟨i, n, st, a, vd, rfl, rfl, HK, HS, HNN, HI, HB⟩ := hrel
    by_cases c : i < l1.length
    · have c0' : decide ((i : Int) < (l1.length : Int)) = true := decide_eq_true (by omega)
      have c0'' : decide (i < l1.length) = true := decide_eq_true c
      obtain ⟨ad, hA, hin0, hin1, hin2, hin3, hin4⟩ := at_T28 (Kd.C_below HR1.out HB.out) (i : Int) (by omega) (by omega)
      subst hA
      have hrd : rd_T28 l1 (i : Int) = l1[i] := by
        unfold rd_T28
        rw [List.getD_eq_getElem?_getD, Int.toNat_natCast, List.getElem?_eq_getElem c]; rfl
      have HX := Aside0.mk (HOK.out l1[i] (List.getElem_mem c))
      rw [hrd] at hin0 hin1 hin2 hin3 hin4
      clear hrd
      generalize l1[i] = el at hin0 hin1 hin2 hin3 hin4 HX
      obtain ⟨kd, o1, ky, tt, idd⟩ := el
      simp only [Int.toNat_natCast] at hin0 hin1 hin2 hin3 hin4
      have p0 : (0 : Int) ≤ (i : Int) := by omega
      have q0 : (i : Int) < (l1.length : Int) := by omega
      have w0 : wrap64 ((i : Int) + 1) = (i : Int) + 1 := by have := HN.out; unfold wrap64; omega
      have HII := Aside0.mk (show i ≤ 80 by have := HN.out; omega)
      go_upto_region 12 with fail
      have B8 := Aside0.mk (blk_new wr (.cells #[.int .i64 kd, .int .i64 o1, .int .i64 ky, .int .i64 tt, .string idd] 28 (0, 0)))
      replace HS := Aside0.mk (HS.out.below (below_alloc (Below.refl wr.heap.size wr) (.cells #[.int .i64 kd, .int .i64 o1, .int .i64 ky, .int .i64 tt, .string idd] 28 (0, 0))))
      replace HB := Aside0.mk (below_alloc HB.out (.cells #[.int .i64 kd, .int .i64 o1, .int .i64 ky, .int .i64 tt, .string idd] 28 (0, 0)))
      clear hin0 hin1 hin2 hin3 hin4
      generalize wr.alloc (.cells #[.int .i64 kd, .int .i64 o1, .int .i64 ky, .int .i64 tt, .string idd] 28 (0, 0)) = w4 at B8 HS HB ⊢
      obtain ⟨hd0, hd1, hd2, hd3, hd4⟩ := cells28 B8.out
      by_cases km : ky = -1
      · have km1 : (ky == -1) = true := beq_iff_eq.mpr km
        clear km
        go_wp2
        go_roundg (gk - 1)
        case measure => have := HK.out; omega
        case rel => exact ⟨i + 1, n, st, a, vd, (by first | rfl | (simp [*]; done)), rfl, ⟨by have := HK.out; omega⟩, HS, ⟨by have := HNN.out; omega⟩, HI, HB⟩
      have km1 : (ky == -1) = false := beq_eq_false_iff_ne.mpr km
      clear km
      by_cases k5 : kd = 5
      · have k51 : (kd == 5) = true := beq_iff_eq.mpr k5
        clear k5
        obtain ⟨x, st2, he1, he2, hb2, hacc, _⟩ := ans_twice st ky 5 idA askC
        have HE1 := Aside0.mk he1
        have HE2 := Aside0.mk he2
        have HBD := Aside0.mk (hb2.trans HI.out.1)
        have HBD0 := Aside0.mk HI.out.1
        rw [HI.out.2.1] at hacc
        clear he1 he2 hb2
        rcases HI.out.2.2 with ⟨ea, ev⟩ | ⟨ea, ev⟩ | ⟨ea, ev⟩
        · subst ea; subst ev
          rcases hacc with hacc2 | hacc2
          · have hacc := trivial
            have HA2 := Aside0.mk (show st2.acc idA = ⟨t, 0, true, 0⟩ from hacc2)
            have HA1 := Aside0.mk (show st.acc idA = ⟨t, 0, true, 0⟩ from HI.out.2.1)
            clear hacc2 hacc HI
            go_wp2_with (first
                | (go_at_call 9; refine (capture_calls ky idA HS3.out (by have h1 := HNN.out; have h2 := HII.out; omega) HX.out.2.2.1 szA (by rw [HBD.out]; decide)).mono ?_; rintro e w5 ⟨rfl, hS, hK, hb⟩; rw [HE2.out] at hS ⊢; have HS2 := Aside0.mk hS; replace HB := Aside0.mk (below_weaken HB.out HLE.out hb); replace B8 := Aside0.mk (keep28 hK B8.out); obtain ⟨hd0, hd1, hd2, hd3, hd4⟩ := cells28 B8.out; clear hS hK hb)
                | (go_at_call 9; refine (capture_calls ky idA HS.out (by have h1 := HNN.out; have h2 := HII.out; omega) HX.out.2.2.1 szA (by rw [HBD0.out]; decide)).mono ?_; rintro e w5 ⟨rfl, hS, hK, hb⟩; rw [HE1.out] at hS ⊢; have HS3 := Aside0.mk hS; replace HB := Aside0.mk (below_weaken HB.out HLE.out hb); replace B8 := Aside0.mk (keep28 hK B8.out); obtain ⟨hd0, hd1, hd2, hd3, hd4⟩ := cells28 B8.out; clear hS hK hb)
                | (go_at_call 10; refine (captures_calls idA HS2.out (by have h1 := HNN.out; have h2 := HII.out; omega) szA).mono ?_; rintro e w6 ⟨rfl, hS, hK, hb⟩; simp only [HA2.out]; replace HS2 := Aside0.mk hS; replace HB := Aside0.mk (below_weaken HB.out HLE.out hb); replace B8 := Aside0.mk (keep28 hK B8.out); obtain ⟨hd0, hd1, hd2, hd3, hd4⟩ := cells28 B8.out; clear hS hK hb)
                | (go_at_call 13; refine (net_calls idA HS2.out (by have h1 := HNN.out; have h2 := HII.out; omega) szA).mono ?_; rintro e w6 ⟨rfl, hS, hK, hb⟩; simp only [HA2.out]; replace HS2 := Aside0.mk hS; replace HB := Aside0.mk (below_weaken HB.out HLE.out hb); replace B8 := Aside0.mk (keep28 hK B8.out); obtain ⟨hd0, hd1, hd2, hd3, hd4⟩ := cells28 B8.out; clear hS hK hb))
            go_roundg (gk - 1)
            case measure => have := HK.out; omega
            case rel => exact ⟨i + 1, _, st2, ⟨t, 0, true, 0⟩, false, (by first | rfl | (simp [*]; done)), (by first | rfl | (simp [*]; done)), ⟨by have := HK.out; omega⟩, HS2, ⟨by have h1 := HNN.out; omega⟩, ⟨HBD.out, HA2.out, .inl ⟨rfl, rfl⟩⟩, HB⟩
          · rw [show _ = _ from (askC_H HT.out.1 HT.out.2)] at hacc2
            have hacc := trivial
            have HA2 := Aside0.mk (show st2.acc idA = ⟨0, t, false, 1⟩ from hacc2)
            have HA1 := Aside0.mk (show st.acc idA = ⟨t, 0, true, 0⟩ from HI.out.2.1)
            clear hacc2 hacc HI
            cases hz : (t != 0)
            all_goals go_wp2_with (first
                | (go_at_call 9; refine (capture_calls ky idA HS3.out (by have h1 := HNN.out; have h2 := HII.out; omega) HX.out.2.2.1 szA (by rw [HBD.out]; decide)).mono ?_; rintro e w5 ⟨rfl, hS, hK, hb⟩; rw [HE2.out] at hS ⊢; have HS2 := Aside0.mk hS; replace HB := Aside0.mk (below_weaken HB.out HLE.out hb); replace B8 := Aside0.mk (keep28 hK B8.out); obtain ⟨hd0, hd1, hd2, hd3, hd4⟩ := cells28 B8.out; clear hS hK hb)
                | (go_at_call 9; refine (capture_calls ky idA HS.out (by have h1 := HNN.out; have h2 := HII.out; omega) HX.out.2.2.1 szA (by rw [HBD0.out]; decide)).mono ?_; rintro e w5 ⟨rfl, hS, hK, hb⟩; rw [HE1.out] at hS ⊢; have HS3 := Aside0.mk hS; replace HB := Aside0.mk (below_weaken HB.out HLE.out hb); replace B8 := Aside0.mk (keep28 hK B8.out); obtain ⟨hd0, hd1, hd2, hd3, hd4⟩ := cells28 B8.out; clear hS hK hb)
                | (go_at_call 10; refine (captures_calls idA HS2.out (by have h1 := HNN.out; have h2 := HII.out; omega) szA).mono ?_; rintro e w6 ⟨rfl, hS, hK, hb⟩; simp only [HA2.out]; replace HS2 := Aside0.mk hS; replace HB := Aside0.mk (below_weaken HB.out HLE.out hb); replace B8 := Aside0.mk (keep28 hK B8.out); obtain ⟨hd0, hd1, hd2, hd3, hd4⟩ := cells28 B8.out; clear hS hK hb)
                | (go_at_call 13; refine (net_calls idA HS2.out (by have h1 := HNN.out; have h2 := HII.out; omega) szA).mono ?_; rintro e w6 ⟨rfl, hS, hK, hb⟩; simp only [HA2.out]; replace HS2 := Aside0.mk hS; replace HB := Aside0.mk (below_weaken HB.out HLE.out hb); replace B8 := Aside0.mk (keep28 hK B8.out); obtain ⟨hd0, hd1, hd2, hd3, hd4⟩ := cells28 B8.out; clear hS hK hb))
            all_goals go_roundg (gk - 1)
            all_goals first | (have := HK.out; omega) | exact ⟨i + 1, _, st2, ⟨0, t, false, 1⟩, false, (by first | rfl | (simp [*]; done)), (by first | rfl | (simp [*]; done)), ⟨by have := HK.out; omega⟩, HS2, ⟨by have h1 := HNN.out; omega⟩, ⟨HBD.out, HA2.out, .inr (.inl ⟨rfl, rfl⟩)⟩, HB⟩
        · subst ea; subst ev
          have hacc2 : st2.acc idA = ⟨0, t, false, 1⟩ := hacc.elim id (fun e => e.trans (askC_P t))
          have HA2 := Aside0.mk (show st2.acc idA = ⟨0, t, false, 1⟩ from hacc2)
          have HA1 := Aside0.mk (show st.acc idA = ⟨0, t, false, 1⟩ from HI.out.2.1)
          clear hacc2 hacc HI
          cases hz : (t != 0)
          all_goals go_wp2_with (first
              | (go_at_call 9; refine (capture_calls ky idA HS3.out (by have h1 := HNN.out; have h2 := HII.out; omega) HX.out.2.2.1 szA (by rw [HBD.out]; decide)).mono ?_; rintro e w5 ⟨rfl, hS, hK, hb⟩; rw [HE2.out] at hS ⊢; have HS2 := Aside0.mk hS; replace HB := Aside0.mk (below_weaken HB.out HLE.out hb); replace B8 := Aside0.mk (keep28 hK B8.out); obtain ⟨hd0, hd1, hd2, hd3, hd4⟩ := cells28 B8.out; clear hS hK hb)
              | (go_at_call 9; refine (capture_calls ky idA HS.out (by have h1 := HNN.out; have h2 := HII.out; omega) HX.out.2.2.1 szA (by rw [HBD0.out]; decide)).mono ?_; rintro e w5 ⟨rfl, hS, hK, hb⟩; rw [HE1.out] at hS ⊢; have HS3 := Aside0.mk hS; replace HB := Aside0.mk (below_weaken HB.out HLE.out hb); replace B8 := Aside0.mk (keep28 hK B8.out); obtain ⟨hd0, hd1, hd2, hd3, hd4⟩ := cells28 B8.out; clear hS hK hb)
              | (go_at_call 10; refine (captures_calls idA HS2.out (by have h1 := HNN.out; have h2 := HII.out; omega) szA).mono ?_; rintro e w6 ⟨rfl, hS, hK, hb⟩; simp only [HA2.out]; replace HS2 := Aside0.mk hS; replace HB := Aside0.mk (below_weaken HB.out HLE.out hb); replace B8 := Aside0.mk (keep28 hK B8.out); obtain ⟨hd0, hd1, hd2, hd3, hd4⟩ := cells28 B8.out; clear hS hK hb)
              | (go_at_call 13; refine (net_calls idA HS2.out (by have h1 := HNN.out; have h2 := HII.out; omega) szA).mono ?_; rintro e w6 ⟨rfl, hS, hK, hb⟩; simp only [HA2.out]; replace HS2 := Aside0.mk hS; replace HB := Aside0.mk (below_weaken HB.out HLE.out hb); replace B8 := Aside0.mk (keep28 hK B8.out); obtain ⟨hd0, hd1, hd2, hd3, hd4⟩ := cells28 B8.out; clear hS hK hb))
          all_goals go_roundg (gk - 1)
          all_goals first | (have := HK.out; omega) | exact ⟨i + 1, _, st2, ⟨0, t, false, 1⟩, false, (by first | rfl | (simp [*]; done)), (by first | rfl | (simp [*]; done)), ⟨by have := HK.out; omega⟩, HS2, ⟨by have h1 := HNN.out; omega⟩, ⟨HBD.out, HA2.out, .inr (.inl ⟨rfl, rfl⟩)⟩, HB⟩
        · subst ea; subst ev
          have hacc2 : st2.acc idA = ⟨0, 0, false, 0⟩ := hacc.elim id (fun e => e.trans askC_V)
          have HA2 := Aside0.mk (show st2.acc idA = ⟨0, 0, false, 0⟩ from hacc2)
          have HA1 := Aside0.mk (show st.acc idA = ⟨0, 0, false, 0⟩ from HI.out.2.1)
          clear hacc2 hacc HI
          go_wp2_with (first
              | (go_at_call 9; refine (capture_calls ky idA HS3.out (by have h1 := HNN.out; have h2 := HII.out; omega) HX.out.2.2.1 szA (by rw [HBD.out]; decide)).mono ?_; rintro e w5 ⟨rfl, hS, hK, hb⟩; rw [HE2.out] at hS ⊢; have HS2 := Aside0.mk hS; replace HB := Aside0.mk (below_weaken HB.out HLE.out hb); replace B8 := Aside0.mk (keep28 hK B8.out); obtain ⟨hd0, hd1, hd2, hd3, hd4⟩ := cells28 B8.out; clear hS hK hb)
              | (go_at_call 9; refine (capture_calls ky idA HS.out (by have h1 := HNN.out; have h2 := HII.out; omega) HX.out.2.2.1 szA (by rw [HBD0.out]; decide)).mono ?_; rintro e w5 ⟨rfl, hS, hK, hb⟩; rw [HE1.out] at hS ⊢; have HS3 := Aside0.mk hS; replace HB := Aside0.mk (below_weaken HB.out HLE.out hb); replace B8 := Aside0.mk (keep28 hK B8.out); obtain ⟨hd0, hd1, hd2, hd3, hd4⟩ := cells28 B8.out; clear hS hK hb)
              | (go_at_call 10; refine (captures_calls idA HS2.out (by have h1 := HNN.out; have h2 := HII.out; omega) szA).mono ?_; rintro e w6 ⟨rfl, hS, hK, hb⟩; simp only [HA2.out]; replace HS2 := Aside0.mk hS; replace HB := Aside0.mk (below_weaken HB.out HLE.out hb); replace B8 := Aside0.mk (keep28 hK B8.out); obtain ⟨hd0, hd1, hd2, hd3, hd4⟩ := cells28 B8.out; clear hS hK hb)
              | (go_at_call 13; refine (net_calls idA HS2.out (by have h1 := HNN.out; have h2 := HII.out; omega) szA).mono ?_; rintro e w6 ⟨rfl, hS, hK, hb⟩; simp only [HA2.out]; replace HS2 := Aside0.mk hS; replace HB := Aside0.mk (below_weaken HB.out HLE.out hb); replace B8 := Aside0.mk (keep28 hK B8.out); obtain ⟨hd0, hd1, hd2, hd3, hd4⟩ := cells28 B8.out; clear hS hK hb))
          go_roundg (gk - 1)
          case measure => have := HK.out; omega
          case rel => exact ⟨i + 1, _, st2, ⟨0, 0, false, 0⟩, true, (by first | rfl | (simp [*]; done)), (by first | rfl | (simp [*]; done)), ⟨by have := HK.out; omega⟩, HS2, ⟨by have h1 := HNN.out; omega⟩, ⟨HBD.out, HA2.out, .inr (.inr ⟨rfl, rfl⟩)⟩, HB⟩
      · have k51 : (kd == 5) = false := beq_eq_false_iff_ne.mpr k5
        clear k5
        obtain ⟨x, st2, he1, he2, hb2, hacc, _⟩ := ans_twice st ky 6 idA askV
        have HE1 := Aside0.mk he1
        have HE2 := Aside0.mk he2
        have HBD := Aside0.mk (hb2.trans HI.out.1)
        have HBD0 := Aside0.mk HI.out.1
        rw [HI.out.2.1] at hacc
        clear he1 he2 hb2
        rcases HI.out.2.2 with ⟨ea, ev⟩ | ⟨ea, ev⟩ | ⟨ea, ev⟩
        · subst ea; subst ev
          rcases hacc with hacc2 | hacc2
          · have hacc := trivial
            have HA2 := Aside0.mk (show st2.acc idA = ⟨t, 0, true, 0⟩ from hacc2)
            have HA1 := Aside0.mk (show st.acc idA = ⟨t, 0, true, 0⟩ from HI.out.2.1)
            clear hacc2 hacc HI
            go_wp2_with (first
                | (go_at_call 12; refine (void_calls ky idA HS3.out (by have h1 := HNN.out; have h2 := HII.out; omega) HX.out.2.2.1 szA (by rw [HBD.out]; decide)).mono ?_; rintro e w5 ⟨rfl, hS, hK, hb⟩; rw [HE2.out] at hS ⊢; have HS2 := Aside0.mk hS; replace HB := Aside0.mk (below_weaken HB.out HLE.out hb); replace B8 := Aside0.mk (keep28 hK B8.out); obtain ⟨hd0, hd1, hd2, hd3, hd4⟩ := cells28 B8.out; clear hS hK hb)
                | (go_at_call 12; refine (void_calls ky idA HS.out (by have h1 := HNN.out; have h2 := HII.out; omega) HX.out.2.2.1 szA (by rw [HBD0.out]; decide)).mono ?_; rintro e w5 ⟨rfl, hS, hK, hb⟩; rw [HE1.out] at hS ⊢; have HS3 := Aside0.mk hS; replace HB := Aside0.mk (below_weaken HB.out HLE.out hb); replace B8 := Aside0.mk (keep28 hK B8.out); obtain ⟨hd0, hd1, hd2, hd3, hd4⟩ := cells28 B8.out; clear hS hK hb)
                | (go_at_call 10; refine (captures_calls idA HS2.out (by have h1 := HNN.out; have h2 := HII.out; omega) szA).mono ?_; rintro e w6 ⟨rfl, hS, hK, hb⟩; simp only [HA2.out]; replace HS2 := Aside0.mk hS; replace HB := Aside0.mk (below_weaken HB.out HLE.out hb); replace B8 := Aside0.mk (keep28 hK B8.out); obtain ⟨hd0, hd1, hd2, hd3, hd4⟩ := cells28 B8.out; clear hS hK hb)
                | (go_at_call 11; refine (held_calls idA HS2.out (by have h1 := HNN.out; have h2 := HII.out; omega) szA).mono ?_; rintro e w6 ⟨rfl, hS, hK, hb⟩; simp only [HA2.out]; replace HS2 := Aside0.mk hS; replace HB := Aside0.mk (below_weaken HB.out HLE.out hb); replace B8 := Aside0.mk (keep28 hK B8.out); obtain ⟨hd0, hd1, hd2, hd3, hd4⟩ := cells28 B8.out; clear hS hK hb)
                | (go_at_call 13; refine (net_calls idA HS2.out (by have h1 := HNN.out; have h2 := HII.out; omega) szA).mono ?_; rintro e w6 ⟨rfl, hS, hK, hb⟩; simp only [HA2.out]; replace HS2 := Aside0.mk hS; replace HB := Aside0.mk (below_weaken HB.out HLE.out hb); replace B8 := Aside0.mk (keep28 hK B8.out); obtain ⟨hd0, hd1, hd2, hd3, hd4⟩ := cells28 B8.out; clear hS hK hb)
                | (go_at_call 10; refine (captures_calls idA HS.out (by have h1 := HNN.out; have h2 := HII.out; omega) szA).mono ?_; rintro e w6 ⟨rfl, hS, hK, hb⟩; simp only [HA1.out]; replace HS := Aside0.mk hS; replace HB := Aside0.mk (below_weaken HB.out HLE.out hb); replace B8 := Aside0.mk (keep28 hK B8.out); obtain ⟨hd0, hd1, hd2, hd3, hd4⟩ := cells28 B8.out; clear hS hK hb)
                | (go_at_call 11; refine (held_calls idA HS.out (by have h1 := HNN.out; have h2 := HII.out; omega) szA).mono ?_; rintro e w6 ⟨rfl, hS, hK, hb⟩; simp only [HA1.out]; replace HS := Aside0.mk hS; replace HB := Aside0.mk (below_weaken HB.out HLE.out hb); replace B8 := Aside0.mk (keep28 hK B8.out); obtain ⟨hd0, hd1, hd2, hd3, hd4⟩ := cells28 B8.out; clear hS hK hb))
            go_roundg (gk - 1)
            case measure => have := HK.out; omega
            case rel => exact ⟨i + 1, _, st2, ⟨t, 0, true, 0⟩, false, (by first | rfl | (simp [*]; done)), (by first | rfl | (simp [*]; done)), ⟨by have := HK.out; omega⟩, HS2, ⟨by have h1 := HNN.out; omega⟩, ⟨HBD.out, HA2.out, .inl ⟨rfl, rfl⟩⟩, HB⟩
          · rw [show _ = _ from (askV_H t)] at hacc2
            have hacc := trivial
            have HA2 := Aside0.mk (show st2.acc idA = ⟨0, 0, false, 0⟩ from hacc2)
            have HA1 := Aside0.mk (show st.acc idA = ⟨t, 0, true, 0⟩ from HI.out.2.1)
            clear hacc2 hacc HI
            go_wp2_with (first
                | (go_at_call 12; refine (void_calls ky idA HS3.out (by have h1 := HNN.out; have h2 := HII.out; omega) HX.out.2.2.1 szA (by rw [HBD.out]; decide)).mono ?_; rintro e w5 ⟨rfl, hS, hK, hb⟩; rw [HE2.out] at hS ⊢; have HS2 := Aside0.mk hS; replace HB := Aside0.mk (below_weaken HB.out HLE.out hb); replace B8 := Aside0.mk (keep28 hK B8.out); obtain ⟨hd0, hd1, hd2, hd3, hd4⟩ := cells28 B8.out; clear hS hK hb)
                | (go_at_call 12; refine (void_calls ky idA HS.out (by have h1 := HNN.out; have h2 := HII.out; omega) HX.out.2.2.1 szA (by rw [HBD0.out]; decide)).mono ?_; rintro e w5 ⟨rfl, hS, hK, hb⟩; rw [HE1.out] at hS ⊢; have HS3 := Aside0.mk hS; replace HB := Aside0.mk (below_weaken HB.out HLE.out hb); replace B8 := Aside0.mk (keep28 hK B8.out); obtain ⟨hd0, hd1, hd2, hd3, hd4⟩ := cells28 B8.out; clear hS hK hb)
                | (go_at_call 10; refine (captures_calls idA HS2.out (by have h1 := HNN.out; have h2 := HII.out; omega) szA).mono ?_; rintro e w6 ⟨rfl, hS, hK, hb⟩; simp only [HA2.out]; replace HS2 := Aside0.mk hS; replace HB := Aside0.mk (below_weaken HB.out HLE.out hb); replace B8 := Aside0.mk (keep28 hK B8.out); obtain ⟨hd0, hd1, hd2, hd3, hd4⟩ := cells28 B8.out; clear hS hK hb)
                | (go_at_call 11; refine (held_calls idA HS2.out (by have h1 := HNN.out; have h2 := HII.out; omega) szA).mono ?_; rintro e w6 ⟨rfl, hS, hK, hb⟩; simp only [HA2.out]; replace HS2 := Aside0.mk hS; replace HB := Aside0.mk (below_weaken HB.out HLE.out hb); replace B8 := Aside0.mk (keep28 hK B8.out); obtain ⟨hd0, hd1, hd2, hd3, hd4⟩ := cells28 B8.out; clear hS hK hb)
                | (go_at_call 13; refine (net_calls idA HS2.out (by have h1 := HNN.out; have h2 := HII.out; omega) szA).mono ?_; rintro e w6 ⟨rfl, hS, hK, hb⟩; simp only [HA2.out]; replace HS2 := Aside0.mk hS; replace HB := Aside0.mk (below_weaken HB.out HLE.out hb); replace B8 := Aside0.mk (keep28 hK B8.out); obtain ⟨hd0, hd1, hd2, hd3, hd4⟩ := cells28 B8.out; clear hS hK hb)
                | (go_at_call 10; refine (captures_calls idA HS.out (by have h1 := HNN.out; have h2 := HII.out; omega) szA).mono ?_; rintro e w6 ⟨rfl, hS, hK, hb⟩; simp only [HA1.out]; replace HS := Aside0.mk hS; replace HB := Aside0.mk (below_weaken HB.out HLE.out hb); replace B8 := Aside0.mk (keep28 hK B8.out); obtain ⟨hd0, hd1, hd2, hd3, hd4⟩ := cells28 B8.out; clear hS hK hb)
                | (go_at_call 11; refine (held_calls idA HS.out (by have h1 := HNN.out; have h2 := HII.out; omega) szA).mono ?_; rintro e w6 ⟨rfl, hS, hK, hb⟩; simp only [HA1.out]; replace HS := Aside0.mk hS; replace HB := Aside0.mk (below_weaken HB.out HLE.out hb); replace B8 := Aside0.mk (keep28 hK B8.out); obtain ⟨hd0, hd1, hd2, hd3, hd4⟩ := cells28 B8.out; clear hS hK hb))
            go_roundg (gk - 1)
            case measure => have := HK.out; omega
            case rel => exact ⟨i + 1, _, st2, ⟨0, 0, false, 0⟩, true, (by first | rfl | (simp [*]; done)), (by first | rfl | (simp [*]; done)), ⟨by have := HK.out; omega⟩, HS2, ⟨by have h1 := HNN.out; omega⟩, ⟨HBD.out, HA2.out, .inr (.inr ⟨rfl, rfl⟩)⟩, HB⟩
        · subst ea; subst ev
          have hacc2 : st2.acc idA = ⟨0, t, false, 1⟩ := hacc.elim id (fun e => e.trans (askV_P t))
          have HA2 := Aside0.mk (show st2.acc idA = ⟨0, t, false, 1⟩ from hacc2)
          have HA1 := Aside0.mk (show st.acc idA = ⟨0, t, false, 1⟩ from HI.out.2.1)
          clear hacc2 hacc HI
          cases hz : (t != 0)
          all_goals go_wp2_with (first
              | (go_at_call 12; refine (void_calls ky idA HS3.out (by have h1 := HNN.out; have h2 := HII.out; omega) HX.out.2.2.1 szA (by rw [HBD.out]; decide)).mono ?_; rintro e w5 ⟨rfl, hS, hK, hb⟩; rw [HE2.out] at hS ⊢; have HS2 := Aside0.mk hS; replace HB := Aside0.mk (below_weaken HB.out HLE.out hb); replace B8 := Aside0.mk (keep28 hK B8.out); obtain ⟨hd0, hd1, hd2, hd3, hd4⟩ := cells28 B8.out; clear hS hK hb)
              | (go_at_call 12; refine (void_calls ky idA HS.out (by have h1 := HNN.out; have h2 := HII.out; omega) HX.out.2.2.1 szA (by rw [HBD0.out]; decide)).mono ?_; rintro e w5 ⟨rfl, hS, hK, hb⟩; rw [HE1.out] at hS ⊢; have HS3 := Aside0.mk hS; replace HB := Aside0.mk (below_weaken HB.out HLE.out hb); replace B8 := Aside0.mk (keep28 hK B8.out); obtain ⟨hd0, hd1, hd2, hd3, hd4⟩ := cells28 B8.out; clear hS hK hb)
              | (go_at_call 10; refine (captures_calls idA HS2.out (by have h1 := HNN.out; have h2 := HII.out; omega) szA).mono ?_; rintro e w6 ⟨rfl, hS, hK, hb⟩; simp only [HA2.out]; replace HS2 := Aside0.mk hS; replace HB := Aside0.mk (below_weaken HB.out HLE.out hb); replace B8 := Aside0.mk (keep28 hK B8.out); obtain ⟨hd0, hd1, hd2, hd3, hd4⟩ := cells28 B8.out; clear hS hK hb)
              | (go_at_call 11; refine (held_calls idA HS2.out (by have h1 := HNN.out; have h2 := HII.out; omega) szA).mono ?_; rintro e w6 ⟨rfl, hS, hK, hb⟩; simp only [HA2.out]; replace HS2 := Aside0.mk hS; replace HB := Aside0.mk (below_weaken HB.out HLE.out hb); replace B8 := Aside0.mk (keep28 hK B8.out); obtain ⟨hd0, hd1, hd2, hd3, hd4⟩ := cells28 B8.out; clear hS hK hb)
              | (go_at_call 13; refine (net_calls idA HS2.out (by have h1 := HNN.out; have h2 := HII.out; omega) szA).mono ?_; rintro e w6 ⟨rfl, hS, hK, hb⟩; simp only [HA2.out]; replace HS2 := Aside0.mk hS; replace HB := Aside0.mk (below_weaken HB.out HLE.out hb); replace B8 := Aside0.mk (keep28 hK B8.out); obtain ⟨hd0, hd1, hd2, hd3, hd4⟩ := cells28 B8.out; clear hS hK hb)
              | (go_at_call 10; refine (captures_calls idA HS.out (by have h1 := HNN.out; have h2 := HII.out; omega) szA).mono ?_; rintro e w6 ⟨rfl, hS, hK, hb⟩; simp only [HA1.out]; replace HS := Aside0.mk hS; replace HB := Aside0.mk (below_weaken HB.out HLE.out hb); replace B8 := Aside0.mk (keep28 hK B8.out); obtain ⟨hd0, hd1, hd2, hd3, hd4⟩ := cells28 B8.out; clear hS hK hb)
              | (go_at_call 11; refine (held_calls idA HS.out (by have h1 := HNN.out; have h2 := HII.out; omega) szA).mono ?_; rintro e w6 ⟨rfl, hS, hK, hb⟩; simp only [HA1.out]; replace HS := Aside0.mk hS; replace HB := Aside0.mk (below_weaken HB.out HLE.out hb); replace B8 := Aside0.mk (keep28 hK B8.out); obtain ⟨hd0, hd1, hd2, hd3, hd4⟩ := cells28 B8.out; clear hS hK hb))
          all_goals go_roundg (gk - 1)
          all_goals first | (have := HK.out; omega) | exact ⟨i + 1, _, st2, ⟨0, t, false, 1⟩, false, (by first | rfl | (simp [*]; done)), (by first | rfl | (simp [*]; done)), ⟨by have := HK.out; omega⟩, HS2, ⟨by have h1 := HNN.out; omega⟩, ⟨HBD.out, HA2.out, .inr (.inl ⟨rfl, rfl⟩)⟩, HB⟩
        · subst ea; subst ev
          have hacc2 : st2.acc idA = ⟨0, 0, false, 0⟩ := hacc.elim id (fun e => e.trans askV_V)
          have HA2 := Aside0.mk (show st2.acc idA = ⟨0, 0, false, 0⟩ from hacc2)
          have HA1 := Aside0.mk (show st.acc idA = ⟨0, 0, false, 0⟩ from HI.out.2.1)
          clear hacc2 hacc HI
          go_wp2_with (first
              | (go_at_call 12; refine (void_calls ky idA HS3.out (by have h1 := HNN.out; have h2 := HII.out; omega) HX.out.2.2.1 szA (by rw [HBD.out]; decide)).mono ?_; rintro e w5 ⟨rfl, hS, hK, hb⟩; rw [HE2.out] at hS ⊢; have HS2 := Aside0.mk hS; replace HB := Aside0.mk (below_weaken HB.out HLE.out hb); replace B8 := Aside0.mk (keep28 hK B8.out); obtain ⟨hd0, hd1, hd2, hd3, hd4⟩ := cells28 B8.out; clear hS hK hb)
              | (go_at_call 12; refine (void_calls ky idA HS.out (by have h1 := HNN.out; have h2 := HII.out; omega) HX.out.2.2.1 szA (by rw [HBD0.out]; decide)).mono ?_; rintro e w5 ⟨rfl, hS, hK, hb⟩; rw [HE1.out] at hS ⊢; have HS3 := Aside0.mk hS; replace HB := Aside0.mk (below_weaken HB.out HLE.out hb); replace B8 := Aside0.mk (keep28 hK B8.out); obtain ⟨hd0, hd1, hd2, hd3, hd4⟩ := cells28 B8.out; clear hS hK hb)
              | (go_at_call 10; refine (captures_calls idA HS2.out (by have h1 := HNN.out; have h2 := HII.out; omega) szA).mono ?_; rintro e w6 ⟨rfl, hS, hK, hb⟩; simp only [HA2.out]; replace HS2 := Aside0.mk hS; replace HB := Aside0.mk (below_weaken HB.out HLE.out hb); replace B8 := Aside0.mk (keep28 hK B8.out); obtain ⟨hd0, hd1, hd2, hd3, hd4⟩ := cells28 B8.out; clear hS hK hb)
              | (go_at_call 11; refine (held_calls idA HS2.out (by have h1 := HNN.out; have h2 := HII.out; omega) szA).mono ?_; rintro e w6 ⟨rfl, hS, hK, hb⟩; simp only [HA2.out]; replace HS2 := Aside0.mk hS; replace HB := Aside0.mk (below_weaken HB.out HLE.out hb); replace B8 := Aside0.mk (keep28 hK B8.out); obtain ⟨hd0, hd1, hd2, hd3, hd4⟩ := cells28 B8.out; clear hS hK hb)
              | (go_at_call 13; refine (net_calls idA HS2.out (by have h1 := HNN.out; have h2 := HII.out; omega) szA).mono ?_; rintro e w6 ⟨rfl, hS, hK, hb⟩; simp only [HA2.out]; replace HS2 := Aside0.mk hS; replace HB := Aside0.mk (below_weaken HB.out HLE.out hb); replace B8 := Aside0.mk (keep28 hK B8.out); obtain ⟨hd0, hd1, hd2, hd3, hd4⟩ := cells28 B8.out; clear hS hK hb)
              | (go_at_call 10; refine (captures_calls idA HS.out (by have h1 := HNN.out; have h2 := HII.out; omega) szA).mono ?_; rintro e w6 ⟨rfl, hS, hK, hb⟩; simp only [HA1.out]; replace HS := Aside0.mk hS; replace HB := Aside0.mk (below_weaken HB.out HLE.out hb); replace B8 := Aside0.mk (keep28 hK B8.out); obtain ⟨hd0, hd1, hd2, hd3, hd4⟩ := cells28 B8.out; clear hS hK hb)
              | (go_at_call 11; refine (held_calls idA HS.out (by have h1 := HNN.out; have h2 := HII.out; omega) szA).mono ?_; rintro e w6 ⟨rfl, hS, hK, hb⟩; simp only [HA1.out]; replace HS := Aside0.mk hS; replace HB := Aside0.mk (below_weaken HB.out HLE.out hb); replace B8 := Aside0.mk (keep28 hK B8.out); obtain ⟨hd0, hd1, hd2, hd3, hd4⟩ := cells28 B8.out; clear hS hK hb))
          go_roundg (gk - 1)
          case measure => have := HK.out; omega
          case rel => exact ⟨i + 1, _, st2, ⟨0, 0, false, 0⟩, true, (by first | rfl | (simp [*]; done)), (by first | rfl | (simp [*]; done)), ⟨by have := HK.out; omega⟩, HS2, ⟨by have h1 := HNN.out; omega⟩, ⟨HBD.out, HA2.out, .inr (.inr ⟨rfl, rfl⟩)⟩, HB⟩
    · have c0' : decide ((i : Int) < (l1.length : Int)) = false := decide_eq_false (by omega)
      have c0'' : decide (i < l1.length) = false := decide_eq_false c
      have HII := Aside0.mk (show i ≤ 80 by have := HN.out; have := HK.out; omega)
      rcases HI.out.2.2 with ⟨ea, ev⟩ | ⟨ea, ev⟩ | ⟨ea, ev⟩
      · subst ea; subst ev
        have HA1 := Aside0.mk (show st.acc idA = ⟨t, 0, true, 0⟩ from HI.out.2.1)
        clear HI c
        go_wp2_with (first
          | (go_at_call 10; refine (captures_calls idA HS.out (by have h1 := HNN.out; have h2 := HII.out; omega) szA).mono ?_; rintro e w6 ⟨rfl, hS, hK, hb⟩; simp only [HA1.out]; replace HS := Aside0.mk hS; replace HB := Aside0.mk (below_weaken HB.out HLE.out hb); clear hS hK hb)
          | (go_at_call 13; refine (net_calls idA HS.out (by have h1 := HNN.out; have h2 := HII.out; omega) szA).mono ?_; rintro e w6 ⟨rfl, hS, hK, hb⟩; simp only [HA1.out]; replace HS := Aside0.mk hS; replace HB := Aside0.mk (below_weaken HB.out HLE.out hb); clear hS hK hb))
        go_ret
        exact ⟨rfl, HB.out⟩
      · subst ea; subst ev
        have HA1 := Aside0.mk (show st.acc idA = ⟨0, t, false, 1⟩ from HI.out.2.1)
        clear HI c
        go_wp2_with (first
          | (go_at_call 10; refine (captures_calls idA HS.out (by have h1 := HNN.out; have h2 := HII.out; omega) szA).mono ?_; rintro e w6 ⟨rfl, hS, hK, hb⟩; simp only [HA1.out]; replace HS := Aside0.mk hS; replace HB := Aside0.mk (below_weaken HB.out HLE.out hb); clear hS hK hb)
          | (go_at_call 13; refine (net_calls idA HS.out (by have h1 := HNN.out; have h2 := HII.out; omega) szA).mono ?_; rintro e w6 ⟨rfl, hS, hK, hb⟩; simp only [HA1.out]; replace HS := Aside0.mk hS; replace HB := Aside0.mk (below_weaken HB.out HLE.out hb); clear hS hK hb))
        go_ret
        exact ⟨rfl, HB.out⟩
      · subst ea; subst ev
        have HA1 := Aside0.mk (show st.acc idA = ⟨0, 0, false, 0⟩ from HI.out.2.1)
        clear HI c
        go_wp2_with (first
          | (go_at_call 10; refine (captures_calls idA HS.out (by have h1 := HNN.out; have h2 := HII.out; omega) szA).mono ?_; rintro e w6 ⟨rfl, hS, hK, hb⟩; simp only [HA1.out]; replace HS := Aside0.mk hS; replace HB := Aside0.mk (below_weaken HB.out HLE.out hb); clear hS hK hb)
          | (go_at_call 13; refine (net_calls idA HS.out (by have h1 := HNN.out; have h2 := HII.out; omega) szA).mono ?_; rintro e w6 ⟨rfl, hS, hK, hb⟩; simp only [HA1.out]; replace HS := Aside0.mk hS; replace HB := Aside0.mk (below_weaken HB.out HLE.out hb); clear hS hK hb))
        go_ret
        exact ⟨rfl, HB.out⟩
end Go.Proofs.Ytfikgnneajlgbaa.PAll
