
import Derived.Test.YtfikgnneajlgbaaQBankApartBankLaw
import Derived.Test.YtfikgnneajlgbaaQBankApartLawsF
set_option linter.unusedVariables false
set_option linter.unusedSimpArgs false
namespace Go.Proofs.Ytfikgnneajlgbaa.PAll
open Go Go.Proofs Go.RowKit Go.Proofs.YtfikgnneajlgbaaW.PrintWords Go.Proofs.YtfikgnneajlgbaaW.PrintLast Go.Proofs.YtfikgnneajlgbaaW.PrintMore Go.Maps
theorem c_one {W : World} {g : Nat} {s : ByteArray} (h : W.heap[g]? = some (.cells #[.string s] 9 (0, 0))) : Kd.C Kd.string W (some ⟨g, 0, none⟩) [s].length [s] := by
  refine ⟨rfl, by simp, fun _ => ⟨_, rfl, fun j p hj => ?_⟩⟩
  obtain ⟨hl, hp⟩ := List.getElem?_eq_some_iff.1 hj
  have hj0 : j = 0 := by simpa using hl
  subst hj0
  refine ⟨[.string p], rfl, rfl, fun i u hu => ?_⟩
  obtain ⟨hl2, hu2⟩ := List.getElem?_eq_some_iff.1 hu
  have hi0 : i = 0 := by simpa using hl2
  subst hi0
  have hp' : s = p := by simpa using hp
  have hu' : Value.string p = u := by simpa using hu2
  rw [← hu', ← hp']
  exact (blk_cell h 0).trans rfl
theorem mine_list : idM.toList = [109, 105, 110, 101] := by simp
theorem not_mine {id : ByteArray} (h : id.toList ≠ [109, 105, 110, 101]) : id ≠ idM := fun e => h (by rw [e]; exact mine_list)
structure Quiet (t : Int) (st : Bk) : Prop where
  acc : st.acc idM = ⟨t, 0, true, 0⟩
  ans : st.ans (-2) = none
  bad : ∀ b ∈ st.bad, b.f1.toList ≠ [109, 105, 110, 101]
theorem quiet_bad {l : List S76} (h : ∀ b ∈ l, b.f1.toList ≠ [109, 105, 110, 101]) (kind : Int) : badIn l kind idM = false := by
  unfold badIn
  rw [List.any_eq_false]
  intro x hx hc
  have := h x hx
  simp [isBad] at hc
  exact this hc.2.symm
theorem quiet_answer {t : Int} {st : Bk} (h : Quiet t st) (key kind : Int) (id : ByteArray) (ask : Acc → Bool × Acc) (hk : ¬ key < 0) (hi' : id.toList ≠ [109, 105, 110, 101]) : Quiet t (st.answer key kind id ask).2 ∧ (st.answer key kind id ask).2.bad = st.bad := by
  have hi := not_mine hi'
  have hne : (-2 : Int) ≠ key := by omega
  unfold Bk.answer
  cases ha : st.ans key with
  | some x => exact ⟨h, rfl⟩
  | none =>
    simp only
    split
    · exact ⟨⟨h.acc, by simp only [if_neg hne]; exact h.ans, h.bad⟩, rfl⟩
    · exact ⟨⟨by simp only [if_neg (Ne.symm hi)]; exact h.acc, by simp only [if_neg hne]; exact h.ans, h.bad⟩, rfl⟩
theorem quiet_spoil {t : Int} {st : Bk} (h : Quiet t st) (kind : Int) (id : ByteArray) (hi : id.toList ≠ [109, 105, 110, 101]) : Quiet t { st with bad := st.bad ++ [id].map (fun id => (⟨kind, id⟩ : S76)) } := by
  refine ⟨h.acc, h.ans, fun b hb => ?_⟩
  rcases List.mem_append.1 hb with hb | hb
  · exact h.bad b hb
  · have : b = ⟨kind, id⟩ := by simpa using hb
    rw [this]; exact hi
theorem quiet_start (t : Int) (h0 : 0 ≤ t) (h1 : t ≤ 1000000000000) : ∃ st, bk0.answer (-1) 2 idM (askA t) = (true, st) ∧ st.bad = [] ∧ Quiet t st := by
  have hr : rightT t = true := by unfold rightT; rw [decide_eq_true h0, decide_eq_true h1]; rfl
  have ha : askA t acc0 = (true, ⟨t, 0, true, 0⟩) := by unfold askA; rw [hr]; rfl
  refine ⟨(bk0.answer (-1) 2 idM (askA t)).2, ?_, rfl, ?_, rfl, fun b hb => (by cases hb)⟩
  · have h : (bk0.answer (-1) 2 idM (askA t)).1 = (askA t acc0).1 := rfl
    rw [ha] at h
    exact Prod.ext h rfl
  · have h : (bk0.answer (-1) 2 idM (askA t)).2.acc idM = (askA t acc0).2 := rfl
    rw [h, ha]
theorem quiet_end {t : Int} {st : Bk} (h : Quiet t st) (h0 : 0 ≤ t) (h1 : t ≤ 1000000000000) : ∃ st2, st.answer (-2) 5 idM askC = (true, st2) ∧ (st2.acc idM).paid = t := by
  have e1 : wrap64 (0 + t) = t := by unfold wrap64; omega
  have e2 : mn t 1000000000000 = t := by unfold mn; rw [if_neg (by omega)]
  have e3 : wrap64 (0 + 1) = 1 := by unfold wrap64; omega
  have ha : askC ⟨t, 0, true, 0⟩ = (true, ⟨0, t, false, 1⟩) := by
    unfold askC
    simp only [e1, e2, e3, reduceIte]
    rfl
  refine ⟨(st.answer (-2) 5 idM askC).2, ?_, ?_⟩
  · unfold Bk.answer
    rw [h.ans]
    simp only [quiet_bad h.bad, h.acc, ha]
    rfl
  · unfold Bk.answer
    rw [h.ans]
    simp only [quiet_bad h.bad, h.acc, ha]
    rfl
theorem cells28' {W : World} {g : Nat} {a b c d e : Value} (h : W.heap[g]? = some (.cells #[a, b, c, d, e] 28 (0, 0))) : W.cell? ⟨g, 0, none⟩ = some a ∧ W.cell? ⟨g, 1, none⟩ = some b ∧ W.cell? ⟨g, 2, none⟩ = some c ∧ W.cell? ⟨g, 3, none⟩ = some d ∧ W.cell? ⟨g, 4, none⟩ = some e :=
  ⟨(blk_cell h 0).trans rfl, (blk_cell h 1).trans rfl, (blk_cell h 2).trans rfl, (blk_cell h 3).trans rfl, (blk_cell h 4).trans rfl⟩
theorem wfm1' : (Lit.int .i64 (-1)).wf = true := by decide
theorem wfm2' : (Lit.int .i64 (-2)).wf = true := by decide
set_option maxHeartbeats 32000000 in
set_option maxRecDepth 100000 in
theorem packhorselaw20_BankApart.calls (A0 : Option Addr) (c0 : Nat) (l0 : List S28) (t : Int) (r : Bool) (w : World) (hr0 : Kd.C k28 w A0 l0.length l0) (hc0 : l0.length ≤ c0) (h : packhorselaw20_BankApart.f l0 t = some r) (hr_ : r = true) :
    Calls Try.prog 5 #[.slice A0 l0.length c0, .int .i64 t] w fun e w' => e = .returned (.bool r) ∧ Below w.heap.size w w' := by
  subst hr_
  have hs : (Lit.int .i64 t).wf = true ∧ ∀ x ∈ l0, okAct x := by
    by_cases q : (Lit.int .i64 t).wf = true ∧ ∀ x ∈ l0, okAct x
    · exact q
    · unfold packhorselaw20_BankApart.f at h; rw [if_neg q] at h; cases h
  clear h
  have HR0 := Aside0.mk hr0
  have HC0 := Aside0.mk hc0
  have HOK := Aside0.mk hs.2
  clear hr0 hc0 hs
  by_cases k3 : 80 < l0.length
  · have k3a : decide ((80 : Int) < (l0.length : Int)) = true := decide_eq_true (by omega)
    have k3b : decide (80 < l0.length) = true := decide_eq_true k3
    clear k3
    go_enter Try.func5, Try.ntmps5
    go_wp2_with (go_at_call 6; refine (alive_calls _).mono ?_; rintro e w1 ⟨rfl, hb⟩; have HB1 := Aside0.mk hb; clear hb)
    go_ret
    exact ⟨rfl, HB1.out⟩
  have k3a : decide ((80 : Int) < (l0.length : Int)) = false := decide_eq_false (by omega)
  have k3b : decide (80 < l0.length) = false := decide_eq_false k3
  by_cases k1 : t < 0
  · have k1a : decide (t < 0) = true := decide_eq_true k1
    clear k1 k3
    go_enter Try.func5, Try.ntmps5
    go_wp2_with (go_at_call 6; refine (alive_calls _).mono ?_; rintro e w1 ⟨rfl, hb⟩; have HB1 := Aside0.mk hb; clear hb)
    go_ret
    exact ⟨rfl, HB1.out⟩
  have k1a : decide (t < 0) = false := decide_eq_false k1
  by_cases k2 : 1000000000000 < t
  · have k2a : decide (1000000000000 < t) = true := decide_eq_true k2
    clear k1 k2 k3
    go_enter Try.func5, Try.ntmps5
    go_wp2_with (go_at_call 6; refine (alive_calls _).mono ?_; rintro e w1 ⟨rfl, hb⟩; have HB1 := Aside0.mk hb; clear hb)
    go_ret
    exact ⟨rfl, HB1.out⟩
  have k2a : decide (1000000000000 < t) = false := decide_eq_false k2
  have HT := Aside0.mk (show 0 ≤ t ∧ t ≤ 1000000000000 by omega)
  have HN := Aside0.mk (show l0.length ≤ 80 by omega)
  clear k1 k2 k3
  obtain ⟨st0, hst0, hbd0, hq0⟩ := quiet_start t HT.out.1 HT.out.2
  have HST := Aside0.mk hst0
  have HI0 := Aside0.mk (show Quiet t st0 ∧ st0.bad.length ≤ 0 from ⟨hq0, by rw [hbd0]; exact Nat.le_refl _⟩)
  clear hst0 hbd0 hq0
  go_enter Try.func5, Try.ntmps5
  go_upto_region 8 with (first
    | (go_at_call 6; refine (alive_calls _).mono ?_; rintro e w1 ⟨rfl, hb⟩; have HB1 := Aside0.mk hb; clear hb)
    | (go_at_call 7; refine (new_calls _).mono ?_; rintro e w2 ⟨g, rfl, hS, hb⟩; have HS2 := Aside0.mk hS; have HB2 := Aside0.mk (below_step HB1.out hb); clear hS hb)
    | (go_at_call 8; refine (authorise_calls (-1) t idM HS2.out (by decide) wfm1' szM (by decide)).mono ?_; rintro e w3 ⟨rfl, hS, _, hb⟩; rw [HST.out] at hS ⊢; have HS3 := Aside0.mk hS; have HB3 := Aside0.mk (below_weaken HB2.out HB1.out.size hb); clear hS hb))
  have HLE := Aside0.mk HB1.out.size
  clear k1a k2a k3a k3b HB2 HS2 HB1
  go_wp2
  go_loopg [30] l0.length (fun kq v30 w' => ∃ (i n : Nat) (st : Bk), v30 = .int .i64 (i : Int) ∧ Aside0 (kq + i = l0.length) ∧ Aside0 (BankS w' w1.heap.size g n st) ∧ Aside0 (n ≤ 2 * i + 2) ∧ Aside0 (Quiet t st ∧ st.bad.length ≤ i) ∧ Aside0 (Below w.heap.size w w'))
  case atStart => exact ⟨0, 2, st0, rfl, ⟨by omega⟩, HS3, ⟨by omega⟩, HI0, HB3⟩
  case round =>
    clear HS3 HB3 HI0
    obtain ⟨i, n, st, rfl, HK, HS, HNN, HI, HB⟩ := hrel
    by_cases c : i < l0.length
    · have c0' : decide ((i : Int) < (l0.length : Int)) = true := decide_eq_true (by omega)
      have c0'' : decide (i < l0.length) = true := decide_eq_true c
      obtain ⟨ad, hA, hin0, hin1, hin2, hin3, hin4⟩ := at_T28 (Kd.C_below HR0.out HB.out) (i : Int) (by omega) (by omega)
      subst hA
      have hrd : rd_T28 l0 (i : Int) = l0[i] := by
        unfold rd_T28
        rw [List.getD_eq_getElem?_getD, Int.toNat_natCast, List.getElem?_eq_getElem c]; rfl
      have HX := Aside0.mk (HOK.out l0[i] (List.getElem_mem c))
      rw [hrd] at hin0 hin1 hin2 hin3 hin4
      clear hrd
      generalize l0[i] = el at hin0 hin1 hin2 hin3 hin4 HX
      obtain ⟨kd, o1, ky, tt, idd⟩ := el
      simp only [Int.toNat_natCast] at hin0 hin1 hin2 hin3 hin4
      have p0 : (0 : Int) ≤ (i : Int) := by omega
      have q0 : (i : Int) < (l0.length : Int) := by omega
      have w0 : wrap64 ((i : Int) + 1) = (i : Int) + 1 := by have := HN.out; unfold wrap64; omega
      have HII := Aside0.mk (show i ≤ 80 by have := HN.out; omega)
      go_upto_region 11 with fail
      have B8 := Aside0.mk (blk_new wr (.cells #[.int .i64 kd, .int .i64 o1, .int .i64 ky, .int .i64 tt, .string idd] 28 (0, 0)))
      replace HS := Aside0.mk (HS.out.below (below_alloc (Below.refl wr.heap.size wr) (.cells #[.int .i64 kd, .int .i64 o1, .int .i64 ky, .int .i64 tt, .string idd] 28 (0, 0))))
      replace HB := Aside0.mk (below_alloc HB.out (.cells #[.int .i64 kd, .int .i64 o1, .int .i64 ky, .int .i64 tt, .string idd] 28 (0, 0)))
      clear hin0 hin1 hin2 hin3 hin4
      generalize wr.alloc (.cells #[.int .i64 kd, .int .i64 o1, .int .i64 ky, .int .i64 tt, .string idd] 28 (0, 0)) = w4 at B8 HS HB ⊢
      obtain ⟨hd0, hd1, hd2, hd3, hd4⟩ := cells28' B8.out
      have HSP := Aside0.mk (HS.out.below (below_alloc (Below.refl w4.heap.size w4) (.cells #[.string idd] 9 (0, 0))))
      have HCP : Aside0 (∀ W', KeepO refObj (w4.alloc (.cells #[.string idd] 9 (0, 0))) W' → Kd.C Kd.string W' (some ⟨w4.heap.size, 0, none⟩) [idd].length [idd]) := ⟨fun W' hk => c_one (hk.2 _ _ (blk_new _ _) ⟨by decide, by decide, by decide⟩)⟩
      by_cases qi : idd.toList = [109, 105, 110, 101]
      · have qi1 : (idd.toList == [109, 105, 110, 101]) = true := beq_iff_eq.mpr qi
        clear qi
        go_wp2
        go_roundg (gk - 1)
        case measure => have := HK.out; omega
        case rel => exact ⟨i + 1, n, st, (by first | rfl | (simp [*]; done)), ⟨by have := HK.out; omega⟩, HS, ⟨by have := HNN.out; omega⟩, ⟨HI.out.1, by have := HI.out.2; omega⟩, HB⟩
      have qi1 : (idd.toList == [109, 105, 110, 101]) = false := beq_eq_false_iff_ne.mpr qi
      have HQI := Aside0.mk qi
      clear qi
      by_cases km : ky < 0
      · have km1 : decide (ky < 0) = true := decide_eq_true km
        clear km
        go_wp2
        go_roundg (gk - 1)
        case measure => have := HK.out; omega
        case rel => exact ⟨i + 1, n, st, (by first | rfl | (simp [*]; done)), ⟨by have := HK.out; omega⟩, HS, ⟨by have := HNN.out; omega⟩, ⟨HI.out.1, by have := HI.out.2; omega⟩, HB⟩
      have km1 : decide (ky < 0) = false := decide_eq_false km
      have HKM := Aside0.mk km
      clear km
      by_cases k2 : kd = 2
      · have k21 : (kd == 2) = true := beq_iff_eq.mpr k2
        clear k2
        go_wp2_with (go_at_call 8; refine (authorise_calls ky tt idd HS.out (by have h1 := HNN.out; have h2 := HII.out; omega) HX.out.2.2.1 (Nat.le_trans HX.out.2.2.2.2 (by decide)) (by have h1 := HI.out.2; have h2 := HII.out; omega)).mono ?_; rintro e w5 ⟨rfl, hS, _, hb⟩; replace HS := Aside0.mk hS; replace HB := Aside0.mk (below_weaken HB.out HLE.out hb); have HQ := Aside0.mk (quiet_answer HI.out.1 ky 2 idd (askA tt) HKM.out HQI.out); clear hS hb)
        go_roundg (gk - 1)
        case measure => have := HK.out; omega
        case rel => exact ⟨i + 1, _, _, (by first | rfl | (simp [*]; done)), ⟨by have := HK.out; omega⟩, HS, ⟨by have := HNN.out; omega⟩, ⟨HQ.out.1, by rw [HQ.out.2]; have := HI.out.2; omega⟩, HB⟩
      have k21 : (kd == 2) = false := beq_eq_false_iff_ne.mpr k2
      clear k2
      by_cases k2 : kd = 5
      · have k22 : (kd == 5) = true := beq_iff_eq.mpr k2
        clear k2
        go_wp2_with (go_at_call 9; refine (capture_calls ky idd HS.out (by have h1 := HNN.out; have h2 := HII.out; omega) HX.out.2.2.1 (Nat.le_trans HX.out.2.2.2.2 (by decide)) (by have h1 := HI.out.2; have h2 := HII.out; omega)).mono ?_; rintro e w5 ⟨rfl, hS, _, hb⟩; replace HS := Aside0.mk hS; replace HB := Aside0.mk (below_weaken HB.out HLE.out hb); have HQ := Aside0.mk (quiet_answer HI.out.1 ky 5 idd askC HKM.out HQI.out); clear hS hb)
        go_roundg (gk - 1)
        case measure => have := HK.out; omega
        case rel => exact ⟨i + 1, _, _, (by first | rfl | (simp [*]; done)), ⟨by have := HK.out; omega⟩, HS, ⟨by have := HNN.out; omega⟩, ⟨HQ.out.1, by rw [HQ.out.2]; have := HI.out.2; omega⟩, HB⟩
      have k22 : (kd == 5) = false := beq_eq_false_iff_ne.mpr k2
      clear k2
      by_cases k2 : kd = 6
      · have k23 : (kd == 6) = true := beq_iff_eq.mpr k2
        clear k2
        go_wp2_with (go_at_call 12; refine (void_calls ky idd HS.out (by have h1 := HNN.out; have h2 := HII.out; omega) HX.out.2.2.1 (Nat.le_trans HX.out.2.2.2.2 (by decide)) (by have h1 := HI.out.2; have h2 := HII.out; omega)).mono ?_; rintro e w5 ⟨rfl, hS, _, hb⟩; replace HS := Aside0.mk hS; replace HB := Aside0.mk (below_weaken HB.out HLE.out hb); have HQ := Aside0.mk (quiet_answer HI.out.1 ky 6 idd askV HKM.out HQI.out); clear hS hb)
        go_roundg (gk - 1)
        case measure => have := HK.out; omega
        case rel => exact ⟨i + 1, _, _, (by first | rfl | (simp [*]; done)), ⟨by have := HK.out; omega⟩, HS, ⟨by have := HNN.out; omega⟩, ⟨HQ.out.1, by rw [HQ.out.2]; have := HI.out.2; omega⟩, HB⟩
      have k23 : (kd == 6) = false := beq_eq_false_iff_ne.mpr k2
      clear k2
      by_cases k2 : kd = 0
      · have k24 : (kd == 0) = true := beq_iff_eq.mpr k2
        clear k2
        go_wp2_with (go_at_call 16; refine (spoil_calls o1 (some ⟨w4.heap.size, 0, none⟩) 1 [idd] HSP.out HCP.out (by have h1 := HI.out.2; have h2 := HII.out; simp; omega)).mono ?_; rintro e w5 ⟨rfl, hS, _, hb⟩; replace HS := Aside0.mk hS; replace HB := Aside0.mk (below_weaken (below_alloc HB.out (.cells #[.string idd] 9 (0, 0))) HLE.out hb); have HQ := Aside0.mk (quiet_spoil HI.out.1 o1 idd HQI.out); clear hS hb)
        go_roundg (gk - 1)
        case measure => have := HK.out; omega
        case rel => exact ⟨i + 1, _, _, (by first | rfl | (simp [*]; done)), ⟨by have := HK.out; omega⟩, HS, ⟨by have := HNN.out; omega⟩, ⟨HQ.out, by have := HI.out.2; simp; omega⟩, HB⟩
      · have k24 : (kd == 0) = false := beq_eq_false_iff_ne.mpr k2
        clear k2
        go_wp2
        go_roundg (gk - 1)
        case measure => have := HK.out; omega
        case rel => exact ⟨i + 1, n, st, (by first | rfl | (simp [*]; done)), ⟨by have := HK.out; omega⟩, HS, ⟨by have := HNN.out; omega⟩, ⟨HI.out.1, by have := HI.out.2; omega⟩, HB⟩
    · have c0' : decide ((i : Int) < (l0.length : Int)) = false := decide_eq_false (by omega)
      have c0'' : decide (i < l0.length) = false := decide_eq_false c
      have HII := Aside0.mk (show i ≤ 80 by have := HN.out; have := HK.out; omega)
      clear c
      have HA := Aside0.mk HI.out.1.acc
      obtain ⟨st2, he, hp⟩ := quiet_end HI.out.1 HT.out.1 HT.out.2
      have HE := Aside0.mk he
      have HP := Aside0.mk hp
      clear he hp
      have ht1 : (t == t) = true := beq_self_eq_true t
      go_wp2_with (first
        | (go_at_call 11; refine (held_calls idM HS.out (by have h1 := HNN.out; have h2 := HII.out; omega) szM).mono ?_; rintro e w6 ⟨rfl, hS, _, hb⟩; simp only [HA.out]; have HS5 := Aside0.mk hS; replace HB := Aside0.mk (below_weaken HB.out HLE.out hb); clear hS hb)
        | (go_at_call 13; refine (net_calls idM HS5.out (by have h1 := HNN.out; have h2 := HII.out; omega) szM).mono ?_; rintro e w7 ⟨rfl, hS, _, hb⟩; simp only [HA.out]; have HS6 := Aside0.mk hS; replace HB := Aside0.mk (below_weaken HB.out HLE.out hb); clear hS hb)
        | (go_at_call 10; refine (captures_calls idM HS6.out (by have h1 := HNN.out; have h2 := HII.out; omega) szM).mono ?_; rintro e w8 ⟨rfl, hS, _, hb⟩; simp only [HA.out]; have HS7 := Aside0.mk hS; replace HB := Aside0.mk (below_weaken HB.out HLE.out hb); clear hS hb)
        | (go_at_call 9; refine (capture_calls (-2) idM HS7.out (by have h1 := HNN.out; have h2 := HII.out; omega) wfm2' szM (by have h1 := HI.out.2; have h2 := HII.out; omega)).mono ?_; rintro e w9 ⟨rfl, hS, _, hb⟩; rw [HE.out] at hS ⊢; have HS8 := Aside0.mk hS; replace HB := Aside0.mk (below_weaken HB.out HLE.out hb); clear hS hb)
        | (go_at_call 13; refine (net_calls idM HS8.out (by have h1 := HNN.out; have h2 := HII.out; omega) szM).mono ?_; rintro e w10 ⟨rfl, hS, _, hb⟩; simp only [HP.out]; replace HB := Aside0.mk (below_weaken HB.out HLE.out hb); clear hS hb))
      go_ret
      exact ⟨rfl, HB.out⟩
end Go.Proofs.Ytfikgnneajlgbaa.PAll
