
import Derived.Test.YtdfnpjmebnlfbaaQHalvesRunsPlanTell
import Derived.Test.YtdfnpjmebnlfbaaQHalvesRunsSame
namespace Go.Proofs.YtdfnpjmebnlfbaaW.PrintMore
end Go.Proofs.YtdfnpjmebnlfbaaW.PrintMore
set_option linter.unusedVariables false
set_option linter.unusedSimpArgs false
namespace Go.Proofs.Ytdfnpjmebnlfbaa.PAll
open Go Go.Proofs Go.RowKit Go.Proofs.YtdfnpjmebnlfbaaW.PrintWords Go.Proofs.YtdfnpjmebnlfbaaW.PrintLast Go.Proofs.YtdfnpjmebnlfbaaW.PrintMore
theorem tell_calls (g B : Nat) (S : Nat → Prop) (p : Pl) (b : Bool) (w : World) (hP : PlanP w B g S p) (hlim : (nextL p.rest).length ≤ 1000000 ∧ p.rest.length ≤ 1000000 ∧ p.good.length ≤ 1000000 ∧ p.bad.length ≤ 1000000) :
    Calls Try.prog 15 #[.pointer (some ⟨g, 0, none⟩), .bool b] w fun e w' => e = .returned (.int .i64 (p.tell b).2) ∧ ∃ S' : Nat → Prop, PlanP w' B g S' (p.tell b).1 ∧ Told w w' B S S' := by
  by_cases h0 : (nextL p.rest).length = 0
  · refine (tell_none g B S p b w hP h0).mono ?_
    rintro e w' ⟨rfl, h1, h2⟩
    have ht : p.tell b = (p, 121) := if_pos h0
    rw [ht]
    exact ⟨rfl, S, h1, h2⟩
  · cases b with
    | true =>
      refine (tell_good g B S p w hP (by omega) hlim).mono ?_
      rintro e w' ⟨rfl, S', h1, h2⟩
      have ht : p.tell true = (⟨p.rest.dropLast, p.good ++ nextL p.rest, p.bad, wrap64 (p.tries + 1)⟩, 0) := by unfold Pl.tell; rw [if_neg h0, if_pos rfl]
      rw [ht]
      exact ⟨rfl, S', h1, h2⟩
    | false =>
      by_cases h1 : (nextL p.rest).length = 1
      · refine (tell_bad g B S p w hP h1.symm hlim).mono ?_
        rintro e w' ⟨rfl, S', h2, h3⟩
        have ht : p.tell false = (⟨p.rest.dropLast, p.good, p.bad ++ nextL p.rest, wrap64 (p.tries + 1)⟩, 0) := by unfold Pl.tell; rw [if_neg h0, if_neg (by decide), if_pos h1]
        rw [ht]
        exact ⟨rfl, S', h2, h3⟩
      · refine (tell_split g B S p w hP (by omega) hlim).mono ?_
        rintro e w' ⟨rfl, S', h2, h3⟩
        have ht : p.tell false = (⟨p.rest.dropLast ++ [(nextL p.rest).drop (((nextL p.rest).length + 1) / 2), (nextL p.rest).take (((nextL p.rest).length + 1) / 2)], p.good, p.bad, wrap64 (p.tries + 1)⟩, 0) := by unfold Pl.tell; rw [if_neg h0, if_neg (by decide), if_neg h1]
        rw [ht]
        exact ⟨rfl, S', h2, h3⟩
abbrev sA : ByteArray := ⟨#[97]⟩
abbrev sB : ByteArray := ⟨#[98]⟩
abbrev sC : ByteArray := ⟨#[99]⟩
abbrev wantsL : List (List ByteArray) := [[sA, sB, sC], [sA, sB], [sA], [sB], [sC]]
def plA : Nat → Pl
  | 0 => ⟨[[sA, sB, sC]], [], [], 0⟩
  | 1 => ⟨[[sC], [sA, sB]], [], [], 1⟩
  | 2 => ⟨[[sC], [sB], [sA]], [], [], 2⟩
  | 3 => ⟨[[sC], [sB]], [sA], [], 3⟩
  | 4 => ⟨[[sC]], [sA], [sB], 4⟩
  | _ => ⟨[], [sA, sC], [sB], 5⟩
theorem tell_to (g B : Nat) (S : Nat → Prop) (p : Pl) (b : Bool) (p2 : Pl) (e2 : Int) (w : World) (hP : PlanP w B g S p) (hlim : (nextL p.rest).length ≤ 1000000 ∧ p.rest.length ≤ 1000000 ∧ p.good.length ≤ 1000000 ∧ p.bad.length ≤ 1000000) (ht : p.tell b = (p2, e2)) :
    Calls Try.prog 15 #[.pointer (some ⟨g, 0, none⟩), .bool b] w fun e w' => e = .returned (.int .i64 e2) ∧ ∃ S' : Nat → Prop, PlanP w' B g S' p2 ∧ Told w w' B S S' := by
  have h := tell_calls g B S p b w hP hlim
  rw [ht] at h
  exact h
theorem plA_0 : (plA 0).tell false = (plA 1, 0) := by simp [plA, Pl.tell, nextL, wrap64]
theorem plA_1 : (plA 1).tell false = (plA 2, 0) := by simp [plA, Pl.tell, nextL, wrap64]
theorem plA_2 : (plA 2).tell true = (plA 3, 0) := by simp [plA, Pl.tell, nextL, wrap64]
theorem plA_3 : (plA 3).tell false = (plA 4, 0) := by simp [plA, Pl.tell, nextL, wrap64]
theorem plA_4 : (plA 4).tell true = (plA 5, 0) := by simp [plA, Pl.tell, nextL, wrap64]
theorem cell_first {W : World} {A : Option Addr} {n : Nat} {s : ByteArray} (h : Kd.C Kd.string W A n [s]) : ∃ a, A = some a ∧ W.cell? a = some (.string s) := by
  obtain rfl : 1 = n := h.1
  obtain ⟨ad, cs, hA, _, hKs, hcell⟩ := Kd.C_get h ByteArray.empty (0 : Int) (by decide) (by decide)
  refine ⟨ad, hA, ?_⟩
  have := hcell 0 (.string s) (by rw [show cs = _ from hKs]; rfl)
  simpa [Addr.add] using this
set_option maxHeartbeats 16000000 in
set_option maxRecDepth 100000 in
theorem alive_calls (w : World) : Calls Try.prog 10 #[] w fun e w' => e = .returned (.bool true) ∧ Below w.heap.size w w' := by
  have hu49 := Try.underlying49
  have HB0 := Aside0.mk (Below.refl w.heap.size w)
  go_enter Try.func10, Try.ntmps10
  go_upto_region 4 with (first | ((with_reducible refine gate_dst (N := 7) rfl ?_); refine Kd.R_lit Kd.string (w0 := w) w.heap.size 9 ?hg (N := 7) ?hd (xs := [sA, sB, sC]) (inner := [.string sA, .string sB, .string sC]) (ok := fun _ => True) (okp := fun _ => True) ?hr ?hp (fun _ hk => hk) trivial ?hB ?hs (by decide) ?_; (case hd => rfl); (case hg => rfl); (case hr => first | (go_simp; done) | (go_simp; rfl)); (case hp => exact Reps.one (by rfl) (Reps.one (by rfl) (Reps.one (by rfl) (Reps.none _ _)))); (case hB => exact HB0.out); (case hs => exact HB0.out.size); intro v1 w1 ho1 hb1 hg1 hn1; have HR1 := Aside0.mk ho1; have HB1 := Aside0.mk hb1; obtain ⟨A1, c1, ev1⟩ := Kd.R_slice ho1; subst ev1; clear ho1 hb1 hg1 hn1) | (go_at_call 11; refine (new_calls _ _ [sA, sB, sC] _ (Kd.R_reads' HR1.out).2.2 (Kd.R_reads' HR1.out).2.1 (by decide) (by decide)).mono ?_; rintro e w2 ⟨hb2, h2⟩; rcases h2 with ⟨hnd, g, S, rfl, hP⟩ | ⟨hnd, rfl⟩; (rotate_left; exact absurd (by decide) hnd); have HB2 := Aside0.mk (below_step HB1.out hb2); have HP := Aside0.mk hP; clear hb2 hP hnd))
  have HC2 := Aside0.mk (Below.refl w2.heap.size w2)
  go_wp2_with (first | ((with_reducible refine gate_dst (N := 17) rfl ?_); refine Kd.R_lit Kd.string (w0 := w2) w2.heap.size 9 ?hg (N := 17) ?hd (xs := [sA, sB, sC]) (inner := [.string sA, .string sB, .string sC]) (ok := fun _ => True) (okp := fun _ => True) ?hr ?hp (fun _ hk => hk) trivial ?hB ?hs (by decide) ?_; (case hd => rfl); (case hg => rfl); (case hr => first | (go_simp; done) | (go_simp; rfl)); (case hp => exact Reps.one (by rfl) (Reps.one (by rfl) (Reps.one (by rfl) (Reps.none _ _)))); (case hB => exact HC2.out); (case hs => exact HC2.out.size); intro v3 w3 ho3 hb3 hg3 hn3; have HC3 := Aside0.mk hb3; obtain ⟨A3, n3, c3, ev3⟩ := slice_open ho3; subst ev3; have R17 := Aside0.mk ho3; clear ho3 hb3 hg3 hn3) | ((with_reducible refine gate_dst (N := 18) rfl ?_); refine Kd.R_lit Kd.string (w0 := w2) w2.heap.size 9 ?hg (N := 18) ?hd (xs := [sA, sB]) (inner := [.string sA, .string sB]) (ok := fun _ => True) (okp := fun _ => True) ?hr ?hp (fun _ hk => hk) trivial ?hB ?hs (by decide) ?_; (case hd => rfl); (case hg => rfl); (case hr => first | (go_simp; done) | (go_simp; rfl)); (case hp => exact Reps.one (by rfl) (Reps.one (by rfl) (Reps.none _ _))); (case hB => exact HC3.out); (case hs => exact HC3.out.size); intro v4 w4 ho4 hb4 hg4 hn4; have HC4 := Aside0.mk hb4; obtain ⟨A4, n4, c4, ev4⟩ := slice_open ho4; subst ev4; have R18 := Aside0.mk ho4; replace R17 := Aside0.mk (Kd.R_grown R17.out hg4 (fun _ _ => by simp)); clear ho4 hb4 hg4 hn4) | ((with_reducible refine gate_dst (N := 19) rfl ?_); refine Kd.R_lit Kd.string (w0 := w2) w2.heap.size 9 ?hg (N := 19) ?hd (xs := [sA]) (inner := [.string sA]) (ok := fun _ => True) (okp := fun _ => True) ?hr ?hp (fun _ hk => hk) trivial ?hB ?hs (by decide) ?_; (case hd => rfl); (case hg => rfl); (case hr => first | (go_simp; done) | (go_simp; rfl)); (case hp => exact Reps.one (by rfl) (Reps.none _ _)); (case hB => exact HC4.out); (case hs => exact HC4.out.size); intro v5 w5 ho5 hb5 hg5 hn5; have HC5 := Aside0.mk hb5; obtain ⟨A5, n5, c5, ev5⟩ := slice_open ho5; subst ev5; have R19 := Aside0.mk ho5; replace R17 := Aside0.mk (Kd.R_grown R17.out hg5 (fun _ _ => by simp)); replace R18 := Aside0.mk (Kd.R_grown R18.out hg5 (fun _ _ => by simp)); clear ho5 hb5 hg5 hn5) | ((with_reducible refine gate_dst (N := 20) rfl ?_); refine Kd.R_lit Kd.string (w0 := w2) w2.heap.size 9 ?hg (N := 20) ?hd (xs := [sB]) (inner := [.string sB]) (ok := fun _ => True) (okp := fun _ => True) ?hr ?hp (fun _ hk => hk) trivial ?hB ?hs (by decide) ?_; (case hd => rfl); (case hg => rfl); (case hr => first | (go_simp; done) | (go_simp; rfl)); (case hp => exact Reps.one (by rfl) (Reps.none _ _)); (case hB => exact HC5.out); (case hs => exact HC5.out.size); intro v6 w6 ho6 hb6 hg6 hn6; have HC6 := Aside0.mk hb6; obtain ⟨A6, n6, c6, ev6⟩ := slice_open ho6; subst ev6; have R20 := Aside0.mk ho6; replace R17 := Aside0.mk (Kd.R_grown R17.out hg6 (fun _ _ => by simp)); replace R18 := Aside0.mk (Kd.R_grown R18.out hg6 (fun _ _ => by simp)); replace R19 := Aside0.mk (Kd.R_grown R19.out hg6 (fun _ _ => by simp)); clear ho6 hb6 hg6 hn6) | ((with_reducible refine gate_dst (N := 21) rfl ?_); refine Kd.R_lit Kd.string (w0 := w2) w2.heap.size 9 ?hg (N := 21) ?hd (xs := [sC]) (inner := [.string sC]) (ok := fun _ => True) (okp := fun _ => True) ?hr ?hp (fun _ hk => hk) trivial ?hB ?hs (by decide) ?_; (case hd => rfl); (case hg => rfl); (case hr => first | (go_simp; done) | (go_simp; rfl)); (case hp => exact Reps.one (by rfl) (Reps.none _ _)); (case hB => exact HC6.out); (case hs => exact HC6.out.size); intro v7 w7 ho7 hb7 hg7 hn7; have HC7 := Aside0.mk hb7; obtain ⟨A7, n7, c7, ev7⟩ := slice_open ho7; subst ev7; have R21 := Aside0.mk ho7; replace R17 := Aside0.mk (Kd.R_grown R17.out hg7 (fun _ _ => by simp)); replace R18 := Aside0.mk (Kd.R_grown R18.out hg7 (fun _ _ => by simp)); replace R19 := Aside0.mk (Kd.R_grown R19.out hg7 (fun _ _ => by simp)); replace R20 := Aside0.mk (Kd.R_grown R20.out hg7 (fun _ _ => by simp)); clear ho7 hb7 hg7 hn7) | ((with_reducible refine gate_dst (N := 22) rfl ?_); refine Kd.R_lit (Kd.slice 9 Kd.string) (w0 := w2) w2.heap.size 22 ?hg (N := 22) ?hd (xs := wantsL) (inner := [.slice A3 n3 c3, .slice A4 n4 c4, .slice A5 n5 c5, .slice A6 n6 c6, .slice A7 n7 c7]) (ok := fun _ => True) (okp := fun _ => True) ?hr ?hp (fun _ hk => hk) trivial ?hB ?hs (by decide) ?_; (case hd => rfl); (case hg => rfl); (case hr => first | (go_simp; done) | (go_simp; rfl)); (case hp => exact Reps.one (⟨_, rfl, R17.out⟩) (Reps.one (⟨_, rfl, R18.out⟩) (Reps.one (⟨_, rfl, R19.out⟩) (Reps.one (⟨_, rfl, R20.out⟩) (Reps.one (⟨_, rfl, R21.out⟩) (Reps.none _ _)))))); (case hB => exact HC7.out); (case hs => exact HC7.out.size); intro v8 w8 ho8 hb8 hg8 hn8; have HC8 := Aside0.mk hb8; have R22 := Aside0.mk ho8; obtain ⟨A8, c8, ev8⟩ := Kd.R_slice ho8; subst ev8; clear ho8 hb8 hg8 hn8))
  have HW := Aside0.mk (show ∀ W' : World, Kept w8 W' S → Kd.C (Kd.slice 9 Kd.string) W' A8 wantsL.length wantsL from Kd.C_kept_own (Kd.R_bound R22.out) (fun k h hS => by
    obtain ⟨_, _, _, hb, hS2, _⟩ := HP.out
    have h1 := (hS2 k hS).2
    have h2 := h.2.1
    omega))
  have HP8 := Aside0.mk (HP.out.below HC8.out)
  have HBW := Aside0.mk (below_step HB2.out HC8.out)
  have HLE := Aside0.mk HB1.out.size
  clear R17 R18 R19 R20 R21 R22 HC2 HC3 HC4 HC5 HC6 HC7 HP HR1 HB0 HB1
  go_loopg [24] 5 (fun kq v24 w' => ∃ (i : Nat) (S' : Nat → Prop), v24 = .int .i64 (i : Int) ∧ Aside0 (kq + i = 5) ∧ Aside0 (PlanP w' w1.heap.size g S' (plA i)) ∧ Aside0 (Told w8 w' w1.heap.size S S'))
  case atStart => exact ⟨0, S, rfl, ⟨rfl⟩, ⟨HP8.out⟩, ⟨Told.refl _ _ _⟩⟩
  case round =>
    obtain ⟨i, S1, rfl, HK, HPi, HT⟩ := hrel
    have hi : i ≤ 5 := by have := HK.out; omega
    have h6 : i = 0 ∨ i = 1 ∨ i = 2 ∨ i = 3 ∨ i = 4 ∨ i = 5 := by omega
    rcases h6 with rfl | rfl | rfl | rfl | rfl | rfl
    · obtain ⟨ad, cs, hA, _, hKs, hcell⟩ := Kd.C_get (HW.out _ HT.out.kept) ([] : List ByteArray) (0 : Int) (by decide) (by decide)
      subst hA
      obtain ⟨Aw, cw, ecs, hlw, hCw⟩ := hKs
      subst ecs
      have hin := hcell 0 _ rfl
      rw [show (Kd.slice 9 Kd.string).sz = 1 from rfl] at hin
      simp only [show ((0 : Int)).toNat = 0 from rfl, Nat.mul_one, Nat.add_zero] at hin
      have hin2 := hin
      simp [Addr.add] at hin2
      have HCw := Aside0.mk (show Kd.C Kd.string wr Aw 3 [sA, sB, sC] from hCw)
      have HLw := Aside0.mk (show 3 ≤ cw from hlw)
      clear hcell hCw hlw
      go_wp2_with (first
        | (go_at_call 13; refine (next_calls g w1.heap.size S1 _ _ _ _ _ HPi.out (by decide)).mono ?_; rintro e w9 ⟨v9, rfl, hR, hb⟩; have hR := (show Kd.R Kd.string 9 w9 wr.heap.size (fun _ => True) v9 [sA, sB, sC] from hR); obtain ⟨A9, c9, ev9⟩ := Kd.R_slice hR; subst ev9; have HR9 := Aside0.mk (Kd.R_reads' hR).2; have HP9 := Aside0.mk (HPi.out.below hb); have HC9 := Aside0.mk (Kd.C_below HCw.out hb); have HT9 := Aside0.mk (HT.out.trans (Told.of_below hb HPi.out.base)); clear hR hb)
        | (go_at_call 14; refine (same_calls _ c9 [sA, sB, sC] Aw cw [sA, sB, sC] _ HR9.out.2 HR9.out.1 HC9.out HLw.out (by decide)).mono ?_; rintro e w10 ⟨rfl, hd⟩; rw [decide_eq_true (rfl : [sA, sB, sC] = [sA, sB, sC])]; have HP10 := Aside0.mk (HP9.out.below hd); have HT10 := Aside0.mk (HT9.out.trans (Told.of_below hd HP9.out.base)); clear hd)
        | (go_at_call 15; refine (tell_to g w1.heap.size S1 _ false _ _ _ HP10.out (by decide) plA_0).mono ?_; rintro e w11 ⟨rfl, S3, hP3, hT3⟩; have HP11 := Aside0.mk hP3; have HT11 := Aside0.mk (HT10.out.trans hT3); clear hP3 hT3))
      go_roundg (gk - 1)
      case measure => have := HK.out; omega
      case rel => exact ⟨1, S3, (by first | rfl | (simp [*]; done)), ⟨by have := HK.out; omega⟩, ⟨HP11.out⟩, ⟨HT11.out⟩⟩
    · obtain ⟨ad, cs, hA, _, hKs, hcell⟩ := Kd.C_get (HW.out _ HT.out.kept) ([] : List ByteArray) (1 : Int) (by decide) (by decide)
      subst hA
      obtain ⟨Aw, cw, ecs, hlw, hCw⟩ := hKs
      subst ecs
      have hin := hcell 0 _ rfl
      rw [show (Kd.slice 9 Kd.string).sz = 1 from rfl] at hin
      simp only [show ((1 : Int)).toNat = 1 from rfl, Nat.mul_one, Nat.add_zero] at hin
      have hin2 := hin
      simp [Addr.add] at hin2
      have HCw := Aside0.mk (show Kd.C Kd.string wr Aw 2 [sA, sB] from hCw)
      have HLw := Aside0.mk (show 2 ≤ cw from hlw)
      clear hcell hCw hlw
      go_wp2_with (first
        | (go_at_call 13; refine (next_calls g w1.heap.size S1 _ _ _ _ _ HPi.out (by decide)).mono ?_; rintro e w9 ⟨v9, rfl, hR, hb⟩; have hR := (show Kd.R Kd.string 9 w9 wr.heap.size (fun _ => True) v9 [sA, sB] from hR); obtain ⟨A9, c9, ev9⟩ := Kd.R_slice hR; subst ev9; have HR9 := Aside0.mk (Kd.R_reads' hR).2; have HP9 := Aside0.mk (HPi.out.below hb); have HC9 := Aside0.mk (Kd.C_below HCw.out hb); have HT9 := Aside0.mk (HT.out.trans (Told.of_below hb HPi.out.base)); clear hR hb)
        | (go_at_call 14; refine (same_calls _ c9 [sA, sB] Aw cw [sA, sB] _ HR9.out.2 HR9.out.1 HC9.out HLw.out (by decide)).mono ?_; rintro e w10 ⟨rfl, hd⟩; rw [decide_eq_true (rfl : [sA, sB] = [sA, sB])]; have HP10 := Aside0.mk (HP9.out.below hd); have HT10 := Aside0.mk (HT9.out.trans (Told.of_below hd HP9.out.base)); clear hd)
        | (go_at_call 15; refine (tell_to g w1.heap.size S1 _ false _ _ _ HP10.out (by decide) plA_1).mono ?_; rintro e w11 ⟨rfl, S3, hP3, hT3⟩; have HP11 := Aside0.mk hP3; have HT11 := Aside0.mk (HT10.out.trans hT3); clear hP3 hT3))
      go_roundg (gk - 1)
      case measure => have := HK.out; omega
      case rel => exact ⟨2, S3, (by first | rfl | (simp [*]; done)), ⟨by have := HK.out; omega⟩, ⟨HP11.out⟩, ⟨HT11.out⟩⟩
    · obtain ⟨ad, cs, hA, _, hKs, hcell⟩ := Kd.C_get (HW.out _ HT.out.kept) ([] : List ByteArray) (2 : Int) (by decide) (by decide)
      subst hA
      obtain ⟨Aw, cw, ecs, hlw, hCw⟩ := hKs
      subst ecs
      have hin := hcell 0 _ rfl
      rw [show (Kd.slice 9 Kd.string).sz = 1 from rfl] at hin
      simp only [show ((2 : Int)).toNat = 2 from rfl, Nat.mul_one, Nat.add_zero] at hin
      have hin2 := hin
      simp [Addr.add] at hin2
      have HCw := Aside0.mk (show Kd.C Kd.string wr Aw 1 [sA] from hCw)
      have HLw := Aside0.mk (show 1 ≤ cw from hlw)
      clear hcell hCw hlw
      go_wp2_with (first
        | (go_at_call 13; refine (next_calls g w1.heap.size S1 _ _ _ _ _ HPi.out (by decide)).mono ?_; rintro e w9 ⟨v9, rfl, hR, hb⟩; have hR := (show Kd.R Kd.string 9 w9 wr.heap.size (fun _ => True) v9 [sA] from hR); obtain ⟨A9, c9, ev9⟩ := Kd.R_slice hR; subst ev9; have HR9 := Aside0.mk (Kd.R_reads' hR).2; have HP9 := Aside0.mk (HPi.out.below hb); have HC9 := Aside0.mk (Kd.C_below HCw.out hb); have HT9 := Aside0.mk (HT.out.trans (Told.of_below hb HPi.out.base)); have hc9 := cell_first (Kd.R_reads' hR).2.2; obtain ⟨a9, ea9, hc9⟩ := hc9; subst ea9; clear hR hb)
        | (go_at_call 14; refine (same_calls _ c9 [sA] Aw cw [sA] _ HR9.out.2 HR9.out.1 HC9.out HLw.out (by decide)).mono ?_; rintro e w10 ⟨rfl, hd⟩; rw [decide_eq_true (rfl : [sA] = [sA])]; have HP10 := Aside0.mk (HP9.out.below hd); have HT10 := Aside0.mk (HT9.out.trans (Told.of_below hd HP9.out.base)); have hc10 := pw_cell_below hd hc9; clear hd)
        | (go_at_call 15; refine (tell_to g w1.heap.size S1 _ true _ _ _ HP10.out (by decide) plA_2).mono ?_; rintro e w11 ⟨rfl, S3, hP3, hT3⟩; have HP11 := Aside0.mk hP3; have HT11 := Aside0.mk (HT10.out.trans hT3); clear hP3 hT3))
      go_roundg (gk - 1)
      case measure => have := HK.out; omega
      case rel => exact ⟨3, S3, (by first | rfl | (simp [*]; done)), ⟨by have := HK.out; omega⟩, ⟨HP11.out⟩, ⟨HT11.out⟩⟩
    · obtain ⟨ad, cs, hA, _, hKs, hcell⟩ := Kd.C_get (HW.out _ HT.out.kept) ([] : List ByteArray) (3 : Int) (by decide) (by decide)
      subst hA
      obtain ⟨Aw, cw, ecs, hlw, hCw⟩ := hKs
      subst ecs
      have hin := hcell 0 _ rfl
      rw [show (Kd.slice 9 Kd.string).sz = 1 from rfl] at hin
      simp only [show ((3 : Int)).toNat = 3 from rfl, Nat.mul_one, Nat.add_zero] at hin
      have hin2 := hin
      simp [Addr.add] at hin2
      have HCw := Aside0.mk (show Kd.C Kd.string wr Aw 1 [sB] from hCw)
      have HLw := Aside0.mk (show 1 ≤ cw from hlw)
      clear hcell hCw hlw
      go_wp2_with (first
        | (go_at_call 13; refine (next_calls g w1.heap.size S1 _ _ _ _ _ HPi.out (by decide)).mono ?_; rintro e w9 ⟨v9, rfl, hR, hb⟩; have hR := (show Kd.R Kd.string 9 w9 wr.heap.size (fun _ => True) v9 [sB] from hR); obtain ⟨A9, c9, ev9⟩ := Kd.R_slice hR; subst ev9; have HR9 := Aside0.mk (Kd.R_reads' hR).2; have HP9 := Aside0.mk (HPi.out.below hb); have HC9 := Aside0.mk (Kd.C_below HCw.out hb); have HT9 := Aside0.mk (HT.out.trans (Told.of_below hb HPi.out.base)); have hc9 := cell_first (Kd.R_reads' hR).2.2; obtain ⟨a9, ea9, hc9⟩ := hc9; subst ea9; clear hR hb)
        | (go_at_call 14; refine (same_calls _ c9 [sB] Aw cw [sB] _ HR9.out.2 HR9.out.1 HC9.out HLw.out (by decide)).mono ?_; rintro e w10 ⟨rfl, hd⟩; rw [decide_eq_true (rfl : [sB] = [sB])]; have HP10 := Aside0.mk (HP9.out.below hd); have HT10 := Aside0.mk (HT9.out.trans (Told.of_below hd HP9.out.base)); have hc10 := pw_cell_below hd hc9; clear hd)
        | (go_at_call 15; refine (tell_to g w1.heap.size S1 _ false _ _ _ HP10.out (by decide) plA_3).mono ?_; rintro e w11 ⟨rfl, S3, hP3, hT3⟩; have HP11 := Aside0.mk hP3; have HT11 := Aside0.mk (HT10.out.trans hT3); clear hP3 hT3))
      go_roundg (gk - 1)
      case measure => have := HK.out; omega
      case rel => exact ⟨4, S3, (by first | rfl | (simp [*]; done)), ⟨by have := HK.out; omega⟩, ⟨HP11.out⟩, ⟨HT11.out⟩⟩
    · obtain ⟨ad, cs, hA, _, hKs, hcell⟩ := Kd.C_get (HW.out _ HT.out.kept) ([] : List ByteArray) (4 : Int) (by decide) (by decide)
      subst hA
      obtain ⟨Aw, cw, ecs, hlw, hCw⟩ := hKs
      subst ecs
      have hin := hcell 0 _ rfl
      rw [show (Kd.slice 9 Kd.string).sz = 1 from rfl] at hin
      simp only [show ((4 : Int)).toNat = 4 from rfl, Nat.mul_one, Nat.add_zero] at hin
      have hin2 := hin
      simp [Addr.add] at hin2
      have HCw := Aside0.mk (show Kd.C Kd.string wr Aw 1 [sC] from hCw)
      have HLw := Aside0.mk (show 1 ≤ cw from hlw)
      clear hcell hCw hlw
      go_wp2_with (first
        | (go_at_call 13; refine (next_calls g w1.heap.size S1 _ _ _ _ _ HPi.out (by decide)).mono ?_; rintro e w9 ⟨v9, rfl, hR, hb⟩; have hR := (show Kd.R Kd.string 9 w9 wr.heap.size (fun _ => True) v9 [sC] from hR); obtain ⟨A9, c9, ev9⟩ := Kd.R_slice hR; subst ev9; have HR9 := Aside0.mk (Kd.R_reads' hR).2; have HP9 := Aside0.mk (HPi.out.below hb); have HC9 := Aside0.mk (Kd.C_below HCw.out hb); have HT9 := Aside0.mk (HT.out.trans (Told.of_below hb HPi.out.base)); have hc9 := cell_first (Kd.R_reads' hR).2.2; obtain ⟨a9, ea9, hc9⟩ := hc9; subst ea9; clear hR hb)
        | (go_at_call 14; refine (same_calls _ c9 [sC] Aw cw [sC] _ HR9.out.2 HR9.out.1 HC9.out HLw.out (by decide)).mono ?_; rintro e w10 ⟨rfl, hd⟩; rw [decide_eq_true (rfl : [sC] = [sC])]; have HP10 := Aside0.mk (HP9.out.below hd); have HT10 := Aside0.mk (HT9.out.trans (Told.of_below hd HP9.out.base)); have hc10 := pw_cell_below hd hc9; clear hd)
        | (go_at_call 15; refine (tell_to g w1.heap.size S1 _ true _ _ _ HP10.out (by decide) plA_4).mono ?_; rintro e w11 ⟨rfl, S3, hP3, hT3⟩; have HP11 := Aside0.mk hP3; have HT11 := Aside0.mk (HT10.out.trans hT3); clear hP3 hT3))
      go_roundg (gk - 1)
      case measure => have := HK.out; omega
      case rel => exact ⟨5, S3, (by first | rfl | (simp [*]; done)), ⟨by have := HK.out; omega⟩, ⟨HP11.out⟩, ⟨HT11.out⟩⟩
    · have HT0 := HT
      go_wp2_with (first
        | (go_at_call 17; refine (tries_calls g w1.heap.size S1 _ _ _ _ _ HPi.out).mono ?_; rintro e w9 ⟨rfl, rfl⟩; (try dsimp only [plA]))
        | (go_at_call 19; refine (bad_calls g w1.heap.size S1 _ _ _ _ _ (HPi.out) (by decide)).mono ?_; rintro e w9 ⟨v9, rfl, hR, hb⟩; have hR := (show Kd.R Kd.string 9 w9 _ (fun _ => True) v9 [sB] from hR); obtain ⟨A9, c9, ev9⟩ := Kd.R_slice hR; subst ev9; obtain ⟨a9, ea9, hc9⟩ := cell_first (Kd.R_reads' hR).2.2; subst ea9; replace HT := Aside0.mk (HT.out.trans (Told.of_below hb HPi.out.base)); replace HPi := Aside0.mk (HPi.out.below hb); clear hR hb)
        | (go_at_call 18; refine (good_calls g w1.heap.size S1 _ _ _ _ _ (HPi.out) (by decide)).mono ?_; rintro e w12 ⟨v12, rfl, hR, hb⟩; have hR := (show Kd.R Kd.string 9 w12 _ (fun _ => True) v12 [sA, sC] from hR); obtain ⟨A12, c12, ev12⟩ := Kd.R_slice hR; subst ev12; have HR12 := Aside0.mk (Kd.R_reads' hR).2; have HT12 := Aside0.mk (HT.out.trans (Told.of_below hb HPi.out.base)); clear hR hb)
        | ((with_reducible refine gate_dst (N := 68) rfl ?_); (first | (refine gate_guard (by rfl) ?_; dsimp only) | skip); refine Kd.R_lit Kd.string (w0 := w12) w12.heap.size 9 ?hg (N := 68) ?hd (xs := [sA, sC]) (inner := [.string sA, .string sC]) (ok := fun _ => True) (okp := fun _ => True) ?hr ?hp (fun _ hk => hk) trivial ?hB ?hs (by decide) ?_; (case hd => rfl); (case hg => rfl); (case hr => first | (go_simp; done) | (go_simp; rfl)); (case hp => exact Reps.one (by rfl) (Reps.one (by rfl) (Reps.none _ _))); (case hB => exact Below.refl _ _); (case hs => exact Nat.le_refl _); intro v13 w13 ho hb hg hn; obtain ⟨A13, c13, ev⟩ := Kd.R_slice ho; subst ev; have HR13 := Aside0.mk (Kd.R_reads' ho).2; have HG13 := Aside0.mk (Kd.C_below HR12.out.2 hb); have HBe := Aside0.mk (HT12.out.below_ HBW.out HLE.out hb); clear ho hb hg hn)
        | (go_at_call 14; refine (same_calls _ _ [sA, sC] _ _ [sA, sC] _ HG13.out HR12.out.1 HR13.out.2 HR13.out.1 (by decide)).mono ?_; rintro e w14 ⟨rfl, hd⟩; rw [decide_eq_true (rfl : [sA, sC] = [sA, sC])]; have HBf := Aside0.mk (below_step HBe.out hd); clear hd))
      go_ret
      exact ⟨rfl, HBf.out⟩
end Go.Proofs.Ytdfnpjmebnlfbaa.PAll
