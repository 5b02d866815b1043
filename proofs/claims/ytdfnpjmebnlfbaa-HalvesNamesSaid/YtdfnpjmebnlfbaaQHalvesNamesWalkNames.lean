import Derived.Test.YtdfnpjmebnlfbaaQHalvesNamesAlive
import Derived.Test.YtdfnpjmebnlfbaaQHalvesNamesLawsF
import Derived.Test.YtdfnpjmebnlfbaaQHalvesNamesBnd
import Derived.Deep.RegionWith

namespace Go.Proofs.YtdfnpjmebnlfbaaW.PrintMore
end Go.Proofs.YtdfnpjmebnlfbaaW.PrintMore
set_option linter.unusedVariables false
set_option linter.unusedSimpArgs false
namespace Go.Proofs.Ytdfnpjmebnlfbaa.PAll
open Go Go.Proofs Go.RowKit Go.Proofs.YtdfnpjmebnlfbaaW.PrintWords Go.Proofs.YtdfnpjmebnlfbaaW.PrintLast Go.Proofs.YtdfnpjmebnlfbaaW.PrintMore
abbrev sX : ByteArray := ⟨#[120]⟩
set_option maxHeartbeats 16000000 in
set_option maxRecDepth 100000 in
theorem packhorselaw12_HalvesNames.calls (r : Bool) (w : World) (h : packhorselaw12_HalvesNames.f = some r) (hr_ : r = true) : Calls Try.prog 7 #[] w fun e w' => e = .returned (.bool r) ∧ Below w.heap.size w w' := by
  subst hr_
  clear h
  have b1 : ∀ W : World, Calls Try.prog 21 #[.int .i64 1, .int .i64 1] W fun e w' => e = .returned (.int .i64 3) ∧ Below W.heap.size W w' := fun W => by
    have z := Pure.bound_calls 1 1 W (by decide) (by decide) (by decide)
    rw [show Pure.bl (1 - 1) = 0 from by decide] at z
    exact z
  have b2 : ∀ W : World, Calls Try.prog 21 #[.int .i64 8, .int .i64 2] W fun e w' => e = .returned (.int .i64 17) ∧ Below W.heap.size W w' := fun W => by
    have z := Pure.bound_calls 8 2 W (by decide) (by decide) (by decide)
    rw [show Pure.bl (8 - 1) = 3 from by decide] at z
    exact z
  have b3 : ∀ W : World, Calls Try.prog 21 #[.int .i64 9, .int .i64 1] W fun e w' => e = .returned (.int .i64 11) ∧ Below W.heap.size W w' := fun W => by
    have z := Pure.bound_calls 9 1 W (by decide) (by decide) (by decide)
    rw [show Pure.bl (9 - 1) = 4 from by decide] at z
    exact z
  have b4 : ∀ W : World, Calls Try.prog 21 #[.int .i64 0, .int .i64 0] W fun e w' => e = .returned (.int .i64 0) ∧ Below W.heap.size W w' := fun W => Pure.bound_none 0 0 W (by decide)
  have b5 : ∀ W : World, Calls Try.prog 21 #[.int .i64 2, .int .i64 3] W fun e w' => e = .returned (.int .i64 0) ∧ Below W.heap.size W w' := fun W => Pure.bound_none 2 3 W (by decide)
  have B1 := Aside0.mk b1
  have B2 := Aside0.mk b2
  have B3 := Aside0.mk b3
  have B4 := Aside0.mk b4
  have B5 := Aside0.mk b5
  clear b1 b2 b3 b4 b5
  go_enter Try.func7, Try.ntmps7
  go_upto_region 4 with (first
    | (go_at_call 10; refine (alive_calls _).mono ?_; rintro e w1 ⟨rfl, hb⟩; have HB1 := Aside0.mk hb; clear hb)
    | (go_at_call 11; refine (new_calls none 0 [] _ (Kd.C_nil _ _) (Nat.le_refl _) (by decide) (by simp)).mono ?_; rintro e w2 ⟨hb2, h2⟩; rcases h2 with ⟨hnd, g, S, rfl, hP⟩ | ⟨hnd, rfl⟩; (rotate_left; exact absurd (by decide) hnd); have HB2 := Aside0.mk (below_step HB1.out hb2); have HP := Aside0.mk (show PlanS w2 w1.heap.size g S [] [] [] 0 from hP); clear hb2 hP hnd))
  have HC2 := Aside0.mk (Below.refl w2.heap.size w2)
  go_upto_region 6 with (first
    | ((with_reducible refine gate_dst (N := 14) rfl ?_); refine Kd.R_lit Kd.string (w0 := w2) w2.heap.size 9 ?hg (N := 14) ?hd (xs := [sA, sA]) (inner := [.string sA, .string sA]) (ok := fun _ => True) (okp := fun _ => True) ?hr ?hp (fun _ hk => hk) trivial ?hB ?hs (by decide) ?_; (case hd => rfl); (case hg => rfl); (case hr => first | (go_simp; done) | (go_simp; rfl)); (case hp => exact Reps.one (by rfl) (Reps.one (by rfl) (Reps.none _ _))); (case hB => exact HC2.out); (case hs => exact HC2.out.size); intro v3 w3 ho3 hb3 hg3 hn3; have HC3 := Aside0.mk hb3; obtain ⟨A3, c3, ev⟩ := Kd.R_slice ho3; subst ev; have R3 := Aside0.mk (Kd.R_reads' ho3).2; clear ho3 hb3 hg3 hn3)
    | (go_at_call 11; refine (new_calls _ _ [sA, sA] _ R3.out.2 R3.out.1 (by decide) (by decide)).mono ?_; rintro e w4 ⟨hb4, h4⟩; rcases h4 with ⟨hnd, _, _, rfl, _⟩ | ⟨hnd, rfl⟩; (exact absurd hnd (by decide)); have HC4 := Aside0.mk (below_step HC3.out hb4); clear hb4 hnd)
    | ((with_reducible refine gate_dst (N := 19) rfl ?_); refine Kd.R_lit Kd.string (w0 := w2) w2.heap.size 9 ?hg (N := 19) ?hd (xs := [sX]) (inner := [.string sX]) (ok := fun _ => True) (okp := fun _ => True) ?hr ?hp (fun _ hk => hk) trivial ?hB ?hs (by decide) ?_; (case hd => rfl); (case hg => rfl); (case hr => first | (go_simp; done) | (go_simp; rfl)); (case hp => exact Reps.one (by rfl) (Reps.none _ _)); (case hB => exact HC4.out); (case hs => exact HC4.out.size); intro v5 w5 ho5 hb5 hg5 hn5; have HC5 := Aside0.mk hb5; obtain ⟨A5, c5, ev⟩ := Kd.R_slice ho5; subst ev; have R5 := Aside0.mk (Kd.R_reads' ho5).2; clear ho5 hb5 hg5 hn5)
    | (go_at_call 20; refine (halves_Split.calls _ _ [sX] [sX] [] _ R5.out.2 R5.out.1 (split_f [sX] (by decide))).mono ?_; rintro e w6 ⟨va, vb_, rfl, hra, hrb, hb6⟩; obtain ⟨Aa, ca, eva⟩ := Kd.R_slice hra; obtain ⟨Al, cl, evb⟩ := Kd.R_slice hrb; subst eva; subst evb; have HC6 := Aside0.mk (below_step HC5.out hb6); clear hra hrb hb6))
  have HP6 := Aside0.mk (HP.out.below HC6.out)
  have HB6 := Aside0.mk (below_step HB2.out HC6.out)
  have HLE := Aside0.mk HB1.out.size
  clear HC2 HC3 HC4 HC5 HP R3 R5
  go_wp2_with (first
    | (go_at_call 13; refine (next_calls g _ S [] [] [] 0 _ HP6.out (by decide)).mono ?_; rintro e w7 ⟨v7, rfl, hR, hb⟩; have hR := (show Kd.R Kd.string 9 w7 _ (fun _ => True) v7 [] from hR); obtain ⟨A7, c7, ev7⟩ := Kd.R_slice hR; subst ev7; have HP7 := Aside0.mk (HP6.out.below hb); have HB7 := Aside0.mk (below_step HB6.out hb); clear hR hb)
    | (go_at_call 15; refine (tell_none g _ S ⟨[], [], [], 0⟩ true _ HP7.out (by decide)).mono ?_; rintro e w8 ⟨rfl, hP8, hT⟩; have HB8 := Aside0.mk (below_weaken HB7.out HLE.out hT.below); clear hP8 hT)
    | (go_at_call_of 21 (9 : Int); refine (B3.out _).mono ?_; rintro e w9 ⟨rfl, hb⟩; replace HB8 := Aside0.mk (below_step HB8.out hb); clear hb)
    | (go_at_call_of 21 (8 : Int); refine (B2.out _).mono ?_; rintro e w9 ⟨rfl, hb⟩; replace HB8 := Aside0.mk (below_step HB8.out hb); clear hb)
    | (go_at_call_of 21 (3 : Int); refine (B5.out _).mono ?_; rintro e w9 ⟨rfl, hb⟩; replace HB8 := Aside0.mk (below_step HB8.out hb); clear hb)
    | (go_at_call_of 21 (0 : Int); refine (B4.out _).mono ?_; rintro e w9 ⟨rfl, hb⟩; replace HB8 := Aside0.mk (below_step HB8.out hb); clear hb)
    | (go_at_call_of 21 (1 : Int); refine (B1.out _).mono ?_; rintro e w9 ⟨rfl, hb⟩; replace HB8 := Aside0.mk (below_step HB8.out hb); clear hb))
  go_ret
  exact ⟨rfl, HB8.out⟩
end Go.Proofs.Ytdfnpjmebnlfbaa.PAll
