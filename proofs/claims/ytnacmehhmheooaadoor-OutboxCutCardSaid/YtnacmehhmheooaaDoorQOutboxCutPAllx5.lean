
import Derived.Test.YtnacmehhmheooaaDoorQOutboxCutPAllx0
import Derived.Test.YtnacmehhmheooaaDoorQOutboxCutPAllx4
namespace Go.Proofs.YtnacmehhmheooaaDoor.PAll
open Go.RowKit Go.Proofs.YtnacmehhmheooaaDoorW.PrintWords Go.Proofs.YtnacmehhmheooaaDoorW.PrintLast Go.Proofs.YtnacmehhmheooaaDoorW.PrintMore
attribute [local go_sem] max2_int min2_int max_two min_two
set_option linter.unusedVariables false
set_option linter.unusedSimpArgs false
def slices_Clone_byte_byte.f (a0 : List Int) : Option (List Int) := if a0.length < 140737488355328 then some a0 else none
set_option maxHeartbeats 4000000 in
set_option maxRecDepth 100000 in
theorem slices_Clone_byte_byte.calls (A0 : Option Addr) (c0 : Nat) (l0 : List Int) (r : List Int) (w : World) (hr0 : Kd.C (Kd.int .u8) w A0 l0.length l0) (hc0 : l0.length ≤ c0) (h : slices_Clone_byte_byte.f l0 = some r) :
  Calls Tryd.prog 40 #[.slice A0 l0.length c0] w fun e w' => ∃ v0_ : Value, e = .returned (v0_) ∧ Kd.R (Kd.int .u8) 5 w' w.heap.size (fun _ => True) v0_ r ∧ Below w.heap.size w w' := by
 have hl : l0.length < 140737488355328 := by
  by_cases c : l0.length < 140737488355328
  ·exact c
  ·rw [slices_Clone_byte_byte.f, if_neg c] at h; cases h
 obtain rfl : l0 = r := by rw [slices_Clone_byte_byte.f, if_pos hl] at h; exact Option.some.inj h
 clear h; have HC := am hr0
 cases A0 with
 | none =>
  have h0 : l0 = [] := by
   cases l0 with
   | nil => rfl
   | cons x t =>
    obtain ⟨ad, c, hA, _⟩ := Kd.C_get hr0 x 0 (by omega) (by simp)
    cases hA
  subst h0; clear hr0
  have heq := fun W => Lib.run_eql_slice_nil (P := Tryd.prog) W 49 5 none 0 c0 0 0 Tryd.underlying49
  go_enter Tryd.func40, Tryd.ntmps40
  go_wp2_with fail
  go_ret
  exact ⟨.slice none 0 0, rfl, Kd.R_nil _ _ _ _ _, Below.refl _ _⟩
 | some ad =>
  clear hr0; have LM := am hl; clear hl
  have heq := fun W => Lib.run_eql_slice_nil (P := Tryd.prog) W 49 5 (some ad) l0.length c0 0 0 Tryd.underlying49
  go_enter Tryd.func40, Tryd.ntmps40
  go_wp2_with (first | ((with_reducible refine gate_dst (N := 5) rfl ?_); refine Kd.R_lit (Kd.int .u8) w.heap.size 5 ?hg (N := 5) ?hd (xs := ([] : List Int)) (inner := []) (ok := fun _ => True) (okp := fun _ => True) ?hr ?hp (fun _ hk => hk) trivial (Below.refl _ _) (Nat.le_refl _) (by simp) ?_; (case hd => rfl); (case hg => rfl); (case hr => first | (go_simp; done) | (go_simp; rfl)); (case hp => exact (Reps.none _ _)); intro v1 w1 ho1 hb1 hg1 hn1; have HO := am ho1; have HB := am hb1; have HC1 := am (Kd.C_below HC.out hb1); clear ho1 hb1 hg1 hn1) | ((with_reducible refine gate_builtin (b := .append) (xs := #[.tmp 5, .tmp 6]) rfl ?_); at_builtin; refine Kd.R_append_rows (Kd.int .u8) (w0 := w) w.heap.size rfl (.tmp 5) (.tmp 6) 49 5 (.int .u8 0) 1 rfl Tryd.underlying49 info5 rfl (by decide) (by omega) v1 [] l0 _ _ _ (fun _ => True) (fun _ => False) rfl rfl ?aO ?aR (fun _ _ h => h) (fun _ h => h.elim) ?aF ?aB ?aS ?aL ?_; (case aR => exact HC1.out); (case aB => exact HB.out); (case aF => exact (fun _ _ => trivial)); (case aO => exact HO.out); (case aS => exact HB.out.size); (case aL => have := LM.out; simp; omega); intro v2 w2 ho hb hg hat; have HO2 := am ho; have HB2 := am hb; clear ho hb hg hat))
  go_ret
  exact ⟨_, rfl, HO2.out, HB2.out⟩
def packet_New.f (l0 : List Int) : Option (List Int × Bool) := if l0.length < 140737488355328 then some (l0, false) else none
theorem packet_New.calls (A0 : Option Addr) (c0 : Nat) (l0 : List Int) (r1 : List Int) (r2 : Bool) (w0 w : World) (hB : Below w0.heap.size w0 w) (hr0 : Kd.C (Kd.int .u8) w A0 l0.length l0) (hc0 : l0.length ≤ c0) (h : packet_New.f l0 = some (r1, r2)) :
  Calls Tryd.prog 25 #[.slice A0 l0.length c0] w fun e w' => ∃ g_ : Nat, e = .returned (.pointer (some ⟨g_, 0, none⟩)) ∧ JS74 w0 w' g_ r1 r2 ∧ Below w0.heap.size w0 w' ∧ Below w.heap.size w w' := by
 have hl : l0.length < 140737488355328 := by
  by_cases c : l0.length < 140737488355328
  ·exact c
  ·rw [packet_New.f, if_neg c] at h; cases h
 rw [packet_New.f, if_pos hl] at h; have h := Option.some.inj h; simp only [Prod.mk.injEq] at h; obtain ⟨rfl, rfl⟩ := h; have HB0 := am hB; have HR := am hr0; have HC := am hc0; have HN := am (show slices_Clone_byte_byte.f l0 = some l0 from if_pos hl); clear hr0 hc0 hl hB
 go_enter Tryd.func25, Tryd.ntmps25
 go_wp2_with (go_at_call 40; refine (slices_Clone_byte_byte.calls _ _ l0 l0 _ HR.out HC.out HN.out).mono ?_; rintro e w1 ⟨v1, rfl, ho, hb⟩; obtain ⟨A1, c1, eo⟩ := Kd.R_slice ho; subst eo; have HO := am ho; have HB := am hb; clear ho hb)
 go_ret
 exact ⟨_, rfl, ⟨w1, IsS74.new w1 w1 A1 c1 l0 false (Below.refl _ _) ⟨(Kd.R_reads' HO.out).2.2, (Kd.R_reads' HO.out).2.1⟩, below_alloc (Below.refl _ _) _, below_then HB0.out HB0.out.size HB.out⟩, below_then HB0.out HB0.out.size (below_alloc HB.out _), below_alloc HB.out _⟩
end Go.Proofs.YtnacmehhmheooaaDoor.PAll
