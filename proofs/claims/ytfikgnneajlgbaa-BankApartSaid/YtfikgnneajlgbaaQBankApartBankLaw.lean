
import Derived.Test.YtfikgnneajlgbaaQBankApartBankOps
set_option linter.unusedVariables false
set_option linter.unusedSimpArgs false
namespace Go.Proofs.Ytfikgnneajlgbaa.PAll
open Go Go.Proofs Go.RowKit Go.Proofs.YtfikgnneajlgbaaW.PrintWords Go.Proofs.YtfikgnneajlgbaaW.PrintLast Go.Proofs.YtfikgnneajlgbaaW.PrintMore Go.Maps
abbrev idA : ByteArray := ⟨#[97]⟩
abbrev idM : ByteArray := ⟨#[109, 105, 110, 101]⟩
def sA1 : Bk := (bk0.answer 1 2 idA (askA 5)).2
def sA2 : Bk := (sA1.answer 2 5 idA askC).2
def sA3 : Bk := (sA2.answer 3 6 idA askV).2
theorem eA1 : (bk0.answer 1 2 idA (askA 5)).1 = true := rfl
theorem eA2 : (sA1.answer 2 5 idA askC).1 = true := by decide +kernel
theorem eA3 : (sA2.answer 3 6 idA askV).1 = false := by decide +kernel
theorem eA4 : (sA3.acc idA).paid = 5 := by decide +kernel
theorem eA5 : (sA3.acc idA).times = 1 := by decide +kernel
theorem wf1 : (Lit.int .i64 1).wf = true := by decide
theorem wf2 : (Lit.int .i64 2).wf = true := by decide
theorem wf3 : (Lit.int .i64 3).wf = true := by decide
theorem szA : idA.size ≤ maxLen := by decide
theorem szM : idM.size ≤ maxLen := by decide
set_option maxHeartbeats 8000000 in
set_option maxRecDepth 100000 in
theorem alive_calls (w : World) : Calls Try.prog 6 #[] w fun e w' => e = .returned (.bool true) ∧ Below w.heap.size w w' := by
  go_enter Try.func6, Try.ntmps6
  go_wp2_with (first
    | (go_at_call 7; refine (new_calls _).mono ?_; rintro e w1 ⟨g, rfl, hS, hb⟩; have HS1 := Aside0.mk hS; have HB1 := Aside0.mk hb; clear hS hb)
    | (go_at_call 8; refine (authorise_calls 1 5 idA HS1.out (by decide) wf1 szA (by decide)).mono ?_; rintro e w2 ⟨rfl, hS, _, hb⟩; rw [eA1]; have HS2 := Aside0.mk (show BankS w2 w.heap.size g 2 sA1 from hS); have HB2 := Aside0.mk (HB1.out.trans hb); clear hS hb)
    | (go_at_call 9; refine (capture_calls 2 idA HS2.out (by decide) wf2 szA (by decide)).mono ?_; rintro e w3 ⟨rfl, hS, _, hb⟩; rw [eA2]; have HS3 := Aside0.mk (show BankS w3 w.heap.size g 4 sA2 from hS); have HB3 := Aside0.mk (HB2.out.trans hb); clear hS hb)
    | (go_at_call 12; refine (void_calls 3 idA HS3.out (by decide) wf3 szA (by decide)).mono ?_; rintro e w4 ⟨rfl, hS, _, hb⟩; rw [eA3]; have HS4 := Aside0.mk (show BankS w4 w.heap.size g 6 sA3 from hS); have HB4 := Aside0.mk (HB3.out.trans hb); clear hS hb)
    | (go_at_call 13; refine (net_calls idA HS4.out (by decide) szA).mono ?_; rintro e w5 ⟨rfl, hS, _, hb⟩; rw [eA4]; have HS5 := Aside0.mk hS; have HB5 := Aside0.mk (HB4.out.trans hb); clear hS hb)
    | (go_at_call 10; refine (captures_calls idA HS5.out (by decide) szA).mono ?_; rintro e w6 ⟨rfl, hS, _, hb⟩; rw [eA5]; have HB6 := Aside0.mk (HB5.out.trans hb); clear hS hb))
  go_ret
  exact ⟨rfl, HB6.out⟩
end Go.Proofs.Ytfikgnneajlgbaa.PAll
