/- Layer 14 (saga): what the program's Step answers, in plain words. -/
import Derived.Test.YtcghipdlihpbcaaOps
namespace Go.Proofs.Ytcghipdlihpbcaa.Pure
open Go.RowKit Go.Proofs.Ytcghipdlihpbcaa.PAll Go.Proofs.YtcghipdlihpbcaaW.PrintWords Go.Proofs.YtcghipdlihpbcaaW.PrintLast Go.Proofs.YtcghipdlihpbcaaW.PrintMore

theorem wf64 {x : Int} (h : (Lit.int .i64 x).wf = true) : -9223372036854775808 ≤ x ∧ x ≤ 9223372036854775807 := by
  simp [Lit.wf, IntKind.min, IntKind.max, IntKind.signed, IntKind.bits] at h
  omega
theorem w64 {x : Int} (h0 : -9223372036854775808 ≤ x) (h1 : x ≤ 9223372036854775807) : wrap64 x = x := by
  unfold wrap64; omega
theorem mx_eq (a b : Int) : mx a b = max a b := by unfold mx; split <;> omega
theorem mn_eq (a b : Int) : mn a b = min a b := by unfold mn; split <;> omega
/-- Some rounds at once. -/
theorem Ev.steps {α : Type} {g f : Nat → Option α} {r : α} (n : Nat) (h : ∀ k, g (k + n) = f k) (hf : Ev f r) : Ev g r := by
  obtain ⟨K, hf⟩ := hf
  refine ⟨K + n, fun m hm => ?_⟩
  obtain ⟨j, rfl⟩ : ∃ j, m = j + n := ⟨m - n, by omega⟩
  rw [h]
  exact hf j (by omega)

def asksS (p : Int) : Int := if p = 1 then 1 else if p = 2 then 2 else if p = 7 then 5 else if p = 9 then 6 else if p = 10 then 7 else 0
abbrev St := Int × Bool × Int × Int × Int
def toS (g : Bool) (r q : Int) : St := (q, g, r, asksS q, 0)
def wrongS (p : Int) (g : Bool) (r e : Int) : St := (p, g, r, 0, e)
def yesS (p : Int) (g : Bool) (r : Int) : St :=
  if p = 1 then (if g = true then toS g r 10 else toS g r 2)
  else if p = 2 then (if g = true then toS g r 9 else toS g r 3)
  else if p = 4 then (if g = true then toS g r 9 else toS g r 5)
  else if p = 6 then toS g r 7
  else if p = 7 then toS g r 8
  else if p = 9 then toS g 0 10
  else if p = 10 then toS g r 11
  else wrongS p g r 142
def noS (p : Int) (g : Bool) (r lim : Int) : St :=
  if p = 1 then toS g r 11
  else if p = 2 then toS g r 10
  else if p = 4 then toS g r 9
  else if p = 6 then toS g r 9
  else if p = 7 then toS g r 7
  else if p = 9 then (if min r 999999 + 1 ≥ max lim 1 then toS g (min r 999999 + 1) 12 else toS g (min r 999999 + 1) 9)
  else if p = 10 then (if min r 999999 + 1 ≥ max lim 1 then toS g (min r 999999 + 1) 12 else toS g (min r 999999 + 1) 10)
  else wrongS p g r 142
def cancelS (p : Int) (g : Bool) (r : Int) : St :=
  if p = 1 ∨ p = 2 ∨ p = 4 then (p, true, r, 0, 0)
  else if p = 3 ∨ p = 5 then toS true r 9
  else if p = 9 ∨ p = 10 ∨ p = 11 then (p, g, r, 0, 0)
  else if p = 6 ∨ p = 7 ∨ p = 8 ∨ p = 12 then wrongS p g r 141
  else wrongS p g r 142
def stepS (p : Int) (g : Bool) (r e lim : Int) : St :=
  if e = 1 then yesS p g r
  else if e = 2 then noS p g r (max lim 1)
  else if e = 3 then cancelS p g r
  else if e = 4 then (if p = 3 then toS g r 4 else if p = 5 then toS g r 6 else wrongS p g r 142)
  else wrongS p g r 142

theorem asks_eq (p : Int) : saga_Asks.f p = some (asksS p) := by
  unfold saga_Asks.f asksS
  repeat' split
  all_goals rfl
theorem to_eq (p : Int) (g : Bool) (r q : Int) : saga_to.f p g r q = some (toS g r q) := by
  unfold saga_to.f toS; rw [asks_eq]; rfl
theorem wrong_eq (p : Int) (g : Bool) (r e : Int) : saga_wrong.f p g r e = some (wrongS p g r e) := rfl
theorem pair_eta (x : St) : (x.1, x.2.1, x.2.2.1, x.2.2.2.1, x.2.2.2.2) = x := rfl

theorem yes_eq (p : Int) (g : Bool) (r : Int) : saga_yes.f 1 p g r = some (yesS p g r) := by
  unfold saga_yes.f yesS
  by_cases h1 : p = 1
  · subst h1; cases g <;> simp [to_eq]
  by_cases h2 : p = 2
  · subst h2; cases g <;> simp [to_eq, saga_yes.j0, wrap64]
  by_cases h4 : p = 4
  · subst h4; cases g <;> simp [to_eq, saga_yes.j0, wrap64]
  by_cases h6 : p = 6
  · subst h6; simp [to_eq, saga_yes.j0]
  by_cases h7 : p = 7
  · subst h7; simp [to_eq, saga_yes.j0]
  by_cases h9 : p = 9
  · subst h9; simp [to_eq, saga_yes.j0]
  by_cases h10 : p = 10
  · subst h10; simp [to_eq, saga_yes.j0]
  simp [h1, h2, h4, h6, h7, h9, h10, saga_yes.j0, wrong_eq]

theorem no_eq (p : Int) (g : Bool) (r lim : Int) (hr : -9223372036854775808 ≤ r) : saga_no.f 2 p g r lim = some (noS p g r lim) := by
  have hw : wrap64 (min r 999999 + 1) = min r 999999 + 1 := w64 (by omega) (by omega)
  unfold saga_no.f noS
  by_cases h1 : p = 1
  · subst h1; simp [to_eq]
  by_cases h2 : p = 2
  · subst h2; simp [to_eq]
  by_cases h4 : p = 4
  · subst h4; simp [to_eq, saga_no.j0]
  by_cases h6 : p = 6
  · subst h6; simp [to_eq, saga_no.j0]
  by_cases h7 : p = 7
  · subst h7; simp [to_eq, saga_no.j0]
  by_cases h9 : p = 9
  · subst h9
    simp only [saga_no.j0, saga_no.j1, mx_eq, mn_eq, hw, to_eq]
    by_cases c : min r 999999 + 1 ≥ max lim 1 <;> simp [c]
  by_cases h10 : p = 10
  · subst h10
    simp only [saga_no.j0, saga_no.j1, mx_eq, mn_eq, hw, to_eq]
    by_cases c : min r 999999 + 1 ≥ max lim 1 <;> simp [c]
  simp [h1, h2, h4, h6, h7, h9, h10, saga_no.j0, saga_no.j1, wrong_eq]

theorem cancel_eq (p : Int) (g : Bool) (r : Int) : saga_cancel.f 4 p g r = some (cancelS p g r) := by
  unfold saga_cancel.f cancelS
  by_cases h1 : p = 1
  · subst h1; simp [saga_cancel.j0]
  by_cases h2 : p = 2
  · subst h2; simp [saga_cancel.j0]
  by_cases h4 : p = 4
  · subst h4; simp [saga_cancel.j0]
  by_cases h3 : p = 3
  · subst h3; simp [saga_cancel.j0, saga_cancel.j1, to_eq]
  by_cases h5 : p = 5
  · subst h5; simp [saga_cancel.j0, saga_cancel.j1, to_eq]
  by_cases h9 : p = 9
  · subst h9; simp [saga_cancel.j0, saga_cancel.j1, saga_cancel.j2]
  by_cases h10 : p = 10
  · subst h10; simp [saga_cancel.j0, saga_cancel.j1, saga_cancel.j2]
  by_cases h11 : p = 11
  · subst h11; simp [saga_cancel.j0, saga_cancel.j1, saga_cancel.j2]
  by_cases h6 : p = 6
  · subst h6; simp [saga_cancel.j0, saga_cancel.j1, saga_cancel.j2, saga_cancel.j3, wrong_eq]
  by_cases h7 : p = 7
  · subst h7; simp [saga_cancel.j0, saga_cancel.j1, saga_cancel.j2, saga_cancel.j3, wrong_eq]
  by_cases h8 : p = 8
  · subst h8; simp [saga_cancel.j0, saga_cancel.j1, saga_cancel.j2, saga_cancel.j3, wrong_eq]
  by_cases h12 : p = 12
  · subst h12; simp [saga_cancel.j0, saga_cancel.j1, saga_cancel.j2, saga_cancel.j3, wrong_eq]
  simp [h1, h2, h3, h4, h5, h6, h7, h8, h9, h10, h11, h12, saga_cancel.j0, saga_cancel.j1, saga_cancel.j2, saga_cancel.j3, wrong_eq]

theorem step_ev (p : Int) (g : Bool) (r e lim : Int) (hr : -9223372036854775808 ≤ r) : Ev (fun k => saga_Step.f k p g r e lim) (stepS p g r e lim) := by
  unfold saga_Step.f stepS
  by_cases h1 : e = 1
  · simp only [if_pos h1]
    refine Ev.bind (Ev.of (saga_yes.mono p g r) (yes_eq p g r)) (Ev.now _)
  by_cases h2 : e = 2
  · simp only [if_neg h1, if_pos h2, mx_eq]
    refine Ev.bind (Ev.of (saga_no.mono p g r _) (no_eq p g r _ hr)) (Ev.now _)
  by_cases h3 : e = 3
  · simp only [if_neg h1, if_neg h2, if_pos h3]
    refine Ev.bind (Ev.of (saga_cancel.mono p g r) (cancel_eq p g r)) (Ev.now _)
  by_cases h4 : e = 4
  · simp only [if_neg h1, if_neg h2, if_neg h3, if_pos h4, to_eq, wrong_eq, Option.bind_some, pair_eta]
    by_cases c3 : p = 3
    · simp only [if_pos c3]; exact Ev.now _
    by_cases c5 : p = 5
    · simp only [if_neg c3, if_pos c5]; exact Ev.now _
    simp only [if_neg c3, if_neg c5]; exact Ev.now _
  simp only [if_neg h1, if_neg h2, if_neg h3, if_neg h4, wrong_eq, Option.bind_some, pair_eta]
  exact Ev.now _

theorem alive_ev : Ev (fun k => packhorselaw14_sagaAlive.f k) true := Ev.of packhorselaw14_sagaAlive.mono (k := 20) (by decide +kernel)
end Go.Proofs.Ytcghipdlihpbcaa.Pure
