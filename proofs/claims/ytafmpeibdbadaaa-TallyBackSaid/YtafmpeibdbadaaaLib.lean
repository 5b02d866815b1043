/- Layer 2 (tally): what the program's functions answer, in plain words: lemmas for the statements of this layer. -/
import Derived.Test.YtafmpeibdbadaaaPAllx4
namespace Go.Proofs.Ytafmpeibdbadaaa.Pure
open Go.RowKit Go.Proofs.Ytafmpeibdbadaaa.PAll Go.Proofs.YtafmpeibdbadaaaW.PrintWords Go.Proofs.YtafmpeibdbadaaaW.PrintLast

theorem wf64 {x : Int} (h : (Lit.int .i64 x).wf = true) : -9223372036854775808 ≤ x ∧ x ≤ 9223372036854775807 := by
  simp [Lit.wf, IntKind.min, IntKind.max, IntKind.signed, IntKind.bits] at h
  omega

theorem w64 {x : Int} (h0 : -9223372036854775808 ≤ x) (h1 : x ≤ 9223372036854775807) : wrap64 x = x := by
  unfold wrap64; omega

/-- Can a number be? -/
def ok (n : Int) : Bool := decide (0 ≤ n ∧ n ≤ 1000000000000)
theorem ok_iff (n : Int) : ok n = true ↔ 0 ≤ n ∧ n ≤ 1000000000000 := by simp [ok]
theorem ok_no (n : Int) : ok n = false ↔ (n < 0 ∨ 1000000000000 < n) := by simp [ok]; omega
/-- A number, if it can be. -/
def tell (n : Int) : Int × Int := if ok n = true then (n, 0) else (0, 21)
def addS (a b : Int) : Int × Int := if ok a = true ∧ ok b = true then tell (a + b) else (0, 21)
def lessS (a b : Int) : Int × Int := if ok a = true ∧ ok b = true then tell (a - b) else (0, 21)
def timesS (a b : Int) : Int × Int := if ok a = true ∧ ok b = true then tell (a * b) else (0, 21)
def sumS : Int → List Int → Int × Int
  | s, [] => (s, 0)
  | s, x :: l => if ok s = true ∧ ok x = true ∧ ok (s + x) = true then sumS (s + x) l else (0, 21)

theorem tell_yes {n : Int} (h : ok n = true) : tell n = (n, 0) := by unfold tell; rw [if_pos h]
theorem tell_no {n : Int} (h : ¬ ok n = true) : tell n = (0, 21) := by unfold tell; rw [if_neg h]
theorem tell_ok {n : Int} (h : (tell n).2 = 0) : ok n = true := by
  by_cases c : ok n = true
  · exact c
  · rw [tell_no c] at h; cases h
theorem addS_yes {a b : Int} (h : ok a = true) (k : ok b = true) : addS a b = tell (a + b) := by unfold addS; rw [if_pos ⟨h, k⟩]
theorem lessS_yes {a b : Int} (h : ok a = true) (k : ok b = true) : lessS a b = tell (a - b) := by unfold lessS; rw [if_pos ⟨h, k⟩]
theorem timesS_yes {a b : Int} (h : ok a = true) (k : ok b = true) : timesS a b = tell (a * b) := by unfold timesS; rw [if_pos ⟨h, k⟩]
theorem addS_ok {a b : Int} (h : (addS a b).2 = 0) : ok a = true ∧ ok b = true ∧ ok (a + b) = true ∧ addS a b = (a + b, 0) := by
  by_cases c : ok a = true ∧ ok b = true
  · rw [addS_yes c.1 c.2] at h ⊢
    exact ⟨c.1, c.2, tell_ok h, tell_yes (tell_ok h)⟩
  · unfold addS at h; rw [if_neg c] at h; cases h
theorem timesS_ok {a b : Int} (h : (timesS a b).2 = 0) : ok a = true ∧ ok b = true ∧ ok (a * b) = true ∧ timesS a b = (a * b, 0) := by
  by_cases c : ok a = true ∧ ok b = true
  · rw [timesS_yes c.1 c.2] at h ⊢
    exact ⟨c.1, c.2, tell_ok h, tell_yes (tell_ok h)⟩
  · unfold timesS at h; rw [if_neg c] at h; cases h

theorem right_eq (a : Int) : tally_Right.f a = some (ok a) := by
  unfold tally_Right.f ok
  by_cases h : a ≥ 0
  · rw [if_pos h]; congr 1; rw [decide_eq_decide]; omega
  · rw [if_neg h]; congr 1; symm; rw [decide_eq_false_iff_not]; omega

theorem told_eq (n : Int) : tally_told.f n = some (tell n) := by
  unfold tally_told.f tell
  rw [right_eq]; simp only [Option.bind_some]
  split <;> rfl

theorem add_eq (a b : Int) : tally_Add.f a b = some (addS a b) := by
  unfold tally_Add.f addS
  rw [right_eq, right_eq]; simp only [Option.bind_some]
  by_cases h : ok a = true
  · by_cases k : ok b = true
    · have h1 := (ok_iff a).1 h
      have k1 := (ok_iff b).1 k
      rw [if_pos h, if_pos k, if_pos ⟨h, k⟩, w64 (by omega) (by omega), told_eq]; rfl
    · rw [if_pos h, if_neg k, if_neg (fun z => k z.2)]
  · rw [if_neg h, if_neg (fun z => h z.1)]

theorem less_eq (a b : Int) : tally_Less.f a b = some (lessS a b) := by
  unfold tally_Less.f lessS
  rw [right_eq, right_eq]; simp only [Option.bind_some]
  by_cases h : ok a = true
  · by_cases k : ok b = true
    · have h1 := (ok_iff a).1 h
      have k1 := (ok_iff b).1 k
      rw [if_pos h, if_pos k, if_pos ⟨h, k⟩, w64 (by omega) (by omega), told_eq]; rfl
    · rw [if_pos h, if_neg k, if_neg (fun z => k z.2)]
  · rw [if_neg h, if_neg (fun z => h z.1)]

theorem u64in {n : Int} (h0 : 0 ≤ n) (h1 : n ≤ 18446744073709551615) : IntKind.u64.wrap n = n := IntWalk.u64_in n ⟨h0, h1⟩

theorem mask32 {x : Int} (h0 : 0 ≤ x) (h1 : x < 18446744073709551616) : Go.bits .and .u64 x 4294967295 = x % 4294967296 := by
  have h := bits_mask .u64 64 (by decide) (fun n a b => u64in a (by have : (2 : Int) ^ 64 = 18446744073709551616 := by decide
                                                                    omega)) 32 (by decide) x h0 (by have : (2 : Int) ^ 64 = 18446744073709551616 := by decide
                                                                                                    omega)
  have e1 : (2 : Int) ^ 32 = 4294967296 := by decide
  rw [e1] at h
  exact h

theorem mul_le {a b m n : Int} (ha : 0 ≤ a) (hb : 0 ≤ b) (ham : a ≤ m) (hbn : b ≤ n) : 0 ≤ a * b ∧ a * b ≤ m * n :=
  ⟨Int.mul_nonneg ha hb, Int.mul_le_mul ham hbn hb (by omega)⟩

theorem mul64_eq {a b : Int} (ha : 0 ≤ a) (hb : 0 ≤ b) (ha1 : a ≤ 1000000000000) (hb1 : b ≤ 1000000000000) :
    bits_Mul64.f a b = some (a * b / 18446744073709551616, a * b % 18446744073709551616) := by
  unfold bits_Mul64.f
  rw [mask32 ha (by omega), mask32 hb (by omega)]
  obtain ⟨a1, a0, ea, A1, A2, A3, A4⟩ : ∃ a1 a0, a = a1 * 4294967296 + a0 ∧ 0 ≤ a1 ∧ a1 ≤ 232 ∧ 0 ≤ a0 ∧ a0 < 4294967296 := ⟨a / 4294967296, a % 4294967296, by omega, by omega, by omega, by omega, by omega⟩
  obtain ⟨b1, b0, eb, B1, B2, B3, B4⟩ : ∃ b1 b0, b = b1 * 4294967296 + b0 ∧ 0 ≤ b1 ∧ b1 ≤ 232 ∧ 0 ≤ b0 ∧ b0 < 4294967296 := ⟨b / 4294967296, b % 4294967296, by omega, by omega, by omega, by omega, by omega⟩
  have q1 : a / 4294967296 = a1 := by omega
  have q2 : a % 4294967296 = a0 := by omega
  have q3 : b / 4294967296 = b1 := by omega
  have q4 : b % 4294967296 = b0 := by omega
  rw [q1, q2, q3, q4]
  have p11 := mul_le A1 B1 A2 B2
  have p10 := mul_le A1 B3 A2 (show b0 ≤ 4294967295 by omega)
  have p01 := mul_le A3 B1 (show a0 ≤ 4294967295 by omega) B2
  have p00 := mul_le A3 B3 (show a0 ≤ 4294967295 by omega) (show b0 ≤ 4294967295 by omega)
  have e : a * b = a1 * b1 * 18446744073709551616 + (a1 * b0 + a0 * b1) * 4294967296 + a0 * b0 := by
    rw [ea, eb]
    have z1 : (a1 * 4294967296) * (b1 * 4294967296) = a1 * b1 * 18446744073709551616 := by rw [Int.mul_assoc, ← Int.mul_assoc 4294967296 b1, Int.mul_comm 4294967296 b1, Int.mul_assoc b1, ← Int.mul_assoc]; rfl
    have z2 : (a1 * 4294967296) * b0 = a1 * b0 * 4294967296 := by rw [Int.mul_right_comm]
    have z3 : a0 * (b1 * 4294967296) = a0 * b1 * 4294967296 := by rw [Int.mul_assoc]
    rw [Int.add_mul, Int.mul_add, Int.mul_add, z1, z2, z3]
    omega
  generalize a1 * b1 = x11 at *
  generalize a1 * b0 = x10 at *
  generalize a0 * b1 = x01 at *
  generalize a0 * b0 = x00 at *
  rw [e]
  rw [u64in (n := x11) (by omega) (by omega), u64in (n := x10) (by omega) (by omega), u64in (n := x00) (by omega) (by omega), u64in (n := x01) (by omega) (by omega)]
  rw [u64in (n := x10 + x00 / 4294967296) (by omega) (by omega)]
  rw [mask32 (x := x10 + x00 / 4294967296) (by omega) (by omega)]
  rw [u64in (n := x11 + (x10 + x00 / 4294967296) / 4294967296) (by omega) (by omega)]
  rw [u64in (n := (x10 + x00 / 4294967296) % 4294967296 + x01) (by omega) (by omega)]
  rw [u64in (n := x11 + (x10 + x00 / 4294967296) / 4294967296 + ((x10 + x00 / 4294967296) % 4294967296 + x01) / 4294967296) (by omega) (by omega)]
  congr 1
  refine Prod.ext ?_ ?_
  · simp only; omega
  · simp only
    simp [IntKind.wrap, IntKind.bits, IntKind.signed]

theorem times_ev (a b : Int) : Ev (fun k => tally_Times.f k a b) (timesS a b) := by
  refine Ev.of (tally_Times.mono a b) (k := 1) ?_
  unfold tally_Times.f timesS
  rw [right_eq, right_eq]; simp only [Option.bind_some]
  by_cases h : ok a = true
  · by_cases q : ok b = true
    · have h1 := (ok_iff a).1 h
      have q1 := (ok_iff b).1 q
      rw [if_pos h, if_pos ⟨h, q⟩, q]
      simp only [tally_Times.j0, Bool.not_true]
      rw [if_neg (by decide), u64in h1.1 (by omega), u64in q1.1 (by omega), mul64_eq h1.1 q1.1 h1.2 q1.2]
      simp only [Option.bind_some]
      have hm := mul_le h1.1 q1.1 h1.2 q1.2
      by_cases c : a * b ≤ 1000000000000
      · have e : tell (a * b) = (a * b, 0) := by unfold tell; rw [if_pos ((ok_iff _).2 ⟨hm.1, c⟩)]
        rw [e, show a * b % 18446744073709551616 = a * b by omega, if_neg (by omega), if_neg (by omega), w64 (by omega) (by omega)]
      · have e : tell (a * b) = (0, 21) := by unfold tell; rw [if_neg (by rw [ok_iff]; omega)]
        rw [e]
        by_cases d : a * b / 18446744073709551616 > 0
        · rw [if_pos d]
        · rw [if_neg d, if_pos (by omega)]
    · rw [if_pos h, if_neg (fun z => q z.2)]
      rw [Bool.eq_false_iff.2 q]
      simp [tally_Times.j0]
  · rw [if_neg h, if_neg (fun z => h z.1)]
    simp [tally_Times.j0]

theorem sum_loop (l : List Int) (hl : l.length ≤ 9223372036854775806) (d : Nat) : ∀ (s i : Int), 0 ≤ i → i + d = l.length →
    Ev (fun k => tally_Sum.l0 k s l (l.length : Int) i) (sumS s (l.drop i.toNat)) := by
  induction d with
  | zero =>
    intro s i h0 h
    rw [List.drop_of_length_le (by omega)]
    refine Ev.step (f := fun _ => some (s, 0)) (fun k => ?_) (Ev.now _)
    simp only [tally_Sum.l0]
    rw [if_neg (by omega)]
  | succ d ih =>
    intro s i h0 h
    have hi : i.toNat < l.length := by omega
    rw [List.drop_eq_getElem_cons hi]
    have e1 : rd l i = l[i.toNat] := by unfold rd; rw [List.getD_eq_getElem?_getD, List.getElem?_eq_getElem hi]; rfl
    have e2 : wrap64 (i + 1) = i + 1 := w64 (by omega) (by omega)
    refine Ev.step (f := fun k => if (addS s l[i.toNat]).2 = 0 then tally_Sum.l0 k (addS s l[i.toNat]).1 l (l.length : Int) (i + 1) else some (0, (addS s l[i.toNat]).2)) (fun k => ?_) ?_
    · simp only [tally_Sum.l0]
      rw [if_pos (by omega), if_pos h0, if_pos (by omega), add_eq, e1, e2]; rfl
    · unfold sumS
      by_cases c : ok s = true ∧ ok l[i.toNat] = true ∧ ok (s + l[i.toNat]) = true
      · rw [if_pos c]
        have e3 : addS s l[i.toNat] = (s + l[i.toNat], 0) := by unfold addS tell; rw [if_pos ⟨c.1, c.2.1⟩, if_pos c.2.2]
        rw [e3]; simp only [if_true]
        have := ih (s + l[i.toNat]) (i + 1) (by omega) (by omega)
        rw [show (i + 1).toNat = i.toNat + 1 by omega] at this
        exact this
      · rw [if_neg c]
        have e3 : addS s l[i.toNat] = (0, 21) := by
          unfold addS tell
          by_cases c1 : ok s = true ∧ ok l[i.toNat] = true
          · rw [if_pos c1, if_neg (fun z => c ⟨c1.1, c1.2, z⟩)]
          · rw [if_neg c1]
        rw [e3]; simp only
        exact Ev.now _

theorem sum_ev (l : List Int) (hl : l.length ≤ 9223372036854775806) : Ev (fun k => tally_Sum.f k l) (sumS 0 l) := by
  have := sum_loop l hl l.length 0 0 (by omega) (by omega)
  exact this

theorem alive_ev : Ev (fun k => packhorselaw02_tallyAlive.f k) true := Ev.of packhorselaw02_tallyAlive.mono (k := 20) (by decide +kernel)

theorem ref_right (a : Int) : packhorseref02_Right.f a = some (ok a) := by
  unfold packhorseref02_Right.f ok
  by_cases h : 0 ≤ a
  · rw [if_pos h]; congr 1; rw [decide_eq_decide]; omega
  · rw [if_neg h]; congr 1; symm; rw [decide_eq_false_iff_not]; omega

end Go.Proofs.Ytafmpeibdbadaaa.Pure
