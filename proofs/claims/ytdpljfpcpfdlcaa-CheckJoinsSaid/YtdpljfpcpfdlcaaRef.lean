/- Layer 5 (check): the reference's functions, in plain words. -/
import Derived.Test.YtdpljfpcpfdlcaaLib
namespace Go.Proofs.Ytdpljfpcpfdlcaa.Pure
open Go.RowKit Go.Proofs.Ytdpljfpcpfdlcaa Go.Proofs.Ytdpljfpcpfdlcaa.PAll Go.Proofs.YtdpljfpcpfdlcaaW.PrintWords Go.Proofs.YtdpljfpcpfdlcaaW.PrintLast Go.Proofs.YtdpljfpcpfdlcaaW.PrintMore

theorem xor64_nat (a b : Nat) (ha : a < 18446744073709551616) (hb : b < 18446744073709551616) : Go.bits .xor .u64 (a : Int) (b : Int) = ((a ^^^ b : Nat) : Int) := by
  have ha' : a % 2 ^ 64 = a := Nat.mod_eq_of_lt ha
  have hb' : b % 2 ^ 64 = b := Nat.mod_eq_of_lt hb
  have hx : a ^^^ b < 2 ^ 64 := Nat.xor_lt_two_pow ha hb
  show IntKind.u64.wrap (((BitVec.ofInt 64 (a : Int) ^^^ BitVec.ofInt 64 (b : Int)).toNat : Nat) : Int) = _
  rw [BitVec.ofInt_natCast, BitVec.ofInt_natCast, BitVec.toNat_xor, BitVec.toNat_ofNat, BitVec.toNat_ofNat, ha', hb']
  have e : (2 : Nat) ^ 64 = 18446744073709551616 := by decide
  rw [e] at hx
  exact IntWalk.u64_in ((a ^^^ b : Nat) : Int) ⟨Int.natCast_nonneg _, by omega⟩
theorem w64u (n : Nat) (h : n < 18446744073709551616) : IntKind.u64.wrap (n : Int) = (n : Int) := IntWalk.u64_in _ ⟨Int.natCast_nonneg _, by omega⟩
theorem step_eq (n : Nat) (h : n < 4294967296) : packhorseref05_step.f (n : Int) = some ((Crc.st n : Nat) : Int) := by
  unfold packhorseref05_step.f Crc.st
  rw [show Int.tmod (n : Int) 2 = ((n % 2 : Nat) : Int) from rfl, show Int.tdiv (n : Int) 2 = ((n / 2 : Nat) : Int) from rfl, w64u _ (by omega)]
  by_cases c : n % 2 = 1
  · rw [if_pos (by omega), if_pos c]
    exact congrArg some (xor64_nat (n / 2) 2197175160 (by omega) (by decide))
  · rw [if_neg (by omega), if_neg c, Nat.xor_zero]
theorem not_xor (n : Nat) (h : n < 4294967296) : (IntKind.u64.wrap (4294967295 - (n : Int))) % 4294967296 = ((F ^^^ n : Nat) : Int) := by
  rw [show (4294967295 : Int) - (n : Int) = ((4294967295 - n : Nat) : Int) by omega, w64u _ (by omega), Int.emod_eq_of_lt (by omega) (by omega)]
  congr 1
  unfold F
  apply Nat.eq_of_testBit_eq
  intro i
  have e1 : 4294967295 - n = 2 ^ 32 - (n + 1) := by omega
  rw [Nat.testBit_xor, e1, Nat.testBit_two_pow_sub_succ h, show (4294967295 : Nat) = 2 ^ 32 - 1 from rfl, Nat.testBit_two_pow_sub_one]
  by_cases hi : i < 32
  · simp [hi]
  · have : n.testBit i = false := Nat.testBit_lt_two_pow (Nat.lt_of_lt_of_le h (Nat.pow_le_pow_right (show 0 < 2 by decide) (show 32 ≤ i by omega)))
    simp [hi, this]

theorem ref_inner (b : List Int) (x8 x9 : Int) (r : Int) (d : Nat) : ∀ (n : Nat), d ≤ 8 → n < 4294967296 →
    Ev (fun k => packhorseref05_Of.l0 k ((Crc.it d n : Nat) : Int) b x8 (wrap64 (x9 + 1))) r → Ev (fun k => packhorseref05_Of.l1 k (n : Int) (8 - (d : Int)) b x8 x9) r := by
  induction d with
  | zero =>
    intro n _ hn hr
    refine Ev.step (fun k => ?_) hr
    simp only [packhorseref05_Of.l1]
    rw [if_neg (by omega)]; rfl
  | succ d ih =>
    intro n hd hn hr
    refine Ev.step (f := fun k => packhorseref05_Of.l1 k ((Crc.st n : Nat) : Int) (8 - (d : Int)) b x8 x9) (fun k => ?_) (ih (Crc.st n) (by omega) (Crc.st_lt hn) hr)
    simp only [packhorseref05_Of.l1]
    rw [if_pos (by omega), step_eq n hn, show wrap64 (8 - ((d + 1 : Nat) : Int) + 1) = 8 - (d : Int) by unfold wrap64; omega]; rfl
theorem ref_outer (b : List Nat) (hb : Bs b) (hl : b.length ≤ 9223372036854775806) (d : Nat) : ∀ (i n : Nat), i + d = b.length → n < 4294967296 →
    Ev (fun k => packhorseref05_Of.l0 k (n : Int) (bts b) ((bts b).length : Int) i) ((F ^^^ Crc.eat (b.drop i) n : Nat) : Int) := by
  induction d with
  | zero =>
    intro i n h hn
    rw [List.drop_of_length_le (by omega)]
    refine Ev.step (f := fun _ => some ((F ^^^ n : Nat) : Int)) (fun k => ?_) (Ev.now _)
    simp only [packhorseref05_Of.l0]
    rw [if_neg (by rw [bts_length]; omega)]
    exact congrArg some (not_xor n hn)
  | succ d ih =>
    intro i n h hn
    have hi : i < b.length := by omega
    have hx : b[i] < 256 := hb _ (List.getElem_mem hi)
    have hm : n ^^^ b[i] < 4294967296 := Crc.byte_lt hn hx
    rw [List.drop_eq_getElem_cons hi, Crc.eat_cons]
    have := ih (i + 1) (Crc.it 8 (n ^^^ b[i])) (by omega) (Crc.it_lt 8 hm)
    refine Ev.step (f := fun k => packhorseref05_Of.l1 k ((n ^^^ b[i] : Nat) : Int) (8 - ((8 : Nat) : Int)) (bts b) ((bts b).length : Int) i) (fun k => ?_) ?_
    · simp only [packhorseref05_Of.l0]
      rw [if_pos (by rw [bts_length]; omega), if_pos (by omega), if_pos (by rw [bts_length]; omega), rd_bts b i hi, w64u _ (by omega), xor64_nat n b[i] (by omega) (by omega)]; rfl
    · refine ref_inner _ _ _ _ 8 _ (Nat.le_refl _) hm ?_
      rw [w64 (by omega) (by omega)]
      exact this
theorem ref_of (b : List Nat) (hb : Bs b) (hl : b.length ≤ 9223372036854775806) : Ev (fun k => packhorseref05_Of.f k (bts b)) ((ofS b : Nat) : Int) := by
  have := ref_outer b hb hl b.length 0 F (by omega) F_lt
  rw [List.drop_zero] at this
  exact this

theorem refon_loop (m : Nat) (hm : m ≤ 3000) (d : Nat) : ∀ n : Nat, d ≤ 8 * m → n < 4294967296 →
    Ev (fun k => packhorseref05_On.l0 k (m : Int) (n : Int) ((8 * m : Nat) - (d : Int))) ((Crc.it d n : Nat) : Int) := by
  induction d with
  | zero =>
    intro n _ hn
    refine Ev.step (f := fun _ => some (n : Int)) (fun k => ?_) (Ev.now _)
    simp only [packhorseref05_On.l0]
    rw [w64 (by omega) (by omega), if_neg (by omega), Int.emod_eq_of_lt (by omega) (by omega)]
  | succ d ih =>
    intro n hd hn
    refine Ev.step (f := fun k => packhorseref05_On.l0 k (m : Int) ((Crc.st n : Nat) : Int) ((8 * m : Nat) - (d : Int))) (fun k => ?_) (ih (Crc.st n) (by omega) (Crc.st_lt hn))
    simp only [packhorseref05_On.l0]
    rw [w64 (x := 8 * (m : Int)) (by omega) (by omega), if_pos (by omega), step_eq n hn, show wrap64 (((8 * m : Nat) : Int) - ((d + 1 : Nat) : Int) + 1) = ((8 * m : Nat) : Int) - (d : Int) by unfold wrap64; omega]; rfl
theorem ref_on (n m : Nat) (hn : n < 4294967296) (hm : m ≤ 3000) : Ev (fun k => packhorseref05_On.f k (n : Int) (m : Int)) ((Crc.it (8 * m) n : Nat) : Int) := by
  have := refon_loop m hm (8 * m) n (Nat.le_refl _) hn
  rw [show ((8 * m : Nat) : Int) - ((8 * m : Nat) : Int) = 0 by omega] at this
  have e : (fun k => packhorseref05_On.f k (n : Int) (m : Int)) = fun k => packhorseref05_On.l0 k (m : Int) (n : Int) 0 := by
    funext k; unfold packhorseref05_On.f; rw [w64u n (by omega)]
  rw [e]; exact this
theorem ofS_noughts (m : Nat) : ofS (List.replicate m 0) = F ^^^ Crc.it (8 * m) F := by unfold ofS; rw [Crc.eat_noughts]
end Go.Proofs.Ytdpljfpcpfdlcaa.Pure
