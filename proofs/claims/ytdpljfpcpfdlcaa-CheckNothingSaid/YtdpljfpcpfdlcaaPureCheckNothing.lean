/- Layer 5 (check), CheckNothing: for every input, noughts in two pieces are all of them; nothing ahead, or behind, changes nothing. No condition. -/
import Derived.Test.YtdpljfpcpfdlcaaLib
namespace Go.Proofs.Ytdpljfpcpfdlcaa.Pure
open Go.RowKit Go.Proofs.Ytdpljfpcpfdlcaa Go.Proofs.Ytdpljfpcpfdlcaa.PAll Go.Proofs.YtdpljfpcpfdlcaaW.PrintWords Go.Proofs.YtdpljfpcpfdlcaaW.PrintLast Go.Proofs.YtdpljfpcpfdlcaaW.PrintMore

theorem it_two (n m : Nat) : Crc.it (8 * m) (F ^^^ Crc.it (8 * n) F) ^^^ (F ^^^ Crc.it (8 * m) F) = F ^^^ Crc.it (8 * (n + m)) F := by
  generalize F = G
  rw [Crc.it_xor, ← Crc.it_add, show 8 * n + 8 * m = 8 * (n + m) by omega, Nat.xor_comm (Crc.it (8 * m) G), Nat.xor_assoc, ← Nat.xor_assoc (Crc.it (8 * m) G), Nat.xor_comm (Crc.it (8 * m) G) G, Nat.xor_assoc G, Nat.xor_self, Nat.xor_zero, Nat.xor_comm]
theorem l1 (q : Nat) : F ^^^ Crc.it (8 * q) F < 4294967296 := Nat.xor_lt_two_pow (n := 32) F_lt (Crc.it_lt _ F_lt)
theorem noughts_two (n m : Nat) (hm : m ≤ 9223372036854775807) : check_Join.f ((F ^^^ Crc.it (8 * n) F : Nat) : Int) ((F ^^^ Crc.it (8 * m) F : Nat) : Int) (m : Int) = some ((F ^^^ Crc.it (8 * (n + m)) F : Nat) : Int) := by
  rw [join_eq _ _ _ (l1 n) (l1 m) hm, it_two]
theorem join_zero (b : List Nat) (hb : Bs b) (lb : b.length ≤ 9223372036854775807) : check_Join.f 0 ((ofS b : Nat) : Int) ((b.length : Nat) : Int) = some ((ofS b : Nat) : Int) := by
  have := join_eq 0 (ofS b) b.length (by decide) (ofS_lt b hb) lb
  rw [Crc.it_zero, Nat.zero_xor] at this
  exact this

theorem nothing_j (n m : Nat) (b : List Nat) (hb : Bs b) (hn : n ≤ 1099511627776) (hm : m ≤ 1099511627776) (lb : b.length ≤ 1000) : Ev (fun k => packhorselaw05_CheckNothing.j0 k (n : Int) (m : Int) (bts b) false) true := by
  have o1 := ofS_of b hb (by omega)
  have o3 := ofS_of3 [] b [] (fun _ h => by simp at h) hb (fun _ h => by simp at h) (by simp only [List.length_nil]; omega) (by omega) (by simp only [List.length_nil]; omega)
  rw [List.nil_append, List.append_nil] at o3
  refine Ev.step (f := fun k => (check_Noughts.f (n : Int)).bind fun t154 => ((check_Noughts.f (m : Int)).bind fun t155 => ((check_Join.f t154 t155 (m : Int)).bind fun t156 => ((check_Noughts.f ((n + m : Nat) : Int)).bind fun t157 => (if t156 = t157 then ((check_Of.f k [bts [], bts b, bts []]).bind fun t161 => ((check_Of.f k [bts b]).bind fun t165 => (if t161 = t165 then ((check_Of.f k [bts b]).bind fun t169 => ((check_Join.f 0 t169 ((bts b).length : Int)).bind fun t170 => ((check_Of.f k [bts b]).bind fun t174 => (some (t170 == t174))))) else (some false)))) else (some false)))))) (fun k => ?_) ?_
  · rw [packhorselaw05_CheckNothing.j0, if_neg (by decide), w64 (by omega) (by omega), show ((n : Int) + (m : Int)) = ((n + m : Nat) : Int) by omega]; rfl
  · refine Ev.bindc (noughts_eq n (by omega)) (Ev.bindc (noughts_eq m (by omega)) (Ev.bindc (noughts_two n m (by omega)) (Ev.bindc (noughts_eq (n + m) (by omega)) (Ev.ifp rfl ?_))))
    refine Ev.bind o3 (Ev.bind o1 (Ev.ifp rfl (Ev.bind o1 ?_)))
    rw [bts_length]
    refine Ev.bindc (join_zero b hb (by omega)) (Ev.bind o1 ?_)
    rw [beq_self_eq_true]
    exact Ev.now _

theorem CheckNothing : packhorselaw05_CheckNothing.PureQ := by
  intro n m b _ _ hb
  obtain ⟨b, rfl, hb'⟩ := of_wf b hb.2
  refine Ev.rounds (g := fun k => packhorselaw05_CheckNothing.f k n m (bts b)) ?_
  have fin : Ev (fun k => packhorselaw05_CheckNothing.j0 k n m (bts b) true) true := Ev.of (packhorselaw05_CheckNothing.mono_l · _ _ _ _) (k := 1) (by simp [packhorselaw05_CheckNothing.j0])
  unfold packhorselaw05_CheckNothing.f packhorselaw05_checkAlive.f
  simp only [Option.bind_some, if_true, bts_length]
  by_cases h1 : n < 0
  · simp only [if_pos h1]; exact fin
  by_cases h2 : m < 0
  · simp only [if_neg h1, if_pos h2]; exact fin
  by_cases h3 : n > 1099511627776
  · simp only [if_neg h1, if_neg h2, if_pos h3]; exact fin
  by_cases h4 : m > 1099511627776
  · simp only [if_neg h1, if_neg h2, if_neg h3, if_pos h4]; exact fin
  simp only [if_neg h1, if_neg h2, if_neg h3, if_neg h4]
  by_cases h5 : (b.length : Int) > 1000
  · rw [decide_eq_true h5]; exact fin
  rw [decide_eq_false h5]
  obtain ⟨n, rfl⟩ := Int.eq_ofNat_of_zero_le (show 0 ≤ n by omega)
  obtain ⟨m, rfl⟩ := Int.eq_ofNat_of_zero_le (show 0 ≤ m by omega)
  exact nothing_j n m b hb' (by omega) (by omega) (by omega)
end Go.Proofs.Ytdpljfpcpfdlcaa.Pure
