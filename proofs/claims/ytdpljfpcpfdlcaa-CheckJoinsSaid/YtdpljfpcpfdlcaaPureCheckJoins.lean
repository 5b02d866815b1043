/- Layer 5 (check), CheckJoins: for every two numbers and every length, joining is so many bytes of nought behind the one, and the other upon it; noughts are as the reference tells. No condition. -/
import Derived.Test.YtdpljfpcpfdlcaaRef
namespace Go.Proofs.Ytdpljfpcpfdlcaa.Pure
open Go.RowKit Go.Proofs.Ytdpljfpcpfdlcaa Go.Proofs.Ytdpljfpcpfdlcaa.PAll Go.Proofs.YtdpljfpcpfdlcaaW.PrintWords Go.Proofs.YtdpljfpcpfdlcaaW.PrintLast Go.Proofs.YtdpljfpcpfdlcaaW.PrintMore

theorem on_int (n : Nat) (b : Int) (hn : n < 4294967296) (hb : b ≤ 9223372036854775807) : check_on.f (n : Int) b = some ((Crc.it (8 * b.toNat) n : Nat) : Int) := by
  unfold check_on.f onS
  rw [if_pos (by omega), Int.toNat_natCast]
theorem join_int (a b : Nat) (c : Int) (ha : a < 4294967296) (hb : b < 4294967296) (hc : c ≤ 9223372036854775807) : check_Join.f (a : Int) (b : Int) c = some ((Crc.it (8 * c.toNat) a ^^^ b : Nat) : Int) := by
  unfold check_Join.f
  rw [on_int a c ha hc, Option.bind_some, xor_nat _ _ (Crc.it_lt _ ha) hb]
theorem noughts_int (c : Int) (hc : c ≤ 9223372036854775807) : check_Noughts.f c = some ((F ^^^ Crc.it (8 * c.toNat) F : Nat) : Int) := by
  unfold check_Noughts.f
  rw [show (4294967295 : Int) = ((F : Nat) : Int) from rfl, on_int F c F_lt hc, Option.bind_some, xor_nat F _ F_lt (Crc.it_lt _ F_lt)]
theorem mx_zero (c : Int) : mx c 0 = ((c.toNat : Nat) : Int) := by unfold mx; split <;> omega
theorem join_nought (a : Nat) (c : Int) (ha : a < 4294967296) (hc : c ≤ 9223372036854775807) : check_Join.f (a : Int) 0 c = some ((Crc.it (8 * c.toNat) a : Nat) : Int) := by
  have := join_int a 0 c ha (by decide) hc
  rw [Nat.xor_zero] at this
  exact this

theorem far_ev (a b : Nat) (c : Int) (ha : a < 4294967296) (hb : b < 4294967296) (hc : c ≤ 9223372036854775807) : Ev (fun _ : Nat => (check_Join.f (a : Int) (b : Int) c).bind fun t131 => ((check_Join.f (a : Int) 0 c).bind fun t132 => (some (t131 == (Go.bits .xor .u32 t132 (b : Int)))))) true := by
  refine Ev.bindc (join_int a b c ha hb hc) (Ev.bindc (join_nought a c ha hc) ?_)
  rw [xor_nat _ _ (Crc.it_lt _ ha) hb, beq_self_eq_true]
  exact Ev.now _
theorem bts_noughts (n : Nat) : List.replicate n (0 : Int) = bts (List.replicate n 0) := by unfold bts; rw [List.map_replicate]; rfl
theorem Bs_noughts (n : Nat) : Bs (List.replicate n 0) := fun x hx => by rw [(List.mem_replicate.1 hx).2]; decide
theorem near_ev (a b n : Nat) (c : Int) (hcn : c.toNat = n) (ha : a < 4294967296) (hb : b < 4294967296) (hc : c ≤ 3000) : Ev (fun k : Nat => (check_Join.f (a : Int) (b : Int) c).bind fun t133 => ((packhorseref05_On.f k (a : Int) (n : Int)).bind fun t134 => (if t133 = (Go.bits .xor .u32 t134 (b : Int)) then ((check_Noughts.f c).bind fun t135 => (if 0 ≤ (n : Int) then (if ((n : Nat) : Int).toNat ≤ 281474976710656 then ((packhorseref05_Of.f k (List.replicate ((n : Nat) : Int).toNat 0)).bind fun t139 => (some (t135 == t139))) else (none)) else (none))) else (some false)))) true := by
  have hn : n ≤ 3000 := by omega
  refine Ev.bindc (join_int a b c ha hb (by omega)) (Ev.bind (ref_on a n ha hn) ?_)
  rw [hcn, xor_nat _ _ (Crc.it_lt _ ha) hb]
  refine Ev.ifp rfl (Ev.bindc (noughts_int c (by omega)) (Ev.ifp (by omega) (Ev.ifp (by omega) ?_)))
  rw [Int.toNat_natCast, bts_noughts, hcn]
  refine Ev.bind (ref_of _ (Bs_noughts n) (by rw [List.length_replicate]; omega)) ?_
  rw [ofS_noughts, beq_self_eq_true]
  exact Ev.now _

theorem CheckJoins : packhorselaw05_CheckJoins.PureQ := by
  intro a b c ha hb hc
  simp [Lit.wf, IntKind.min, IntKind.max, IntKind.signed, IntKind.bits] at ha hb hc
  obtain ⟨a, rfl⟩ := Int.eq_ofNat_of_zero_le (show 0 ≤ a by omega)
  obtain ⟨b, rfl⟩ := Int.eq_ofNat_of_zero_le (show 0 ≤ b by omega)
  refine Ev.rounds (g := fun k => packhorselaw05_CheckJoins.f k a b c) ?_
  unfold packhorselaw05_CheckJoins.f packhorselaw05_checkAlive.f
  refine Ev.bindc rfl (Ev.ifp rfl ?_)
  by_cases h : c > 3000
  · exact Ev.ifp h (far_ev a b c (by omega) (by omega) (by omega))
  · refine Ev.ifn h ?_
    rw [mx_zero]
    exact near_ev a b _ c rfl (by omega) (by omega) (by omega)
end Go.Proofs.Ytdpljfpcpfdlcaa.Pure
