/- Layer 5 (check), CheckTurns: with one byte turned, or with two neighbours that change places, it is another number. No condition. -/
import Derived.Test.YtdpljfpcpfdlcaaLib
namespace Go.Proofs.Ytdpljfpcpfdlcaa.Pure
open Go.RowKit Go.Proofs.Ytdpljfpcpfdlcaa Go.Proofs.Ytdpljfpcpfdlcaa.PAll Go.Proofs.YtdpljfpcpfdlcaaW.PrintWords Go.Proofs.YtdpljfpcpfdlcaaW.PrintLast Go.Proofs.YtdpljfpcpfdlcaaW.PrintMore

theorem xor_u8 (a b : Nat) (ha : a < 256) (hb : b < 256) : Go.bits .xor .u8 (a : Int) (b : Int) = ((a ^^^ b : Nat) : Int) := by
  have ha' : a % 2 ^ 8 = a := Nat.mod_eq_of_lt ha
  have hb' : b % 2 ^ 8 = b := Nat.mod_eq_of_lt hb
  have hx : a ^^^ b < 2 ^ 8 := Nat.xor_lt_two_pow (n := 8) ha hb
  show IntKind.u8.wrap (((BitVec.ofInt 8 (a : Int) ^^^ BitVec.ofInt 8 (b : Int)).toNat : Nat) : Int) = _
  rw [BitVec.ofInt_natCast, BitVec.ofInt_natCast, BitVec.toNat_xor, BitVec.toNat_ofNat, BitVec.toNat_ofNat, ha', hb']
  have e : (2 : Nat) ^ 8 = 256 := by decide
  rw [e] at hx
  generalize a ^^^ b = z at *
  show ((z : Int) % 256) = _
  omega
theorem bts_set (l : List Nat) (i x : Nat) : (bts l).set i (x : Int) = bts (l.set i x) := by
  unfold bts; rw [List.map_set]
theorem wf_u8 (x : Int) (h : (Lit.int .u8 x).wf = true) : 0 ≤ x ∧ x < 256 := by
  simp [Lit.wf, IntKind.min, IntKind.max, IntKind.signed, IntKind.bits] at h
  omega
theorem wf64 {x : Int} (h : (Lit.int .i64 x).wf = true) : -9223372036854775808 ≤ x ∧ x ≤ 9223372036854775807 := by
  simp [Lit.wf, IntKind.min, IntKind.max, IntKind.signed, IntKind.bits] at h
  omega
theorem Bs_take {l : List Nat} (h : Bs l) (n : Nat) : Bs (l.take n) := fun x hx => h x (List.mem_of_mem_take hx)
theorem Bs_drop {l : List Nat} (h : Bs l) (n : Nat) : Bs (l.drop n) := fun x hx => h x (List.mem_of_mem_drop hx)
theorem ofS_ne {a b : List Nat} (h : Crc.eat a F ≠ Crc.eat b F) : ofS a ≠ ofS b := by
  intro e
  apply h
  unfold ofS at e
  have e3 : F ^^^ (F ^^^ Crc.eat a F) = F ^^^ (F ^^^ Crc.eat b F) := by rw [e]
  rw [← Nat.xor_assoc, ← Nat.xor_assoc, Nat.xor_self, Nat.zero_xor, Nat.zero_xor] at e3
  exact e3
theorem set_split (l : List Nat) (i x : Nat) (h : i < l.length) : l.set i x = l.take i ++ x :: l.drop (i + 1) := by
  rw [List.set_eq_take_append_cons_drop, if_pos h]
theorem self_split (l : List Nat) (i : Nat) (h : i < l.length) : l = l.take i ++ l[i] :: l.drop (i + 1) := by
  rw [← List.drop_eq_getElem_cons h, List.take_append_drop]
theorem Bs_set {l : List Nat} (h : Bs l) (i x : Nat) (hx : x < 256) : Bs (l.set i x) := by
  intro y hy
  rcases List.mem_or_eq_of_mem_set hy with q | q
  · exact h y q
  · rw [q]; exact hx
theorem turned_ne (l : List Nat) (hl : Bs l) (i d : Nat) (h : i < l.length) (hd : d < 256) (h0 : d ≠ 0) : ofS (l.set i (l[i] ^^^ d)) ≠ ofS l := by
  have hx : l[i] < 256 := hl _ (List.getElem_mem h)
  have hy : l[i] ^^^ d < 256 := Nat.xor_lt_two_pow (n := 8) hx hd
  refine ofS_ne ?_
  conv => rhs; rw [self_split l i h]
  rw [set_split l i _ h]
  refine Crc.eat_other _ _ _ _ _ (Bs_take hl i) (Bs_drop hl (i + 1)) hy hx F_lt ?_
  intro e
  apply h0
  have e3 : l[i] ^^^ (l[i] ^^^ d) = l[i] ^^^ l[i] := by rw [e]
  rw [← Nat.xor_assoc, Nat.xor_self, Nat.zero_xor] at e3
  exact e3
theorem swap_split (l : List Nat) (i : Nat) (h : i + 1 < l.length) (x y : Nat) : (l.set i y).set (i + 1) x = l.take i ++ y :: x :: l.drop (i + 2) := by
  rw [set_split (l.set i y) (i + 1) x (by rw [List.length_set]; exact h), set_split l i y (by omega)]
  have e1 : (List.take i l).length = i := by rw [List.length_take]; omega
  rw [List.take_append, List.drop_append, e1, show i + 1 - i = 1 by omega, show i + 1 + 1 - i = 2 by omega, List.take_of_length_le (by omega), List.drop_of_length_le (l := List.take i l) (by omega)]
  simp only [List.take_succ_cons, List.take_zero, List.drop_succ_cons, List.drop_drop, List.append_assoc, List.cons_append, List.nil_append]
theorem self_split2 (l : List Nat) (i : Nat) (h : i + 1 < l.length) : l = l.take i ++ l[i] :: l[i + 1] :: l.drop (i + 2) := by
  conv => lhs; rw [self_split l i (by omega)]
  rw [List.drop_eq_getElem_cons h]
theorem swapped_ne (l : List Nat) (hl : Bs l) (i : Nat) (h : i + 1 < l.length) (hne : l[i] ≠ l[i + 1]) : ofS ((l.set i l[i + 1]).set (i + 1) l[i]) ≠ ofS l := by
  refine ofS_ne ?_
  conv => rhs; rw [self_split2 l i h]
  rw [swap_split l i h]
  exact Crc.eat_swap _ _ _ _ _ (Bs_take hl i) (Bs_drop hl (i + 2)) (hl _ (List.getElem_mem _)) (hl _ (List.getElem_mem _)) F_lt hne

theorem turns_j1 (l : List Nat) (hl : Bs l) (i : Nat) (h : i + 1 < l.length) (ln : l.length ≤ 1000) (b : Bool) (hb : b = false → l[i] ≠ l[i + 1]) :
    Ev (fun k => packhorselaw05_CheckTurns.j1 k (bts l) (i : Int) b) true := by
  cases b with
  | true => exact Ev.step (f := fun _ => some true) (fun k => by rw [packhorselaw05_CheckTurns.j1, if_pos rfl]) (Ev.now _)
  | false =>
    have hne := hb rfl
    have hx : l[i] < 256 := hl _ (List.getElem_mem _)
    have hy : l[i + 1] < 256 := hl _ (List.getElem_mem _)
    have hw : wrap64 ((i : Int) + 1) = ((i + 1 : Nat) : Int) := by rw [w64 (by omega) (by omega)]; rfl
    have hB := Bs_set (Bs_set hl i _ hy) (i + 1) _ hx
    refine Ev.step (f := fun k => (check_Of.f k [bts ((l.set i l[i + 1]).set (i + 1) l[i])]).bind fun t164 => ((check_Of.f k [bts l]).bind fun t168 => (some (t164 != t168)))) (fun k => ?_) ?_
    · rw [packhorselaw05_CheckTurns.j1, if_neg (by decide), Option.bind_some, List.nil_append, if_pos (by rw [List.length_nil, bts_length]; omega), Option.bind_some, hw, if_pos (by omega), if_pos (by rw [bts_length]; omega), if_pos (by omega), if_pos (by rw [bts_length]; omega), rd_bts l (i + 1) h, rd_bts l i (by omega), Int.toNat_natCast, Int.toNat_natCast, bts_set, bts_set]
    · refine Ev.bind (ofS_of _ hB (by rw [List.length_set, List.length_set]; omega)) (Ev.bind (ofS_of l hl (by omega)) ?_)
      have := swapped_ne l hl i h hne
      have e : (((ofS ((l.set i l[i + 1]).set (i + 1) l[i]) : Nat) : Int) != ((ofS l : Nat) : Int)) = true := bne_iff_ne.2 (fun q => this (Int.ofNat_inj.1 q))
      rw [e]
      exact Ev.now _
theorem turns_j0 (l : List Nat) (hl : Bs l) (i d : Nat) (h : i < l.length) (ln : l.length ≤ 1000) (hd : d < 256) (h0 : d ≠ 0) :
    Ev (fun k => packhorselaw05_CheckTurns.j0 k (bts l) (i : Int) (d : Int) false) true := by
  have hx : l[i] < 256 := hl _ (List.getElem_mem _)
  have hy : l[i] ^^^ d < 256 := Nat.xor_lt_two_pow (n := 8) hx hd
  have hw : wrap64 ((i : Int) + 1) = ((i + 1 : Nat) : Int) := by rw [w64 (by omega) (by omega)]; rfl
  have hB := Bs_set hl i _ hy
  refine Ev.step (f := fun k => (check_Of.f k [bts (l.set i (l[i] ^^^ d))]).bind fun t144 => ((check_Of.f k [bts l]).bind fun t148 => (if t144 = t148 then (some false) else (if (wrap64 ((i : Int) + 1)) ≥ ((bts l).length : Int) then (packhorselaw05_CheckTurns.j1 k (bts l) i true) else (if (i : Int) < ((bts l).length : Int) then (if 0 ≤ (wrap64 ((i : Int) + 1)) then (if (wrap64 ((i : Int) + 1)) < ((bts l).length : Int) then (packhorselaw05_CheckTurns.j1 k (bts l) i ((rd (bts l) i) == (rd (bts l) (wrap64 ((i : Int) + 1))))) else (none)) else (none)) else (none)))))) (fun k => ?_) ?_
  · rw [packhorselaw05_CheckTurns.j0, if_neg (by decide), Option.bind_some, List.nil_append, if_pos (by rw [List.length_nil, bts_length]; omega), Option.bind_some, if_pos (by omega), if_pos (by rw [bts_length]; omega), rd_bts l i h, xor_u8 _ _ hx hd, Int.toNat_natCast, bts_set]
  · refine Ev.bind (ofS_of _ hB (by rw [List.length_set]; omega)) (Ev.bind (ofS_of l hl (by omega)) ?_)
    have hne := turned_ne l hl i d h hd h0
    refine Ev.ifn (fun q => hne (Int.ofNat_inj.1 q)) ?_
    rw [hw]
    by_cases c : i + 1 < l.length
    · refine Ev.ifn (by rw [bts_length]; omega) (Ev.ifp (by rw [bts_length]; omega) (Ev.ifp (by omega) (Ev.ifp (by rw [bts_length]; omega) ?_)))
      rw [rd_bts l i h, rd_bts l (i + 1) c]
      refine turns_j1 l hl i c ln _ ?_
      intro q e
      rw [e, beq_self_eq_true] at q
      cases q
    · refine Ev.ifp (by rw [bts_length]; omega) ?_
      exact Ev.step (f := fun _ => some true) (fun k => by rw [packhorselaw05_CheckTurns.j1, if_pos rfl]) (Ev.now _)

theorem CheckTurns : packhorselaw05_CheckTurns.PureQ := by
  intro l at_ d hl hat hd
  obtain ⟨l, rfl, hB⟩ := of_wf l hl.2
  have hd2 := wf_u8 d hd
  refine Ev.rounds (g := fun k => packhorselaw05_CheckTurns.f k (bts l) at_ d) ?_
  have fin : Ev (fun k => packhorselaw05_CheckTurns.j0 k (bts l) at_ d true) true := Ev.step (f := fun _ => some true) (fun k => by rw [packhorselaw05_CheckTurns.j0, if_pos rfl]) (Ev.now _)
  unfold packhorselaw05_CheckTurns.f packhorselaw05_checkAlive.f
  simp only [Option.bind_some, if_true, bts_length]
  by_cases h1 : (l.length : Int) > 1000
  · simp only [if_pos h1]; exact fin
  by_cases h2 : at_ < 0
  · simp only [if_neg h1, if_pos h2]; exact fin
  simp only [if_neg h1, if_neg h2]
  by_cases h3 : at_ ≥ (l.length : Int)
  · simp only [if_pos h3]; exact fin
  simp only [if_neg h3]
  by_cases h4 : d = 0
  · subst h4; exact fin
  rw [show (d == 0) = false from beq_eq_false_iff_ne.2 h4]
  obtain ⟨i, rfl⟩ : ∃ i : Nat, at_ = i := ⟨at_.toNat, by omega⟩
  obtain ⟨e, rfl⟩ : ∃ e : Nat, d = e := ⟨d.toNat, by omega⟩
  exact turns_j0 l hB i e (by omega) (by omega) (by omega) (by omega)
end Go.Proofs.Ytdpljfpcpfdlcaa.Pure
