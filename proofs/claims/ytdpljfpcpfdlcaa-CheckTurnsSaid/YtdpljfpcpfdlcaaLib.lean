/- Layer 5 (check): what the program's and the reference's functions answer, in plain words. -/
import Derived.Test.YtdpljfpcpfdlcaaOps
namespace Go.Proofs.Ytdpljfpcpfdlcaa.Pure
open Go.RowKit Go.Proofs.Ytdpljfpcpfdlcaa Go.Proofs.Ytdpljfpcpfdlcaa.PAll Go.Proofs.YtdpljfpcpfdlcaaW.PrintWords Go.Proofs.YtdpljfpcpfdlcaaW.PrintLast Go.Proofs.YtdpljfpcpfdlcaaW.PrintMore

theorem w64 {x : Int} (h0 : -9223372036854775808 ≤ x) (h1 : x ≤ 9223372036854775807) : wrap64 x = x := by
  unfold wrap64; omega
theorem Ev.bindc {α β : Type} {o : Option α} {f : Nat → α → Option β} {a : α} {r : β} (h : o = some a) (k : Ev (fun n => f n a) r) : Ev (fun n => o.bind (f n)) r := by
  subst h; exact k
theorem Ev.ifp {α : Type} {c : Prop} [Decidable c] {f g : Nat → Option α} {r : α} (h : c) (k : Ev f r) : Ev (fun n => if c then f n else g n) r := by
  have e : (fun n => if c then f n else g n) = f := funext fun n => if_pos h
  rw [e]; exact k
theorem Ev.ifn {α : Type} {c : Prop} [Decidable c] {f g : Nat → Option α} {r : α} (h : ¬c) (k : Ev g r) : Ev (fun n => if c then f n else g n) r := by
  have e : (fun n => if c then f n else g n) = g := funext fun n => if_neg h
  rw [e]; exact k
/-- All ones. -/
def F : Nat := 4294967295
theorem F_lt : F < 4294967296 := by decide
/-- Bytes, as the program holds them. -/
def bts (l : List Nat) : List Int := l.map (fun x : Nat => (x : Int))
def Bs (l : List Nat) : Prop := ∀ x ∈ l, x < 256
theorem bts_length (l : List Nat) : (bts l).length = l.length := by simp [bts]
theorem of_wf (l : List Int) (h : ∀ x ∈ l, (Lit.int .u8 x).wf = true) : ∃ b, l = bts b ∧ Bs b := by
  refine ⟨l.map Int.toNat, ?_, ?_⟩
  · unfold bts
    rw [List.map_map]
    conv => lhs; rw [← List.map_id l]
    refine List.map_congr_left fun x hx => ?_
    have := h x hx
    simp [Lit.wf, IntKind.min, IntKind.max, IntKind.signed, IntKind.bits] at this
    simp only [id, Function.comp]; omega
  · intro x hx
    obtain ⟨y, hy, rfl⟩ := List.mem_map.1 hx
    have := h y hy
    simp [Lit.wf, IntKind.min, IntKind.max, IntKind.signed, IntKind.bits] at this
    omega
theorem rd_bts (l : List Nat) (i : Nat) (hi : i < l.length) : rd (bts l) (i : Int) = (l[i] : Int) := by
  unfold rd bts
  rw [List.getD_eq_getElem?_getD, Int.toNat_natCast, List.getElem?_map, List.getElem?_eq_getElem hi]; rfl

/-- What the number of bytes is. -/
def ofS (l : List Nat) : Nat := F ^^^ Crc.eat l F
theorem ofS_lt (l : List Nat) (h : Bs l) : ofS l < 4294967296 := Nat.xor_lt_two_pow (n := 32) F_lt (Crc.eat_lt l h F_lt)

theorem of_inner (x8 : List (List Int)) (x9 x10 : Int) (b : List Nat) (hb : Bs b) (hl : b.length ≤ 9223372036854775806) (r : Int) (d : Nat) : ∀ (i n : Nat), i + d = b.length → n < 4294967296 →
    Ev (fun k => check_Of.l0 k ((Crc.eat (b.drop i) n : Nat) : Int) x8 x9 (wrap64 (x10 + 1))) r → Ev (fun k => check_Of.l1 k (n : Int) x8 x9 x10 (bts b) ((bts b).length : Int) i) r := by
  induction d with
  | zero =>
    intro i n h hn hr
    rw [List.drop_of_length_le (by omega)] at hr
    refine Ev.step (fun k => ?_) hr
    simp only [check_Of.l1]
    rw [if_neg (by rw [bts_length]; omega)]; rfl
  | succ d ih =>
    intro i n h hn hr
    have hi : i < b.length := by omega
    have hx : b[i] < 256 := hb _ (List.getElem_mem hi)
    rw [List.drop_eq_getElem_cons hi, Crc.eat_cons] at hr
    have hm : n ^^^ b[i] < 4294967296 := Crc.byte_lt hn hx
    have := ih (i + 1) (Crc.it 8 (n ^^^ b[i])) (by omega) (Crc.it_lt 8 hm) hr
    refine Ev.step (f := fun k => (check_halves.f k ((n ^^^ b[i] : Nat) : Int) 8).bind fun t => check_Of.l1 k t x8 x9 x10 (bts b) ((bts b).length : Int) ((i + 1 : Nat) : Int)) (fun k => ?_) ?_
    · simp only [check_Of.l1]
      rw [if_pos (by rw [bts_length]; omega), if_pos (by omega), if_pos (by rw [bts_length]; omega), rd_bts b i hi, w64 (by omega) (by omega), show ((b[i] : Nat) : Int) % 4294967296 = ((b[i] : Nat) : Int) by omega, xor_nat n b[i] hn (by omega)]
      rfl
    · refine Ev.bind (Ev.of (check_halves.mono _ _) (halves_eq _ hm)) ?_
      exact this

theorem of_outer (L : List (List Nat)) (hL : ∀ b ∈ L, Bs b ∧ b.length ≤ 9223372036854775806) (hl : L.length ≤ 9223372036854775806) (d : Nat) : ∀ (i n : Nat), i + d = L.length → n < 4294967296 →
    Ev (fun k => check_Of.l0 k (n : Int) (L.map bts) ((L.map bts).length : Int) i) ((F ^^^ Crc.eat (L.drop i).flatten n : Nat) : Int) := by
  induction d with
  | zero =>
    intro i n h hn
    rw [List.drop_of_length_le (by omega)]
    refine Ev.step (f := fun _ => some ((F ^^^ n : Nat) : Int)) (fun k => ?_) (Ev.now _)
    simp only [check_Of.l0]
    rw [if_neg (by rw [List.length_map]; omega)]
    exact congrArg some (xor_nat F n F_lt hn)
  | succ d ih =>
    intro i n h hn
    have hi : i < L.length := by omega
    obtain ⟨hb, hbl⟩ := hL _ (List.getElem_mem hi)
    have hrd : rd_L1 (L.map bts) (i : Int) = bts L[i] := by
      unfold rd_L1
      rw [List.getD_eq_getElem?_getD, Int.toNat_natCast, List.getElem?_map, List.getElem?_eq_getElem hi]; rfl
    rw [List.drop_eq_getElem_cons hi, List.flatten_cons, Crc.eat_append]
    have := ih (i + 1) (Crc.eat L[i] n) (by omega) (Crc.eat_lt _ hb hn)
    refine Ev.step (f := fun k => check_Of.l1 k (n : Int) (L.map bts) ((L.map bts).length : Int) i (bts L[i]) ((bts L[i]).length : Int) 0) (fun k => ?_) ?_
    · simp only [check_Of.l0]
      rw [if_pos (by rw [List.length_map]; omega), if_pos (by omega), if_pos (by rw [List.length_map]; omega), hrd]
    · refine of_inner _ _ _ L[i] hb hbl _ L[i].length 0 n (by omega) hn ?_
      rw [w64 (by omega) (by omega), List.drop_zero]
      exact this

theorem of_ev (L : List (List Nat)) (hL : ∀ b ∈ L, Bs b ∧ b.length ≤ 9223372036854775806) (hl : L.length ≤ 9223372036854775806) : Ev (fun k => check_Of.f k (L.map bts)) ((ofS L.flatten : Nat) : Int) := by
  have := of_outer L hL hl L.length 0 F (by omega) F_lt
  rw [List.drop_zero] at this
  exact this

theorem on_eq (n b : Nat) (hn : n < 4294967296) (hb : b ≤ 9223372036854775807) : check_on.f (n : Int) (b : Int) = some ((Crc.it (8 * b) n : Nat) : Int) := by
  unfold check_on.f onS
  rw [if_pos (by omega), Int.toNat_natCast, Int.toNat_natCast]
theorem join_eq (a b c : Nat) (ha : a < 4294967296) (hb : b < 4294967296) (hc : c ≤ 9223372036854775807) : check_Join.f (a : Int) (b : Int) (c : Int) = some ((Crc.it (8 * c) a ^^^ b : Nat) : Int) := by
  unfold check_Join.f
  rw [on_eq a c ha hc]; simp only [Option.bind_some]
  rw [xor_nat _ _ (Crc.it_lt _ ha) hb]
theorem noughts_eq (n : Nat) (hn : n ≤ 9223372036854775807) : check_Noughts.f (n : Int) = some ((F ^^^ Crc.it (8 * n) F : Nat) : Int) := by
  unfold check_Noughts.f
  rw [show (4294967295 : Int) = ((F : Nat) : Int) from rfl, on_eq F n F_lt hn]; simp only [Option.bind_some]
  rw [xor_nat F _ F_lt (Crc.it_lt _ F_lt)]
theorem join_of (A : Nat) (b : List Nat) : Crc.it (8 * b.length) (F ^^^ A) ^^^ (F ^^^ Crc.eat b F) = F ^^^ Crc.eat b A := by
  have h := Crc.eat_xor b F (F ^^^ A)
  rw [← Nat.xor_assoc, Nat.xor_self, Nat.zero_xor] at h
  rw [h, Nat.xor_comm, Nat.xor_assoc]
theorem it_ofS_lt {b : List Nat} (n : Nat) (h : n < 4294967296) (hb : Bs b) : F ^^^ Crc.eat b n < 4294967296 := Nat.xor_lt_two_pow (n := 32) F_lt (Crc.eat_lt b hb h)
theorem Bs_append {a b : List Nat} (ha : Bs a) (hb : Bs b) : Bs (a ++ b) := fun x hx => (List.mem_append.1 hx).elim (ha x) (hb x)
theorem ofS_of (l : List Nat) (hl : Bs l) (hn : l.length ≤ 9223372036854775806) : Ev (fun k => check_Of.f k [bts l]) ((ofS l : Nat) : Int) := by
  have := of_ev [l] (fun x hx => by rw [List.mem_singleton.1 hx]; exact ⟨hl, hn⟩) (by simp only [List.length_cons, List.length_nil]; omega)
  rw [List.flatten_cons, List.flatten_nil, List.append_nil] at this
  exact this
theorem ofS_of3 (a b c : List Nat) (ha : Bs a) (hb : Bs b) (hc : Bs c) (la : a.length ≤ 9223372036854775806) (lb : b.length ≤ 9223372036854775806) (lc : c.length ≤ 9223372036854775806) : Ev (fun k => check_Of.f k [bts a, bts b, bts c]) ((ofS (a ++ (b ++ c)) : Nat) : Int) := by
  have := of_ev [a, b, c] (fun x hx => by
    simp only [List.mem_cons, List.not_mem_nil, or_false] at hx
    rcases hx with rfl | rfl | rfl
    · exact ⟨ha, la⟩
    · exact ⟨hb, lb⟩
    · exact ⟨hc, lc⟩) (by simp only [List.length_cons, List.length_nil]; omega)
  rw [List.flatten_cons, List.flatten_cons, List.flatten_cons, List.flatten_nil, List.append_nil] at this
  exact this
theorem join_ofS (a b : List Nat) (ha : Bs a) (hb : Bs b) (lb : b.length ≤ 9223372036854775807) : check_Join.f ((ofS a : Nat) : Int) ((ofS b : Nat) : Int) ((b.length : Nat) : Int) = some ((ofS (a ++ b) : Nat) : Int) := by
  unfold ofS
  rw [join_eq _ _ _ (it_ofS_lt F F_lt ha) (it_ofS_lt F F_lt hb) lb, join_of, Crc.eat_append]
end Go.Proofs.Ytdpljfpcpfdlcaa.Pure
