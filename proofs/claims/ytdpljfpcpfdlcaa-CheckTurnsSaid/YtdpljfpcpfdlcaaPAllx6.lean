-- Made by a program of this session (wip/gen)
import Derived.Test.YtdpljfpcpfdlcaaPAllx0
import Derived.Test.YtdpljfpcpfdlcaaPAllx1
namespace Go.Proofs.Ytdpljfpcpfdlcaa.PAll
open Go.RowKit Go.Proofs.YtdpljfpcpfdlcaaW.PrintWords Go.Proofs.YtdpljfpcpfdlcaaW.PrintLast Go.Proofs.YtdpljfpcpfdlcaaW.PrintMore
attribute [local go_sem] max2_int min2_int max_two min_two max_three min_three max_four min_four   -- for this text's walks alone
set_option linter.unusedVariables false
set_option linter.unusedSimpArgs false

/-! ### check_on: function 17 -/
/-- A square's cells. -/
def sq (w : World) (g : Nat) (s : Nat → Nat) : Prop := ∀ j, j < 32 → w.cell? ⟨g, j, none⟩ = some (.int .u32 (s j : Int))
theorem sq_below {w w1 : World} {g : Nat} {s : Nat → Nat} (h : sq w g s) (hb : Below w.heap.size w w1) : sq w1 g s := fun j hj => pw_cell_below hb (h j hj)
theorem sq_drew {w : World} {g : Nat} {s : Nat → Nat} (h : sq w g s) (n : Nat) : sq (w.drewN n) g s := h
theorem and_one (m : Nat) (h : m < 4294967296) : Go.bits .and .u32 (m : Int) 1 = ((m % 2 : Nat) : Int) := by
  have hk : ∀ n : Int, 0 ≤ n → n < 2 ^ 32 → IntKind.u32.wrap n = n := by
    intro n a b
    have e : (2 : Int) ^ 32 = 4294967296 := by decide
    rw [e] at b
    exact IntWalk.u32_in n (by omega)
  have := (bits_nat .u32 32 (by decide) hk m 1 h (by decide)).1
  rw [Nat.and_one_is_mod] at this
  exact this
theorem xor_nat (a b : Nat) (ha : a < 4294967296) (hb : b < 4294967296) : Go.bits .xor .u32 (a : Int) (b : Int) = ((a ^^^ b : Nat) : Int) := by
  have ha' : a % 2 ^ 32 = a := Nat.mod_eq_of_lt ha
  have hb' : b % 2 ^ 32 = b := Nat.mod_eq_of_lt hb
  have hx : a ^^^ b < 2 ^ 32 := Nat.xor_lt_two_pow ha hb
  show IntKind.u32.wrap (((BitVec.ofInt 32 (a : Int) ^^^ BitVec.ofInt 32 (b : Int)).toNat : Nat) : Int) = _
  rw [BitVec.ofInt_natCast, BitVec.ofInt_natCast, BitVec.toNat_xor, BitVec.toNat_ofNat, BitVec.toNat_ofNat, ha', hb']
  have e : (2 : Nat) ^ 32 = 4294967296 := by decide
  rw [e] at hx
  exact IntWalk.u32_in ((a ^^^ b : Nat) : Int) ⟨Int.natCast_nonneg _, by omega⟩
theorem lin_lt (s : Nat → Nat) (hs : ∀ j, s j < 4294967296) (f : Nat) : ∀ i n, Crc.lin s f i n < 4294967296 := by
  induction f with
  | zero => intro i n; show (0 : Nat) < 4294967296; decide
  | succ f ih =>
    intro i n
    show (_ ^^^ _) < 2 ^ 32
    refine Nat.xor_lt_two_pow ?_ (ih _ _)
    split
    · exact hs i
    · decide
theorem lin_nought (s : Nat → Nat) (f : Nat) : ∀ i, Crc.lin s f i 0 = 0 := by
  induction f with
  | zero => intro i; rfl
  | succ f ih =>
    intro i
    show ((if 0 % 2 = 1 then s i else 0) ^^^ Crc.lin s f (i + 1) (0 / 2)) = 0
    rw [show (0 : Nat) / 2 = 0 from rfl, ih, if_neg (by decide)]; rfl

set_option maxHeartbeats 1000000 in
set_option maxRecDepth 100000 in
theorem times_calls (g : Nat) (s : Nat → Nat) (hs : ∀ j, s j < 4294967296) (n : Nat) (hn : n < 4294967296) (w : World) (h : sq w g s) :
    Calls Try.prog 18 #[.pointer (some ⟨g, 0, none⟩), .int .u32 n] w fun e w' => e = .returned (.int .u32 (Crc.lin s 32 0 n : Nat)) ∧ w = w' := by
  have HC := Go.Lib.hid h
  clear h
  go_enter Try.func18, Try.ntmps18
  go_wp2
  go_loop [1, 5, 6] (fun a b c => ∃ (m : Int) (acc k : Nat), a = .int .u32 m ∧ b = .int .u32 acc ∧ c = .int .i64 k ∧ 0 ≤ m ∧ k ≤ 32 ∧ acc < 4294967296 ∧ m.toNat < 2 ^ (32 - k) ∧ Hid (acc ^^^ Crc.lin s (32 - k) k m.toNat = Crc.lin s 32 0 n)) (fun a _ _ => (intOf a).toNat)
  case atStart => exact ⟨n, 0, 0, rfl, rfl, rfl, by omega, by omega, by decide, by rw [Int.toNat_natCast]; exact hn, Go.Lib.hid (by rw [Int.toNat_natCast]; exact Nat.zero_xor _)⟩
  case round =>
    obtain ⟨m, acc, k, rfl, rfl, rfl, hm0, hk, hacc, hm, HR⟩ := hrel
    have hm32 : m < 4294967296 := by
      have := Nat.lt_of_lt_of_le hm (Nat.pow_le_pow_right (n := 2) (by decide) (Nat.sub_le 32 k))
      have e : (2 : Nat) ^ 32 = 4294967296 := by decide
      omega
    by_cases h0 : 0 < m
    · have hk1 : k < 32 := by
        by_cases e : k = 32
        · subst e; simp at hm; omega
        · omega
      have hm2 : (m / 2).toNat < 2 ^ (32 - (k + 1)) := by
        have e : 32 - k = (32 - (k + 1)) + 1 := by omega
        rw [e, Nat.pow_succ] at hm
        omega
      have HM := Go.Lib.hid hm
      clear hm
      have e1 : Go.bits .and .u32 m 1 = m % 2 := by
        have := and_one m.toNat (by omega)
        rw [show ((m.toNat : Nat) : Int) = m by omega] at this
        rw [this]; omega
      have HM2 := Go.Lib.hid (show (m / 2).toNat = m.toNat / 2 by omega)
      have hd0 : 0 ≤ m / 2 := by omega
      by_cases ho : m % 2 = 1
      · rw [ho] at e1
        have hc := HC.out k hk1
        have hsk := hs k
        have HR2 : Hid ((acc ^^^ s k) ^^^ Crc.lin s (32 - (k + 1)) (k + 1) (m / 2).toNat = Crc.lin s 32 0 n) := Go.Lib.hid (by
          rw [← HR.out, show 32 - k = (32 - (k + 1)) + 1 by omega, HM2.out]
          show _ = acc ^^^ ((if m.toNat % 2 = 1 then s k else 0) ^^^ _)
          rw [if_pos (by omega), Nat.xor_assoc])
        have HX := Go.Lib.hid (xor_nat acc (s k) hacc hsk)
        have HXL : acc ^^^ s k < 4294967296 := Nat.xor_lt_two_pow (n := 32) hacc hsk
        clear HR ho
        go_wp2
        go_round
        case rel => exact ⟨m / 2, acc ^^^ s k, k + 1, rfl, by rw [HX.out], by go_num, hd0, by omega, HXL, hm2, HR2⟩
        case measure => simp [intOf]; omega
      · have ho' : m % 2 = 0 := by omega
        rw [ho'] at e1
        have HR2 : Hid (acc ^^^ Crc.lin s (32 - (k + 1)) (k + 1) (m / 2).toNat = Crc.lin s 32 0 n) := Go.Lib.hid (by
          rw [← HR.out, show 32 - k = (32 - (k + 1)) + 1 by omega, HM2.out]
          show _ = acc ^^^ ((if m.toNat % 2 = 1 then s k else 0) ^^^ _)
          rw [if_neg (by omega), Nat.zero_xor])
        clear HR ho ho'
        go_wp2
        go_round
        case rel => exact ⟨m / 2, acc, k + 1, rfl, rfl, by go_num, hd0, by omega, hacc, hm2, HR2⟩
        case measure => simp [intOf]; omega
    · have HR2 : Hid (acc = Crc.lin s 32 0 n) := Go.Lib.hid (by rw [← HR.out, show m.toNat = 0 by omega, lin_nought, Nat.xor_zero])
      clear HR hm hm32
      go_wp2
      go_ret
      exact ⟨congrArg (fun z : Nat => Ending.returned (.int .u32 (z : Int))) HR2.out, rfl⟩
/-- A square that is being made: its first cells. -/
def sqTo (w : World) (g : Nat) (s : Nat → Nat) (i : Nat) : Prop := ∃ cs : Array Value, w.heap[g]? = some (.cells cs 40 (0, 0)) ∧ cs.size = 32 ∧ ∀ j, j < i → cs[j]? = some (.int .u32 (s j : Int))
theorem sqTo_sq {w : World} {g : Nat} {s : Nat → Nat} (h : sqTo w g s 32) : sq w g s := by
  obtain ⟨cs, hb, _, hc⟩ := h
  intro j hj
  rw [blk_cell hb]
  exact hc j hj
theorem sqTo_drew {w : World} {g : Nat} {f : Nat → Nat} {k : Nat} (h : sqTo w g f k) (n : Nat) : sqTo (w.drewN n) g f k := h
theorem sqTo_put {w : World} {g : Nat} {f : Nat → Nat} {k : Nat} (h : sqTo w g f k) (hk : k < 32) : sqTo (w.setCell ⟨g, k, none⟩ (.int .u32 (f k : Int))) g f (k + 1) := by
  obtain ⟨cs, hb, hsz, hc⟩ := h
  refine ⟨cs.setIfInBounds k (.int .u32 (f k : Int)), blk_set hb k _, by simp [hsz], fun j hj => ?_⟩
  rw [Array.getElem?_setIfInBounds]
  by_cases e : k = j
  · subst e; simp [hsz, hk]
  · rw [if_neg e]; exact hc j (by omega)
set_option maxHeartbeats 1000000 in
set_option maxRecDepth 100000 in
theorem twice_calls (g : Nat) (s : Nat → Nat) (hs : ∀ j, s j < 4294967296) (w : World) (h : sq w g s) :
    Calls Try.prog 19 #[.pointer (some ⟨g, 0, none⟩)] w fun e w' => ∃ g', e = .returned (.pointer (some ⟨g', 0, none⟩)) ∧ sq w' g' (fun j => Crc.lin s 32 0 (s j)) ∧ Below w.heap.size w w' := by
  have HC := Go.Lib.hid h
  clear h
  have HB := Go.Lib.hid (Below.refl w.heap.size w)
  go_enter Try.func19, Try.ntmps19
  have hz : sqTo (w.alloc (.cells (Array.replicate 32 (.int .u32 0)) 40)) w.heap.size (fun j => Crc.lin s 32 0 (s j)) 0 := ⟨_, blk_new _ _, by simp, fun j hj => by omega⟩
  have HZ := Go.Lib.hid hz
  clear hz
  go_wp2
  go_loopw [4, 5, 7] (fun _ _ c wr => ∃ k : Nat, c = .int .i64 k ∧ k ≤ 32 ∧ Aside0 (sqTo wr w.heap.size (fun j => Crc.lin s 32 0 (s j)) k) ∧ Aside0 (Below w.heap.size w wr)) (fun _ _ c _ => 32 - (intOf c).toNat)
  case atStart => exact ⟨0, rfl, by omega, ⟨HZ.out⟩, ⟨below_alloc (Below.refl _ _) _⟩⟩
  case round =>
    obtain ⟨k, rfl, hk, HS, HBw⟩ := hrel
    by_cases hlt : k < 32
    · have hc := pw_cell_below HBw.out (HC.out k hlt)
      have HSQ := Aside0.mk (sq_below HC.out HBw.out)
      obtain ⟨cs, hb, hsz, hcs⟩ := HS.out
      obtain ⟨v0, hx⟩ : ∃ v0, wr.cell? ⟨w.heap.size, k, none⟩ = some v0 := ⟨_, (blk_cell hb k).trans (Array.getElem?_eq_getElem (by omega))⟩
      have hfz := blk_frozen hb k
      have HL := Go.Lib.hid (lin_lt s hs 32 0 (s k))
      clear hb hsz hcs
      go_wp2
      go_quiet (fail)
      go_wp2_with (go_at_call 18; refine (times_calls g s hs (s k) (hs k) _ (by exact HSQ.out)).mono ?_; rintro e w' ⟨rfl, rfl⟩)
      go_roundw
      case rel => exact ⟨k + 1, by go_num, by omega, ⟨sqTo_put HS.out hlt⟩, ⟨by exact below_set (pw_below_drewN HBw.out _) (Nat.le_refl _)⟩⟩
      case measure => simp [intOf]; omega
    · obtain rfl : k = 32 := by omega
      go_wp2
      go_ret
      exact ⟨w.heap.size, rfl, sqTo_sq HS.out, HBw.out⟩
theorem halve_one (m : Nat) (hm : m < 4294967296) : Go.bits .xor .u32 ((m : Int) / 2) (Go.bits .and .u32 2197175160 ((-(Go.bits .and .u32 (m : Int) 1)) % 4294967296)) = ((Crc.st m : Nat) : Int) := by
  rw [and_one m hm]
  have e : (m : Int) / 2 = ((m / 2 : Nat) : Int) := by omega
  rw [e]
  unfold Crc.st
  by_cases h : m % 2 = 1
  · rw [h, if_pos rfl, show Go.bits .and .u32 2197175160 ((-((1 : Nat) : Int)) % 4294967296) = ((2197175160 : Nat) : Int) by decide +kernel]
    exact xor_nat _ _ (by omega) (by decide)
  · have h0 : m % 2 = 0 := by omega
    rw [h0, if_neg (by decide), show Go.bits .and .u32 2197175160 ((-((0 : Nat) : Int)) % 4294967296) = ((0 : Nat) : Int) by decide +kernel]
    exact xor_nat _ _ (by omega) (by decide)
theorem halves_loop (d : Nat) : ∀ m : Nat, m < 4294967296 → d ≤ 8 → check_halves.l0 (d + 1) (m : Int) 8 (8 - (d : Int)) = some ((Crc.it d m : Nat) : Int) := by
  induction d with
  | zero => intro m hm hd; simp only [check_halves.l0]; rw [if_neg (by omega)]; rfl
  | succ d ih =>
    intro m hm hd
    rw [check_halves.l0]
    rw [if_pos (by omega), halve_one m hm, show wrap64 (8 - ((d + 1 : Nat) : Int) + 1) = 8 - (d : Int) by unfold wrap64; omega]
    exact ih (Crc.st m) (Crc.st_lt hm) (by omega)
theorem halves_eq (m : Nat) (hm : m < 4294967296) : check_halves.f 9 (m : Int) 8 = some ((Crc.it 8 m : Nat) : Int) := halves_loop 8 m hm (Nat.le_refl _)
/-- So many bytes on. -/
def onS (n : Nat) (b : Int) : Nat := Crc.it (8 * b.toNat) n
theorem lin_it (j n : Nat) (hn : n < 4294967296) : Crc.lin (fun i => Crc.it j (2 ^ i)) 32 0 n = Crc.it j n := by
  have := Crc.lin_of (Crc.it j) (Crc.it_zero j) (Crc.it_xor j) 32 0 n hn
  rw [this, Nat.pow_zero, Nat.mul_one]
theorem sq_congr {w : World} {g : Nat} {s s' : Nat → Nat} (h : sq w g s) (he : ∀ j, j < 32 → s j = s' j) : sq w g s' := fun j hj => by rw [← he j hj]; exact h j hj
theorem and_one64 (b : Int) (h0 : 0 ≤ b) (h1 : b ≤ 9223372036854775807) : Go.bits .and .i64 b 1 = b % 2 := by
  have hk : ∀ n : Int, 0 ≤ n → n < 2 ^ 63 → IntKind.i64.wrap n = n := by
    intro n a c
    have e : (2 : Int) ^ 63 = 9223372036854775808 := by decide
    rw [e] at c
    exact IntWalk.i64_in n (by omega)
  have e : (2 : Nat) ^ 63 = 9223372036854775808 := by decide
  have := (bits_nat .i64 63 (by decide) hk b.toNat 1 (by rw [e]; omega) (by decide)).1
  rw [Nat.and_one_is_mod] at this
  rw [show ((b.toNat : Nat) : Int) = b by omega] at this
  rw [show ((1 : Nat) : Int) = 1 from rfl] at this
  rw [this]; omega
/-- The square of 8 * 2 ^ j halvings. -/
def pw8 (j : Nat) (i : Nat) : Nat := Crc.it (8 * 2 ^ j) (2 ^ (i % 32))
theorem pw8_lt (j : Nat) : ∀ i, pw8 j i < 4294967296 := fun i => Crc.it_lt _ (Nat.pow_lt_pow_right (by decide) (Nat.mod_lt i (by decide)))
theorem lin_congr {s s' : Nat → Nat} (f : Nat) : ∀ i n, (∀ j, i ≤ j → j < i + f → s j = s' j) → Crc.lin s f i n = Crc.lin s' f i n := by
  induction f with
  | zero => intro i n _; rfl
  | succ f ih =>
    intro i n h
    show (_ ^^^ _) = (_ ^^^ _)
    rw [ih (i + 1) (n / 2) (fun j a b => h j (by omega) (by omega)), h i (by omega) (by omega)]
theorem lin_pw8 (j m : Nat) (hm : m < 4294967296) : Crc.lin (pw8 j) 32 0 m = Crc.it (8 * 2 ^ j) m := by
  rw [lin_congr (s' := fun i => Crc.it (8 * 2 ^ j) (2 ^ i)) 32 0 m (fun i _ h => by unfold pw8; rw [Nat.mod_eq_of_lt (by omega)])]
  exact lin_it _ m hm
theorem pw8_twice (j i : Nat) : Crc.lin (pw8 j) 32 0 (pw8 j i) = pw8 (j + 1) i := by
  rw [lin_pw8 j _ (pw8_lt j i)]
  unfold pw8
  rw [← Crc.it_add, Nat.pow_succ]
  congr 1; omega
def check_on.f (a0 a1 : Int) : Option Int := if 0 ≤ a0 ∧ a0 < 4294967296 ∧ a1 ≤ 9223372036854775807 then some ((onS a0.toNat a1 : Nat) : Int) else none
set_option maxHeartbeats 2000000 in
set_option maxRecDepth 100000 in
theorem check_on.calls (a0 a1 r : Int) (w : World) (h : check_on.f a0 a1 = some r) :
    Calls Try.prog 17 #[.int .u32 a0, .int .i64 a1] w fun e w' => e = .returned (.int .u32 r) ∧ Below w.heap.size w w' := by
  have h2 := h
  unfold check_on.f at h2
  by_cases hr : 0 ≤ a0 ∧ a0 < 4294967296 ∧ a1 ≤ 9223372036854775807
  · rw [if_pos hr] at h2
    obtain ⟨n, rfl⟩ : ∃ n : Nat, a0 = n := ⟨a0.toNat, by omega⟩
    rw [Int.toNat_natCast] at h2
    have HR := Go.Lib.hid (Option.some.inj h2)
    clear h h2
    have hn : n < 4294967296 := by omega
    have ha1 := hr.2.2
    clear hr
    have hz : sqTo (w.alloc (.cells (Array.replicate 32 (.int .u32 0)) 40)) w.heap.size (fun j => Crc.it 8 (2 ^ j)) 0 := ⟨_, blk_new _ _, by simp, fun j hj => by omega⟩
    have HZ := Go.Lib.hid hz
    clear hz
    go_enter Try.func17, Try.ntmps17
    go_wp2
    go_loopw [6, 9] (fun _ c wr => ∃ k : Nat, c = .int .i64 k ∧ k ≤ 32 ∧ Aside0 (sqTo wr w.heap.size (fun j => Crc.it 8 (2 ^ j)) k) ∧ Aside0 (Below w.heap.size w wr)) (fun _ c _ => 32 - (intOf c).toNat)
    case atStart => exact ⟨0, rfl, by omega, ⟨HZ.out⟩, ⟨below_alloc (Below.refl _ _) _⟩⟩
    case round =>
      obtain ⟨k, rfl, hk, HS, HBw⟩ := hrel
      by_cases hlt : k < 32
      · obtain ⟨cs, hb, hsz, hcs⟩ := HS.out
        obtain ⟨v0, hx⟩ : ∃ v0, wr.cell? ⟨w.heap.size, k, none⟩ = some v0 := ⟨_, (blk_cell hb k).trans (Array.getElem?_eq_getElem (by omega))⟩
        have hfz := blk_frozen hb k
        clear hb hsz hcs
        have hk2 : (2 : Nat) ^ k < 4294967296 := Nat.pow_lt_pow_right (by decide) hlt
        have HV := Aside0.mk (show check_halves.f 9 (IntKind.u32.wrap (2 ^ k)) 8 = some ((Crc.it 8 (2 ^ k) : Nat) : Int) by
          have e : (2 : Int) ^ k = ((2 ^ k : Nat) : Int) := by rw [Int.natCast_pow]; rfl
          have e2 := halves_eq (2 ^ k) hk2
          rw [e]
          generalize 2 ^ k = q at *
          rw [IntWalk.u32_in _ (by omega)]
          exact e2)
        clear hk2
        go_wp2
        go_region_with ((go_at_call 15; refine (check_halves.calls 9 (IntKind.u32.wrap (2 ^ k)) 8 _ _ HV.out).mono ?_; rintro e w' ⟨rfl, ⟨nd, rfl⟩⟩))
        go_wp2
        go_roundw
        case rel => exact ⟨k + 1, by go_num, by omega, ⟨sqTo_put (f := fun j => Crc.it 8 (2 ^ j)) (sqTo_drew HS.out _) hlt⟩, ⟨by exact below_set (pw_below_drewN HBw.out _) (Nat.le_refl _)⟩⟩
        case measure => simp [intOf]; omega
      · have HQ := Aside0.mk (sq_congr (s' := pw8 0) (sqTo_sq (by have hs_ := HS.out; rw [show k = 32 by omega] at hs_; exact hs_)) (fun j hj => by unfold pw8; rw [Nat.mod_eq_of_lt hj]))
        have HB := HBw
        have hk32 : decide ((k : Int) < 32) = false := decide_eq_false (by omega)
        clear HS HZ HBw
        go_wp2
        clear hk32 hlt hk
        go_loopw [0, 1, 5] (fun u0 u1 u5 wx => ∃ (m : Nat) (b : Int) (g j : Nat), u0 = .int .u32 m ∧ u1 = .int .i64 b ∧ u5 = .pointer (some ⟨g, 0, none⟩) ∧ m < 4294967296 ∧ b ≤ 9223372036854775807 ∧ Aside0 (sq wx g (pw8 j)) ∧ Aside0 (Below w.heap.size w wx) ∧ Hid (Crc.it (8 * 2 ^ j * b.toNat) m = onS n a1)) (fun _ u1 _ _ => (intOf u1).toNat)
        case atStart => exact ⟨n, a1, w.heap.size, 0, rfl, rfl, rfl, hn, ha1, HQ, HB, Go.Lib.hid (by rw [Nat.pow_zero, Nat.mul_one]; rfl)⟩
        case round =>
          clear HQ HB
          obtain ⟨m, b, g, j, rfl, rfl, rfl, hm, hb1, HQ, HB, HI⟩ := hrel
          by_cases h0 : 0 < b
          · have e1 : Go.bits .and .i64 b 1 = b % 2 := and_one64 b (by omega) hb1
            have hd0 : b / 2 ≤ 9223372036854775807 := by omega
            have HT := Go.Lib.hid (show (b / 2).toNat = b.toNat / 2 by omega)
            by_cases ho : b % 2 = 1
            · rw [ho] at e1
              have HI2 : Hid (Crc.it (8 * 2 ^ (j + 1) * (b / 2).toNat) (Crc.it (8 * 2 ^ j) m) = onS n a1) := Go.Lib.hid (by
                rw [← HI.out, ← Crc.it_add, HT.out]
                congr 1
                have : b.toNat = 2 * (b.toNat / 2) + 1 := by omega
                rw [Nat.pow_succ]
                generalize b.toNat / 2 = q at *
                rw [this, Nat.mul_add, Nat.mul_one, Nat.mul_assoc 8, Nat.mul_assoc 8, Nat.mul_assoc (2 ^ j) 2 q, Nat.add_comm])
              have hml : Crc.it (8 * 2 ^ j) m < 4294967296 := Crc.it_lt _ hm
              have HL := Aside0.mk (lin_pw8 j m hm)
              clear ho HI
              go_wp2_with (first | (go_at_call 18; refine (times_calls g (pw8 j) (pw8_lt j) m hm _ (by exact HQ.out)).mono ?_; rintro e w' ⟨rfl, rfl⟩; rw [HL.out]) | (go_at_call 19; refine (twice_calls g (pw8 j) (pw8_lt j) _ (by exact HQ.out)).mono ?_; rintro e w' ⟨g', rfl, hq, hb⟩; have HQ2 := Aside0.mk (sq_congr (s' := pw8 (j + 1)) hq (fun i hi => pw8_twice j i)); have HB2 := Aside0.mk (below_step HB.out hb); clear hq hb HQ HB))
              go_roundw
              case rel => exact ⟨_, b / 2, g', j + 1, rfl, rfl, rfl, hml, hd0, HQ2, HB2, HI2⟩
              case measure => simp [intOf]; omega
            · have ho' : b % 2 = 0 := by omega
              rw [ho'] at e1
              have HI2 : Hid (Crc.it (8 * 2 ^ (j + 1) * (b / 2).toNat) m = onS n a1) := Go.Lib.hid (by
                rw [← HI.out, HT.out]
                congr 1
                have : b.toNat = 2 * (b.toNat / 2) := by omega
                rw [Nat.pow_succ]
                generalize b.toNat / 2 = q at *
                rw [this, Nat.mul_assoc 8, Nat.mul_assoc 8, Nat.mul_assoc (2 ^ j) 2 q])
              clear ho ho' HI
              go_wp2_with ((go_at_call 19; refine (twice_calls g (pw8 j) (pw8_lt j) _ (by exact HQ.out)).mono ?_; rintro e w' ⟨g', rfl, hq, hb⟩; have HQ2 := Aside0.mk (sq_congr (s' := pw8 (j + 1)) hq (fun i hi => pw8_twice j i)); have HB2 := Aside0.mk (below_step HB.out hb); clear hq hb HQ HB))
              go_roundw
              case rel => exact ⟨_, b / 2, g', j + 1, rfl, rfl, rfl, hm, hd0, HQ2, HB2, HI2⟩
              case measure => simp [intOf]; omega
          · have HI2 := Go.Lib.hid (show m = onS n a1 by rw [← HI.out, show b.toNat = 0 by omega]; rfl)
            clear HI
            go_wp2
            go_ret
            exact ⟨by rw [← HR.out, ← HI2.out]; rfl, HB.out⟩
  · rw [if_neg hr] at h2
    cases h2

end Go.Proofs.Ytdpljfpcpfdlcaa.PAll
