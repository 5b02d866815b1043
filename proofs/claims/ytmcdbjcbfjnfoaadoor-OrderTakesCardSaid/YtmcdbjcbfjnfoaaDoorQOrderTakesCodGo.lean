
import Derived.Test.YtmcdbjcbfjnfoaaDoorQOrderTakesCodec
namespace Go.Proofs.YtmcdbjcbfjnfoaaDoor.Pure
open Go.RowKit Go.Proofs.YtmcdbjcbfjnfoaaDoor Go.Proofs.YtmcdbjcbfjnfoaaDoor.PAll Go.Proofs.YtmcdbjcbfjnfoaaDoorW.PrintWords Go.Proofs.YtmcdbjcbfjnfoaaDoorW.PrintLast Go.Proofs.YtmcdbjcbfjnfoaaDoorW.PrintMore
theorem wrap_u {x : Int} (h0 : 0 ≤ x) (h1 : x < 18446744073709551616) : IntKind.u64.wrap x = x := by
  rw [IntKind.wrap_u64]; omega
theorem and127 (x : Int) (h : 0 ≤ x ∧ x < 256) : Go.bits .and .u8 x 127 = x % 128 := by
  rw [u8_and x 127 h.1 h.2 (by omega) (by omega), show (127 : Int).toNat = 2 ^ 7 - 1 from rfl, Nat.and_two_pow_sub_one_eq_mod]
  omega
theorem or128 (x : Int) (h : 0 ≤ x ∧ x < 256) : Go.bits .or .u8 x 128 = x % 128 + 128 := by
  obtain ⟨a, rfl⟩ := Int.eq_ofNat_of_zero_le h.1
  have e : ∀ b : Fin 256, b.val ||| 128 = b.val % 128 + 128 := by decide +kernel
  rw [show (128 : Int) = ((128 : Nat) : Int) from rfl, u8_or_nat a 128 (by omega) (by omega), show a ||| 128 = a % 128 + 128 from e ⟨a, by omega⟩]
  omega
def Wt (i w : Nat) : Prop := w = 2 ^ (7 * i)
theorem wt_pos {i w : Nat} (hw : Wt i w) : 0 < w := by rw [show w = 2 ^ (7 * i) from hw]; exact Nat.pow_pos (by omega)
theorem wt_le {i w : Nat} (hw : Wt i w) (h : i ≤ 7) : w ≤ 562949953421312 := by rw [show w = 2 ^ (7 * i) from hw]; exact Nat.pow_le_pow_right (n := 2) (by omega) (show 7 * i ≤ 49 by omega)
theorem or_add (n p w i : Nat) (hw : Wt i w) (hn : n < w) (hp : p < 128) (hs : w ≤ 72057594037927936) : Go.bits .or .u64 (n : Int) ((p * w : Nat) : Int) = ((n + p * w : Nat) : Int) := by
  have h1 : p * w ≤ 127 * w := Nat.mul_le_mul_right w (by omega)
  rw [u64_or_nat n (p * w) (by omega) (by omega)]
  congr 1
  unfold Wt at hw
  subst hw
  rw [Nat.or_comm, Nat.mul_comm p, ← Nat.two_pow_add_eq_or_of_lt hn, Nat.add_comm]
theorem rd_i (l : List Int) (i : Nat) (h : i < l.length) : rd l (i : Int) = l[i] := by
  unfold rd
  rw [List.getD_eq_getElem?_getD, Int.toNat_natCast, List.getElem?_eq_getElem h]; rfl
theorem shl_i (x : Int) (i w : Nat) (hw : Wt i w) (hi : 7 * i ≤ 64) (h0 : 0 ≤ x * (w : Int)) (h1 : x * (w : Int) < 18446744073709551616) : shl .u64 x ((7 * i : Nat) : Int) = x * (w : Int) := by
  unfold shl
  rw [show ((7 * i : Nat) : Int).toNat = 7 * i from by omega, show min (7 * i) IntKind.u64.bits = 7 * i from Nat.min_eq_left hi, show (2 : Int) ^ (7 * i) = (w : Int) from by rw [show w = 2 ^ (7 * i) from hw]; simp]
  exact wrap_u h0 h1
theorem shr_i (x : Int) (i w : Nat) (hw : Wt i w) (hi : 7 * i ≤ 64) : shr .u64 x ((7 * i : Nat) : Int) = x / (w : Int) := by
  unfold shr
  rw [show ((7 * i : Nat) : Int).toNat = 7 * i from by omega, show min (7 * i) IntKind.u64.bits = 7 * i from Nat.min_eq_left hi, show (2 : Int) ^ (7 * i) = (w : Int) from by rw [show w = 2 ^ (7 * i) from hw]; simp]
theorem few (i w : Nat) (most : Nat) (hw : Wt i w) (hm : most < 72057594037927936) (h : i = 0 ∨ w ≤ most) : i ≤ 7 := by
  rcases h with h | h
  · omega
  · by_cases c : i ≤ 7
    · exact c
    · have := Nat.pow_le_pow_right (n := 2) (by omega) (show 56 ≤ 7 * i by omega)
      rw [← show w = 2 ^ (7 * i) from hw] at this
      omega
theorem next_w (i w : Nat) (hw : Wt i w) : Wt (i + 1) (w * 128) := by
  show w * 128 = 2 ^ (7 * (i + 1))
  rw [show w = 2 ^ (7 * i) from hw, show 7 * (i + 1) = 7 * i + 7 from by omega, Nat.pow_add]
def digit (most n w : Int) (i : Nat) (x : Int) (next : Int × Int) : Int × Int :=
  if most < n + x % 128 * w then (0, -1) else if x < 128 then (n + x % 128 * w, ((i + 1 : Nat) : Int)) else if most - (n + x % 128 * w) < w * 128 then (0, -1) else next
theorem Ev.ite {α : Type} {c : Prop} [Decidable c] {a : α} {g : Nat → Option α} {r : α} (k : ¬c → Ev g r) : Ev (fun n => if c then some a else g n) (if c then a else r) := by
  by_cases h : c
  · rw [if_pos h]; exact Ev.ifp h (Ev.now _)
  · rw [if_neg h]; exact Ev.ifn h (k h)
theorem num_good (l : List Int) (most n w i p : Nat) (x : Int) (next : Int × Int) (hm : most < 72057594037927936) (hn : n < w) (hw : Wt i w) (hi7 : i ≤ 7) (hp1 : x % 128 = (p : Int)) (hp2 : p < 128)
    (hk : 128 ≤ x → n + p * w + w * 128 ≤ most → Ev (fun k => packet_number.l0 k (most : Int) ((n + p * w : Nat) : Int) l (l.length : Int) ((i + 1 : Nat) : Int)) next) :
    Ev (fun k => packet_number.j1 k (most : Int) (n : Int) (i : Int) x (p : Int) l (l.length : Int) (i : Int) false) (digit most n w i x next) := by
  have hw0 := wt_pos hw
  have hws := wt_le hw hi7
  have e7 : wrap64 (7 * (i : Int)) = ((7 * i : Nat) : Int) := by rw [w64 (by omega) (by omega)]; omega
  have ei : wrap64 ((i : Int) + 1) = ((i + 1 : Nat) : Int) := by rw [w64 (by omega) (by omega)]; omega
  have e7' : wrap64 (7 * ((i + 1 : Nat) : Int)) = ((7 * (i + 1) : Nat) : Int) := by rw [w64 (by omega) (by omega)]; omega
  have hpw : p * w ≤ 127 * w := Nat.mul_le_mul_right w (by omega)
  have ecp : ((p * w : Nat) : Int) = (p : Int) * (w : Int) := by simp
  obtain ⟨m, hm2⟩ : ∃ m, m = p * w := ⟨_, rfl⟩
  have es : shl .u64 (p : Int) ((7 * i : Nat) : Int) = ((p * w : Nat) : Int) := by
    rw [shl_i (p : Int) i w hw (by omega) (by omega) (by omega), ecp]
  have eo : Go.bits .or .u64 (n : Int) (shl .u64 (p : Int) ((7 * i : Nat) : Int)) = ((n + m : Nat) : Int) := by
    rw [es, hm2]; exact or_add n p w i hw hn hp2 (by omega)
  have e1 : shl .u64 1 ((7 * (i + 1) : Nat) : Int) = ((w * 128 : Nat) : Int) := by
    rw [shl_i 1 (i + 1) (w * 128) (next_w i w hw) (by omega) (by omega) (by omega)]; omega
  have en : (n : Int) + x % 128 * (w : Int) = ((n + m : Nat) : Int) := by rw [hp1, ← ecp, ← hm2]; omega
  rw [← hm2] at hk hpw
  have hmw : m ≤ 71494644084506624 := by omega
  unfold digit
  rw [en]
  clear es ecp hw en hm2
  refine Ev.step (fun k => by rw [packet_number.j1, if_neg (by decide), e7, eo, ei, e7', e1]) ?_
  refine Ev.ifp (by omega) ?_
  by_cases c1 : (most : Int) < ((n + m : Nat) : Int)
  · rw [if_pos c1]; exact Ev.ifp c1 (Ev.now _)
  rw [if_neg c1]
  refine Ev.ifn c1 ?_
  by_cases c2 : x < 128
  · rw [if_pos c2]; exact Ev.ifp c2 (Ev.now _)
  rw [if_neg c2]
  refine Ev.ifn c2 (Ev.ifp (by omega) ?_)
  rw [wrap_u (by omega) (by omega)]
  by_cases c3 : (most : Int) - ((n + m : Nat) : Int) < (w : Int) * 128
  · rw [if_pos c3]; exact Ev.ifp (by omega) (Ev.now _)
  rw [if_neg c3]
  exact Ev.ifn (by omega) (hk (by omega) (by omega))
theorem num_l (l : List Int) (_hl : l.length ≤ 140737488355328) (hb : Byt l) (most : Nat) (hm : most < 72057594037927936) (d : Nat) : ∀ (i n w : Nat), i + d = l.length → n < w → Wt i w → (i = 0 ∨ w ≤ most) →
    Ev (fun k => packet_number.l0 k (most : Int) (n : Int) l (l.length : Int) (i : Int)) (dec (most : Int) (n : Int) (w : Int) i (l.drop i)) := by
  induction d with
  | zero =>
    intro i n w h _ _ _
    rw [List.drop_of_length_le (by omega), dec]
    exact Ev.step (f := fun _ => some (0, 0)) (fun k => by rw [packet_number.l0, if_neg (by omega)]) (Ev.now _)
  | succ d ih =>
    intro i n w h hn hw hi
    have h1 : i < l.length := by omega
    have hx := hb l[i] (List.getElem_mem h1)
    have hi7 := few i w most hw hm hi
    have e7 : wrap64 (7 * (i : Int)) = ((7 * i : Nat) : Int) := by rw [w64 (by omega) (by omega)]; omega
    obtain ⟨p, hp⟩ : ∃ p, p = (l[i] % 128).toNat := ⟨_, rfl⟩
    have hp1 : l[i] % 128 = (p : Int) := by omega
    have hp2 : p < 128 := by omega
    have ep : IntKind.u64.wrap (Go.bits .and .u8 (rd l (i : Int)) 127) = (p : Int) := by
      rw [rd_i l i h1, and127 _ hx, wrap_u (by omega) (by omega)]; exact hp1
    have bad : Ev (fun k => packet_number.j1 k (most : Int) (n : Int) (i : Int) l[i] (p : Int) l (l.length : Int) (i : Int) true) (0, -1) :=
      Ev.step (f := fun _ => some (0, -1)) (fun k => by rw [packet_number.j1, if_pos rfl]) (Ev.now _)
    have good := num_good l most n w i p l[i] (dec most (n + l[i] % 128 * w) (w * 128) (i + 1) (l.drop (i + 1))) hm hn hw hi7 hp1 hp2 (fun _ hle => by
      have hpw : p * w ≤ 127 * w := Nat.mul_le_mul_right w (by omega)
      have := ih (i + 1) (n + p * w) (w * 128) (by omega) (by omega) (next_w i w hw) (.inr (by omega))
      rw [hp1]
      have e1 : ((n + p * w : Nat) : Int) = (n : Int) + (p : Int) * (w : Int) := by simp
      rw [e1, show ((w * 128 : Nat) : Int) = (w : Int) * 128 from by omega] at this
      rw [e1]
      exact this)
    have mid : Ev (fun k => packet_number.j1 k (most : Int) (n : Int) (i : Int) l[i] (p : Int) l (l.length : Int) (i : Int) (decide ((p : Int) > shr .u64 (most : Int) ((7 * i : Nat) : Int))))
        (digit most n w i l[i] (dec most (n + l[i] % 128 * w) (w * 128) (i + 1) (l.drop (i + 1)))) := by
      rw [shr_i (most : Int) i w hw (by omega)]
      have hw0 := wt_pos hw
      by_cases c : (p : Int) > (most : Int) / (w : Int)
      · rw [decide_eq_true c]
        have hlt : (most : Int) < (p : Int) * w := (Int.ediv_lt_iff_lt_mul (by omega)).1 c
        unfold digit
        rw [hp1, if_pos (by omega)]
        exact bad
      · rw [decide_eq_false c]; exact good
    refine Ev.step (fun k => by rw [packet_number.l0, if_pos (by omega), if_pos (by omega), if_pos (by omega), if_neg (by omega), ep, e7, rd_i l i h1]) ?_
    rw [List.drop_eq_getElem_cons h1, dec]
    by_cases c0 : 0 < i
    · refine Ev.ifp (by omega) ?_
      by_cases cx : l[i] = 0
      · rw [if_pos ⟨cx, c0⟩]; exact Ev.ifp cx bad
      · rw [if_neg (fun e => cx e.1)]
        exact Ev.ifn cx (Ev.ifp (by omega) mid)
    · rw [if_neg (fun e => c0 e.2)]
      exact Ev.ifn (by omega) (Ev.ifp (by omega) mid)
theorem num_eq (l : List Int) (hl : l.length ≤ 140737488355328) (hb : Byt l) (most : Nat) (hm : most < 72057594037927936) : Ev (fun k => packet_number.f k l (most : Int)) (dec (most : Int) 0 1 0 l) :=
  num_l l hl hb most hm l.length 0 0 1 (by omega) (by omega) rfl (.inl rfl)
theorem put_1 (xs : List Int) (len i : Nat) (rest : List Int) (v : Nat) : ∀ (b : List Int), b.length + (enc v).length < 140737488355328 → i < 9223372036854775807 → Ev (fun k => packet_Number.l0 k (b ++ enc v) xs (len : Int) ((i + 1 : Nat) : Int)) rest →
    Ev (fun k => packet_Number.l1 k b (v : Int) xs (len : Int) (i : Int)) rest := by
  induction v using Nat.strongRecOn with
  | ind v ih =>
    intro b hb hi hk
    by_cases h : v < 128
    · rw [enc_small h] at hk hb
      rw [List.length_singleton] at hb
      refine Ev.step (fun k => by rw [packet_Number.l1, if_neg (by omega), if_pos (by omega), show (v : Int) % 256 = v from by omega, w64 (by omega) (by omega)]) ?_
      exact hk
    · rw [enc_big h] at hk hb
      rw [List.length_cons] at hb
      refine Ev.step (fun k => by rw [packet_Number.l1, if_pos (by omega), if_pos (by omega), or128 ((v : Int) % 256) (by omega)]) ?_
      have := ih (v / 128) (by omega) (b ++ [((v % 128 + 128 : Nat) : Int)]) (by rw [List.length_append, List.length_singleton]; omega) hi (by rw [List.append_assoc, List.singleton_append]; exact hk)
      rw [show (v : Int) % 256 % 128 + 128 = ((v % 128 + 128 : Nat) : Int) from by omega, show (v : Int) / 128 = ((v / 128 : Nat) : Int) from by omega]
      exact this
theorem put_l (ns : List Nat) (d : Nat) : ∀ (i : Nat) (b : List Int), i + d = ns.length → ns.length < 9223372036854775807 → b.length + ((ns.drop i).flatMap enc).length < 140737488355328 →
    Ev (fun k => packet_Number.l0 k b (ns.map fun n : Nat => (n : Int)) (ns.length : Int) (i : Int)) (b ++ (ns.drop i).flatMap enc) := by
  induction d with
  | zero =>
    intro i b h _ _
    rw [List.drop_of_length_le (by omega), List.flatMap_nil, List.append_nil]
    exact Ev.step (f := fun _ => some b) (fun k => by rw [packet_Number.l0, if_neg (by omega)]) (Ev.now _)
  | succ d ih =>
    intro i b h hN hb
    have h1 : i < ns.length := by omega
    rw [List.drop_eq_getElem_cons h1, List.flatMap_cons] at hb ⊢
    rw [List.length_append] at hb
    refine Ev.step (fun k => by rw [packet_Number.l0, if_pos (by omega), if_pos (by omega), if_pos (by rw [List.length_map]; omega), rd_i _ i (by rw [List.length_map]; exact h1), List.getElem_map]) ?_
    refine put_1 _ _ i _ ns[i] b (by omega) (by omega) ?_
    rw [← List.append_assoc]
    exact ih (i + 1) (b ++ enc ns[i]) (by omega) hN (by rw [List.length_append]; omega)
theorem putN (b : List Int) (ns : List Nat) (hN : ns.length < 9223372036854775807) (hb : b.length + (ns.flatMap enc).length < 140737488355328) : Ev (fun k => packet_Number.f k b (ns.map fun n : Nat => (n : Int))) (b ++ ns.flatMap enc) := by
  unfold packet_Number.f
  refine Ev.bindc (show slices_Clone_byte_byte.f b = some b from if_pos (by omega)) ?_
  rw [List.length_map]
  exact put_l ns ns.length 0 b (by omega) hN hb
def encT (s : ByteArray) : List Int := enc s.size ++ bytesOf s
theorem rd_s (l : List ByteArray) (i : Nat) (h : i < l.length) : rdOf ByteArray.empty l (i : Int) = l[i] := by
  unfold rdOf
  rw [List.getD_eq_getElem?_getD, Int.toNat_natCast, List.getElem?_eq_getElem h]; rfl
theorem putT_l (ss : List ByteArray) (d : Nat) : ∀ (i : Nat) (b : List Int), i + d = ss.length → ss.length < 9223372036854775807 → (∀ s ∈ ss, s.size ≤ 140737488355328) → b.length + ((ss.drop i).flatMap encT).length < 140737488355328 →
    Ev (fun k => packet_Text.l0 k b ss (ss.length : Int) (i : Int)) (b ++ (ss.drop i).flatMap encT) := by
  induction d with
  | zero =>
    intro i b h _ _ _
    rw [List.drop_of_length_le (by omega), List.flatMap_nil, List.append_nil]
    exact Ev.step (f := fun _ => some b) (fun k => by rw [packet_Text.l0, if_neg (by omega)]) (Ev.now _)
  | succ d ih =>
    intro i b h hN hs hb
    have h1 : i < ss.length := by omega
    have hsz := hs ss[i] (List.getElem_mem h1)
    rw [List.drop_eq_getElem_cons h1, List.flatMap_cons] at hb ⊢
    rw [List.length_append, encT, List.length_append, bytesOf_length] at hb
    refine Ev.step (fun k => by rw [packet_Text.l0, if_pos (by omega), if_pos (by omega), if_pos (by omega), rd_s ss i h1, wrap_u (by omega) (by omega)]) ?_
    have hp := putN b [ss[i].size] (by simp) (by simp only [List.flatMap_cons, List.flatMap_nil, List.append_nil]; omega)
    refine Ev.bind hp ?_
    simp only [List.flatMap_cons, List.flatMap_nil, List.append_nil]
    refine Ev.ifp (by rw [List.length_append]; omega) ?_
    rw [w64 (by omega) (by omega), encT, ← List.append_assoc, ← List.append_assoc]
    exact ih (i + 1) (b ++ enc ss[i].size ++ bytesOf ss[i]) (by omega) hN hs (by rw [List.length_append, List.length_append, bytesOf_length]; omega)
theorem putT (b : List Int) (ss : List ByteArray) (hN : ss.length < 9223372036854775807) (hs : ∀ s ∈ ss, s.size ≤ 140737488355328) (hb : b.length + (ss.flatMap encT).length < 140737488355328) : Ev (fun k => packet_Text.f k b ss) (b ++ ss.flatMap encT) := by
  unfold packet_Text.f
  refine Ev.bindc (show slices_Clone_byte_byte.f b = some b from if_pos (by omega)) ?_
  exact putT_l ss ss.length 0 b (by omega) hN hs hb
theorem bytes_str (l : List Int) (h : Byt l) : bytesOf (strOfNums l) = l := by
  unfold bytesOf
  rw [strOfNums_data, List.map_map]
  conv => rhs; rw [← List.map_id l]
  refine List.map_congr_left fun x hx => ?_
  have := h x hx
  show ((UInt8.ofNat x.toNat).toNat : Int) = x
  rw [UInt8.toNat_ofNat']
  omega
def rdN (most : Int) (l : List Int) (bad : Bool) : Int × List Int × Bool :=
  if bad = true then (0, l, true) else if (dec most 0 1 0 l).2 ≤ 0 then (0, l, true) else ((dec most 0 1 0 l).1, l.drop (dec most 0 1 0 l).2.toNat, false)
def rdT (most : Int) (l : List Int) (bad : Bool) : ByteArray × List Int × Bool :=
  if (rdN most l bad).2.2 = true then (⟨#[]⟩, (rdN most l bad).2.1, true) else if ((rdN most l bad).2.1.length : Int) < (rdN most l bad).1 then (⟨#[]⟩, (rdN most l bad).2.1, true)
  else (strOfNums ((rdN most l bad).2.1.take (rdN most l bad).1.toNat), (rdN most l bad).2.1.drop (rdN most l bad).1.toNat, false)
theorem byt_drop {l : List Int} (n : Nat) (h : Byt l) : Byt (l.drop n) := fun x hx => h x (List.mem_of_mem_drop hx)
theorem byt_take {l : List Int} (n : Nat) (h : Byt l) : Byt (l.take n) := fun x hx => h x (List.mem_of_mem_take hx)
theorem dec_used (most : Nat) (l : List Int) (hb : Byt l) : (dec most 0 1 0 l).2 ≤ (l.length : Int) ∧ 0 ≤ (dec most 0 1 0 l).1 ∧ (dec most 0 1 0 l).1 ≤ most := by
  by_cases h : 0 < (dec most 0 1 0 l).2
  · obtain ⟨q, r, h1, h2, h3, h4, _⟩ := dec_some most l 0 1 0 _ _ hb (by omega) (by omega) rfl h
    have hl : l.length = (enc q).length + r.length := by rw [h1, List.length_append]
    omega
  · have := dec_none most l 0 1 0 h
    omega
theorem rdN_byt (most : Int) (l : List Int) (bad : Bool) (hb : Byt l) : Byt (rdN most l bad).2.1 := by
  unfold rdN
  by_cases h : bad = true
  · rw [if_pos h]; exact hb
  · rw [if_neg h]
    by_cases h2 : (dec most 0 1 0 l).2 ≤ 0
    · rw [if_pos h2]; exact hb
    · rw [if_neg h2]; exact byt_drop _ hb
theorem rdN_len (most : Int) (l : List Int) (bad : Bool) : (rdN most l bad).2.1.length ≤ l.length := by
  unfold rdN
  by_cases h : bad = true
  · rw [if_pos h]; exact Nat.le_refl _
  · rw [if_neg h]
    by_cases h2 : (dec most 0 1 0 l).2 ≤ 0
    · rw [if_pos h2]; exact Nat.le_refl _
    · rw [if_neg h2]; rw [List.length_drop]; omega
theorem rdN_range (most : Nat) (l : List Int) (bad : Bool) (hb : Byt l) : 0 ≤ (rdN most l bad).1 ∧ (rdN most l bad).1 ≤ most := by
  unfold rdN
  have := dec_used most l hb
  by_cases h : bad = true
  · rw [if_pos h]; simp only; omega
  · rw [if_neg h]
    by_cases h2 : (dec most 0 1 0 l).2 ≤ 0
    · rw [if_pos h2]; simp only; omega
    · rw [if_neg h2]; simp only; omega
theorem rdT_byt (most : Int) (l : List Int) (bad : Bool) (hb : Byt l) : Byt (rdT most l bad).2.1 := by
  have h0 := rdN_byt most l bad hb
  unfold rdT
  by_cases h : (rdN most l bad).2.2 = true
  · rw [if_pos h]; exact h0
  · rw [if_neg h]
    by_cases h2 : ((rdN most l bad).2.1.length : Int) < (rdN most l bad).1
    · rw [if_pos h2]; exact h0
    · rw [if_neg h2]; exact byt_drop _ h0
theorem rdT_len (most : Int) (l : List Int) (bad : Bool) : (rdT most l bad).2.1.length ≤ l.length := by
  have h0 := rdN_len most l bad
  unfold rdT
  by_cases h : (rdN most l bad).2.2 = true
  · rw [if_pos h]; exact h0
  · rw [if_neg h]
    by_cases h2 : ((rdN most l bad).2.1.length : Int) < (rdN most l bad).1
    · rw [if_pos h2]; exact h0
    · rw [if_neg h2]; rw [List.length_drop]; omega
theorem rN_eq (l : List Int) (bad : Bool) (hl : l.length ≤ 140737488355328) (hb : Byt l) (most : Nat) (hm : most < 72057594037927936) : Ev (fun k => packet_Reader_Number.f k l bad (most : Int)) (rdN (most : Int) l bad) := by
  unfold packet_Reader_Number.f rdN
  exact Ev.ite fun _ => Ev.bind (num_eq l hl hb most hm) (Ev.ite fun _ => Ev.ifp (dec_used most l hb).1 (Ev.now _))
theorem rT_eq (l : List Int) (bad : Bool) (hl : l.length ≤ 140737488355328) (hb : Byt l) (most : Nat) (hm : most ≤ 1000000) : Ev (fun k => packet_Reader_Text.f k l bad (most : Int)) (rdT (most : Int) l bad) := by
  unfold packet_Reader_Text.f rdT
  exact Ev.ifp (by omega) (Ev.bind (rN_eq l bad hl hb most (by omega)) (Ev.ite fun _ => Ev.ite fun _ => Ev.ifp (rdN_range most l bad hb).1 (Ev.now _)))
theorem rdN_got (most : Nat) (l : List Int) (bad : Bool) (hb : Byt l) (h : (rdN most l bad).2.2 = false) : bad = false ∧ ∃ q : Nat, q ≤ most ∧ (rdN most l bad).1 = (q : Int) ∧ l = enc q ++ (rdN most l bad).2.1 := by
  unfold rdN at h ⊢
  by_cases cb : bad = true
  · rw [if_pos cb] at h; exact absurd h (by simp)
  rw [if_neg cb] at h ⊢
  have cb : bad = false := by simpa using cb
  refine ⟨cb, ?_⟩
  by_cases h2 : (dec most 0 1 0 l).2 ≤ 0
  · rw [if_pos h2] at h; exact absurd h (by simp)
  rw [if_neg h2]
  obtain ⟨q, r, h1, h3, h4, h5, _⟩ := dec_some most l 0 1 0 _ _ hb (by omega) (by omega) rfl (by omega)
  refine ⟨q, by omega, by simp only; omega, ?_⟩
  simp only
  rw [h3, show (((0 + (enc q).length : Nat) : Int)).toNat = (enc q).length from by omega]
  conv => rhs; rw [h1, List.drop_left]
  exact h1
theorem rdT_got (most : Nat) (l : List Int) (bad : Bool) (hb : Byt l) (h : (rdT most l bad).2.2 = false) : bad = false ∧ (rdT most l bad).1.size ≤ most ∧ l = encT (rdT most l bad).1 ++ (rdT most l bad).2.1 := by
  unfold rdT at h ⊢
  by_cases c : (rdN most l bad).2.2 = true
  · rw [if_pos c] at h; exact absurd h (by simp)
  rw [if_neg c] at h ⊢
  by_cases c2 : ((rdN most l bad).2.1.length : Int) < (rdN most l bad).1
  · rw [if_pos c2] at h; exact absurd h (by simp)
  rw [if_neg c2]
  obtain ⟨h1, q, h2, h3, h4⟩ := rdN_got most l bad hb (by simpa using c)
  rw [h3, Int.toNat_natCast]
  have hq : ((rdN most l bad).2.1.take q).length = q := by rw [List.length_take]; omega
  refine ⟨h1, ?_, ?_⟩
  · show (strOfNums _).size ≤ most
    rw [strOfNums_size, hq]; exact h2
  · show l = encT (strOfNums _) ++ _
    unfold encT
    rw [strOfNums_size, hq, bytes_str _ (byt_take q (rdN_byt most l bad hb)), List.append_assoc, List.take_append_drop]
    exact h4
end Go.Proofs.YtmcdbjcbfjnfoaaDoor.Pure
