
import Derived.Test.YtmcdbjcbfjnfoaaDoorQOrderTakesPAllx0
import Derived.Test.YtmcdbjcbfjnfoaaDoorQOrderTakesPAllx4
import Derived.Test.YtmcdbjcbfjnfoaaDoorQOrderTakesPAllx5
namespace Go.Proofs.YtmcdbjcbfjnfoaaDoor.PAll
open Go.RowKit Go.Proofs.YtmcdbjcbfjnfoaaDoorW.PrintWords Go.Proofs.YtmcdbjcbfjnfoaaDoorW.PrintLast Go.Proofs.YtmcdbjcbfjnfoaaDoorW.PrintMore
attribute [local go_sem] max2_int max_two
set_option linter.unusedVariables false
set_option linter.unusedSimpArgs false
def order_Take.l0 : Nat → Int → Int → List Int → Bool → ByteArray → List (S52) → ByteArray → ByteArray → ByteArray → Int → Int → Bool → Int → Int → Option (ByteArray × (List (S52)) × ByteArray × ByteArray × ByteArray × Int × Int × Bool × Int × Int × Int × List Int × Bool)
 | 0, _, _, _, _, _, _, _, _, _, _, _, _, _, _ => none
 | k + 1, x9, x10, x1000, x1001, X0, X1, X2, X3, X4, X5, X6, X7, X8, X9 => if x10 < x9 then ((packet_Reader_Text.f k x1000 x1001 32).bind fun bt209 => ((packet_Reader_Number.f k bt209.2.1 bt209.2.2 1000).bind fun bt212 => ((packet_Reader_Number.f k bt212.2.1 bt212.2.2 100000).bind fun bt215 => (if X1.length < 4398046511104 then (order_Take.l0 k x9 (IntKind.u64.wrap (x10 + 1)) bt215.2.1 bt215.2.2 X0 (X1 ++ [(⟨bt209.1, wrap64 (bt212.1), wrap64 (bt215.1)⟩ : S52)]) X2 X3 X4 X5 X6 X7 X8 X9) else (none))))) else ((packet_Reader_Text.f k x1000 x1001 32).bind fun bt221 => ((packet_Reader_Text.f k bt221.2.1 bt221.2.2 32).bind fun bt224 => ((packet_Reader_Text.f k bt224.2.1 bt224.2.2 32).bind fun bt227 => ((packet_Reader_Number.f k bt227.2.1 bt227.2.2 1000000000000).bind fun bt230 => ((packet_Reader_Number.f k bt230.2.1 bt230.2.2 12).bind fun bt233 => ((packet_Reader_Number.f k bt233.2.1 bt233.2.2 1).bind fun bt236 => ((packet_Reader_Number.f k bt236.2.1 bt236.2.2 1000000).bind fun bt239 => ((packet_Reader_Number.f k bt239.2.1 bt239.2.2 1000000000000).bind fun bt242 => ((packet_Reader_Bad.f bt242.2.1 bt242.2.2).bind fun bt245 => (if bt245.1 = true then (some (⟨#[]⟩, ([] : List (S52)), ⟨#[]⟩, ⟨#[]⟩, ⟨#[]⟩, 0, 0, false, 0, 0, 101, bt245.2.1, bt245.2.2)) else ((order_Right.f k X0 X1 bt221.1 bt224.1 bt227.1 (wrap64 (bt230.1)) (wrap64 (bt233.1)) (bt236.1 == 1) (wrap64 (bt239.1)) (wrap64 (bt242.1))).bind fun t248 => (if t248 = true then (some (X0, X1, bt221.1, bt224.1, bt227.1, wrap64 (bt230.1), wrap64 (bt233.1), (bt236.1 == 1), wrap64 (bt239.1), wrap64 (bt242.1), 0, bt245.2.1, bt245.2.2)) else (some (⟨#[]⟩, ([] : List (S52)), ⟨#[]⟩, ⟨#[]⟩, ⟨#[]⟩, 0, 0, false, 0, 0, 101, bt245.2.1, bt245.2.2))))))))))))))
def order_Take.f (k : Nat) (s0_0 : List Int) (s0_1 : Bool) : Option (ByteArray × (List (S52)) × ByteArray × ByteArray × ByteArray × Int × Int × Bool × Int × Int × Int × List Int × Bool) := (packet_Reader_Text.f k s0_0 s0_1 32).bind fun bt203 => ((packet_Reader_Number.f k bt203.2.1 bt203.2.2 8).bind fun bt206 => (order_Take.l0 k bt206.1 0 bt206.2.1 bt206.2.2 bt203.1 ([] : List (S52)) ⟨#[]⟩ ⟨#[]⟩ ⟨#[]⟩ 0 0 false 0 0))
theorem order_Take.mono_l : ∀ k, (∀ y0 y1 y2 y3 y4 y5 y6 y7 y8 y9 y10 y11 y12 y13, LeO (order_Take.l0 k y0 y1 y2 y3 y4 y5 y6 y7 y8 y9 y10 y11 y12 y13) (order_Take.l0 (k + 1) y0 y1 y2 y3 y4 y5 y6 y7 y8 y9 y10 y11 y12 y13))
 | 0 => fun _ _ _ _ _ _ _ _ _ _ _ _ _ _ r h => by simp [order_Take.l0] at h
 | k + 1 => by
  have ih0 := order_Take.mono_l k
  ·intro y0 y1 y2 y3 y4 y5 y6 y7 y8 y9 y10 y11 y12 y13
   unfold order_Take.l0
   repeat' first
   | (with_reducible exact ih0 _ _ _ _ _ _ _ _ _ _ _ _ _ _)
   | (with_reducible exact order_Right.mono _ _ _ _ _ _ _ _ _ _ _)
   | (with_reducible exact packet_Reader_Number.mono _ _ _ _)
   | (with_reducible exact packet_Reader_Text.mono _ _ _ _)
   | (with_reducible exact LeO.refl _)
   | (with_reducible exact LeO.none _)
   | (with_reducible refine LeO.ite ?_ ?_)
   | (with_reducible refine LeO.bind ?_ (fun _ => ?_))
   | exact ih0 _ _ _ _ _ _ _ _ _ _ _ _ _ _
   | exact order_Right.mono _ _ _ _ _ _ _ _ _ _ _
   | exact packet_Reader_Number.mono _ _ _ _
   | exact packet_Reader_Text.mono _ _ _ _
   | exact LeO.none _
   | refine LeO.ite ?_ ?_
   | refine LeO.bind ?_ (fun _ => ?_)
theorem order_Take.mono : ∀ a0 a1 k, LeO (order_Take.f k a0 a1) (order_Take.f (k + 1) a0 a1) := by
 intro a0 a1 k; have ih0 := order_Take.mono_l k
 unfold order_Take.f
 repeat' first
   | (with_reducible exact ih0 _ _ _ _ _ _ _ _ _ _ _ _ _ _)
   | (with_reducible exact order_Right.mono _ _ _ _ _ _ _ _ _ _ _)
   | (with_reducible exact packet_Reader_Number.mono _ _ _ _)
   | (with_reducible exact packet_Reader_Text.mono _ _ _ _)
   | (with_reducible exact LeO.refl _)
   | (with_reducible exact LeO.none _)
   | (with_reducible refine LeO.ite ?_ ?_)
   | (with_reducible refine LeO.bind ?_ (fun _ => ?_))
   | exact ih0 _ _ _ _ _ _ _ _ _ _ _ _ _ _
   | exact order_Right.mono _ _ _ _ _ _ _ _ _ _ _
   | exact packet_Reader_Number.mono _ _ _ _
   | exact packet_Reader_Text.mono _ _ _ _
   | exact LeO.none _
   | refine LeO.ite ?_ ?_
   | refine LeO.bind ?_ (fun _ => ?_)
def order_Take.T5 : Bool × List (List Nat × List Nat) := (true, [([], []), ([0], [0]), ([], []), ([2], [2]), ([], []), ([4, 3], [4]), ([5], [5]), ([], []), ([7, 5], [7]), ([8], [8]), ([3, 6, 9], [3, 6, 9]), ([10], [10]), ([1, 11, 8], [1, 11]), ([0, 1, 2, 3, 4, 5, 6, 7, 8, 9, 10, 11, 12], []), ([13, 12, 12, 0, 1, 2, 3, 4, 5, 6, 7, 8, 9, 10, 11, 12], [12, 13])])
def order_Take.B5 : List Nat := [0, 1, 0, 4, 0, 28, 60, 0, 188, 444, 1020, 2044, 4095, 8191, 16383]
theorem order_Take.tab5 : rtab .any (opsOf Tryd.f16 5) = order_Take.T5 := by kernel_rfl
theorem order_Take.bits5 : waitsOk order_Take.T5.2 order_Take.B5 = true := by kernel_rfl
set_option maxHeartbeats 8000000 in
set_option maxRecDepth 100000 in
theorem order_Take.calls (k : Nat) (g : Nat) (s0_0 : List Int) (s0_1 : Bool) (r1 : ByteArray) (r2 : List (S52)) (r3 : ByteArray) (r4 : ByteArray) (r5 : ByteArray) (r6 : Int) (r7 : Int) (r8 : Bool) (r9 : Int) (r10 : Int) (r11 : Int) (r12 : List Int) (r13 : Bool) (w0 w : World) (hI : IsS72 w0 w g s0_0 s0_1) (hB : Below w0.heap.size w0 w) (hT : Tabs w0) (h : order_Take.f k s0_0 s0_1 = some (r1, r2, r3, r4, r5, r6, r7, r8, r9, r10, r11, r12, r13)) :
  Calls Tryd.prog 16 #[.pointer (some ⟨g, 0, none⟩)] w fun e w' => ∃ v1_ : Value, e = .returned (.tuple #[.agg #[.string r1, v1_, .string r3, .string r4, .string r5, .int .i64 r6, .int .i64 r7, .bool r8, .int .i64 r9, .int .i64 r10], .int .i64 r11]) ∧ Kd.R k52 52 w' w.heap.size (fun _ => True) v1_ r2 ∧ IsS72 w0 w' g r12 r13 ∧ Below w0.heap.size w0 w' ∧ KeepBut w w' g none := by
 have hu28 := Tryd.underlying28; have hu52 := Tryd.underlying52; have hu24 := Tryd.underlying24; have hu26 := Tryd.underlying26; have HT := am hT; clear hT; have HI0 := am hI; have HK := am (KeepBut.refl w g none); have HL := am hB.size; clear hI; have HW0 := am hB.size; have HB := am hB; clear hB; have H : ((packet_Reader_Text.f k s0_0 s0_1 32).bind fun bt203 => ((packet_Reader_Number.f k bt203.2.1 bt203.2.2 8).bind fun bt206 => (order_Take.l0 k bt206.1 0 bt206.2.1 bt206.2.2 bt203.1 ([] : List (S52)) ⟨#[]⟩ ⟨#[]⟩ ⟨#[]⟩ 0 0 false 0 0))) = some (r1, r2, r3, r4, r5, r6, r7, r8, r9, r10, r11, r12, r13) := h; clear h; replace H := obm H; obtain ⟨⟨t203, t204, t205⟩, A20, H⟩ := H; replace H : ((packet_Reader_Number.f k t204 t205 8).bind fun bt206 => (order_Take.l0 k bt206.1 0 bt206.2.1 bt206.2.2 t203 ([] : List (S52)) ⟨#[]⟩ ⟨#[]⟩ ⟨#[]⟩ 0 0 false 0 0)) = some (r1, r2, r3, r4, r5, r6, r7, r8, r9, r10, r11, r12, r13) := H; have A2 := am A20; clear A20; replace H := obm H; obtain ⟨⟨t206, t207, t208⟩, A30, H⟩ := H; replace H : (order_Take.l0 k t206 0 t207 t208 t203 ([] : List (S52)) ⟨#[]⟩ ⟨#[]⟩ ⟨#[]⟩ 0 0 false 0 0) = some (r1, r2, r3, r4, r5, r6, r7, r8, r9, r10, r11, r12, r13) := H; have A3 := am A30; clear A30; have H' := am H; clear H
 go_enter Tryd.func16, Tryd.ntmps16
 go_wp2_with (first | ((with_reducible refine gate_dst (N := 2) rfl ?_); refine box_event ?hg (N := 2) ?hd (cs := #[.string ⟨#[]⟩, .slice none 0 0, .string ⟨#[]⟩, .string ⟨#[]⟩, .string ⟨#[]⟩, .int .i64 0, .int .i64 0, .bool false, .int .i64 0, .int .i64 0]) (t := 28) ?hr ?_; (case hd => rfl); (case hg => rfl); (case hr => first | (go_simp; done) | (go_simp; rfl)); intro gb201 hg w4 hbox hb; have _ := am (IsS72.below (IsS72.u HI0.out) hb); have _ := am (KeepBut.trans (ku HK.out) (KeepBut.of_below hb g none) (.inl rfl)); have _ := am (below_step (beg (IsS72.ge HI0.out) HB.out) hb); have _ := am (hbox); have _ := am ((by rw [hg]; exact (keep_size (w := w) (g := g) (row := none) (ku HK.out)) : w.heap.size ≤ gb201)); have _ := am ((Nat.le_trans HW0.out (by rw [hg]; exact (keep_size (w := w) (g := g) (row := none) (ku HK.out)) : w.heap.size ≤ gb201) : w0.heap.size ≤ gb201)); have _ := am ((by rw [hg]; exact (IsS72.lt (show IsS72 w0 _ g s0_0 s0_1 from IsS72.u HI0.out)) : g < gb201)); have _ := am ((by rw [hg]; exact Nat.ne_of_lt (IsS72.lt (show IsS72 w0 _ g s0_0 s0_1 from IsS72.u HI0.out)) : g ≠ gb201)); have _ := am ((by rw [hg]; exact Nat.ne_of_gt (IsS72.lt (show IsS72 w0 _ g s0_0 s0_1 from IsS72.u HI0.out)) : gb201 ≠ g)); clear HI0 HK HB; rename_i HI0 HK HB BK201 GW201 GE201 NG0_201 NB0_201 NB201_0; clear hb hbox hg) | ((with_reducible refine gate_dst (N := 4) rfl ?_); refine box_event ?hg (N := 4) ?hd (cs := #[.string ⟨#[]⟩, .slice none 0 0, .string ⟨#[]⟩, .string ⟨#[]⟩, .string ⟨#[]⟩, .int .i64 0, .int .i64 0, .bool false, .int .i64 0, .int .i64 0]) (t := 28) ?hr ?_; (case hd => rfl); (case hg => rfl); (case hr => first | (go_simp; done) | (go_simp; rfl)); intro gb202 hg w5 hbox hb; have _ := am (IsS72.below (IsS72.u HI0.out) hb); have _ := am (blk_below (bu BK201.out) hb); have _ := am (KeepBut.trans (ku HK.out) (KeepBut.of_below hb g none) (.inl rfl)); have _ := am (below_step (beg (IsS72.ge HI0.out) HB.out) hb); have _ := am (hbox); have _ := am ((by rw [hg]; exact (keep_size (w := w) (g := g) (row := none) (ku HK.out)) : w.heap.size ≤ gb202)); have _ := am ((Nat.le_trans HW0.out (by rw [hg]; exact (keep_size (w := w) (g := g) (row := none) (ku HK.out)) : w.heap.size ≤ gb202) : w0.heap.size ≤ gb202)); have _ := am (nb1 hg BK201.out : gb201 ≠ gb202); have _ := am (nb2 hg BK201.out : gb202 ≠ gb201); have _ := am ((by rw [hg]; exact (IsS72.lt (show IsS72 w0 _ g s0_0 s0_1 from IsS72.u HI0.out)) : g < gb202)); have _ := am ((by rw [hg]; exact Nat.ne_of_lt (IsS72.lt (show IsS72 w0 _ g s0_0 s0_1 from IsS72.u HI0.out)) : g ≠ gb202)); have _ := am ((by rw [hg]; exact Nat.ne_of_gt (IsS72.lt (show IsS72 w0 _ g s0_0 s0_1 from IsS72.u HI0.out)) : gb202 ≠ g)); clear HI0 BK201 HK HB; rename_i HI0 BK201 HK HB BK202 GW202 GE202 NB201_202 NB202_201 NG0_202 NB0_202 NB202_0; clear hb hbox hg) | ((with_reducible refine gate_callee (f := 43) rfl ?_); refine goesL_ (some 6) rfl rfl Tryd.func43 (by kernel_rfl) rfl #[.pointer (some ⟨g, 0, none⟩), .int .i64 32] rfl ap1 ?_; (with_reducible refine (packet_Reader_Text.calls k g s0_0 s0_1 32 t203 t204 t205 w0 _ ?side1 ?side2 A2.out).mono ?_); (case side1 => exact IsS72.u HI0.out); (case side2 => exact beg (IsS72.ge HI0.out) HB.out); rintro e w6 ⟨rfl, hi, hb, hk⟩; refine ⟨_, rfl, ?_⟩; have _ := am (KeepBut.blk hk (bu BK201.out) NB201_0.out (by simp)); have _ := am (KeepBut.blk hk (bu BK202.out) NB202_0.out (by simp)); have _ := am (KeepBut.trans (ku HK.out) hk (.inl rfl)); have _ := am (hb); have _ := am (hi); clear BK201 BK202 HK HB HI0; rename_i BK201 BK202 HK HB HI0; (try clear hb hk hi); have := NB202_201.out; have := NB201_202.out; have := NB202_0.out; have := NB0_202.out; obtain ⟨hcz9_0, hcz9_1, hcz9_2, hcz9_3, hcz9_4, hcz9_5, hcz9_6, hcz9_7, hcz9_8, hcz9_9⟩ := cells10 BK202.out; obtain ⟨hfz9_0, hfz9_1, hfz9_2, hfz9_3, hfz9_4, hfz9_5, hfz9_6, hfz9_7, hfz9_8, hfz9_9⟩ := frozens10 BK202.out) | ((with_reducible refine gate_callee (f := 19) rfl ?_); refine goesL_ (some 9) rfl rfl Tryd.func19 (by kernel_rfl) rfl #[.pointer (some ⟨g, 0, none⟩), .int .u64 8] rfl ap1 ?_; (with_reducible refine (packet_Reader_Number.calls k g t204 t205 8 t206 t207 t208 w0 _ ?side1 ?side2 A3.out).mono ?_); (case side1 => exact IsS72.u HI0.out); (case side2 => exact beg (IsS72.ge HI0.out) HB.out); rintro e w10 ⟨rfl, hi, hb, hk⟩; refine ⟨_, rfl, ?_⟩; have _ := am (KeepBut.blk hk (g' := gb201) (o := .cells #[.string ⟨#[]⟩, .slice none 0 0, .string ⟨#[]⟩, .string ⟨#[]⟩, .string ⟨#[]⟩, .int .i64 0, .int .i64 0, .bool false, .int .i64 0, .int .i64 0] 28 (0, 0)) (bf BK201.out) NB201_0.out (by simp)); have _ := am (KeepBut.blk hk (g' := gb202) (o := .cells #[.string t203, .slice none 0 0, .string ⟨#[]⟩, .string ⟨#[]⟩, .string ⟨#[]⟩, .int .i64 0, .int .i64 0, .bool false, .int .i64 0, .int .i64 0] 28 (0, 0)) (by refine bu ?_; refine blk_put (cs := #[.string ⟨#[]⟩, .slice none 0 0, .string ⟨#[]⟩, .string ⟨#[]⟩, .string ⟨#[]⟩, .int .i64 0, .int .i64 0, .bool false, .int .i64 0, .int .i64 0]) ?_ 0 _ rfl; refine bu ?_; exact BK202.out) NB202_0.out (by simp)); have _ := am (KeepBut.trans (ku HK.out) hk (.inl rfl)); have _ := am (hb); have _ := am (hi); clear BK201 BK202 HK HB HI0; rename_i BK201 BK202 HK HB HI0; (try clear hb hk hi)))
 go_loopg [10] k (fun kq v10 w' => ∃ (x10_1 : Int) (x1000_1 : List Int) (x1001_1 : Bool) (X1_1 : List (S52)) (u203001 : Value), v10 = .int .u64 x10_1 ∧ Aside0 (order_Take.l0 kq t206 x10_1 x1000_1 x1001_1 t203 X1_1 ⟨#[]⟩ ⟨#[]⟩ ⟨#[]⟩ 0 0 false 0 0 = some (r1, r2, r3, r4, r5, r6, r7, r8, r9, r10, r11, r12, r13)) ∧ Aside0 (kq ≤ k) ∧ Aside0 (Kd.R k52 52 w' w.heap.size (fun _ => True) u203001 X1_1) ∧ Aside0 (w'.heap[gb201]? = some (.cells #[.string ⟨#[]⟩, (.slice none 0 0), .string ⟨#[]⟩, .string ⟨#[]⟩, .string ⟨#[]⟩, .int .i64 0, .int .i64 0, .bool false, .int .i64 0, .int .i64 0] 28 (0, 0))) ∧ Aside0 (w'.heap[gb202]? = some (.cells #[.string t203, u203001, .string ⟨#[]⟩, .string ⟨#[]⟩, .string ⟨#[]⟩, .int .i64 0, .int .i64 0, .bool false, .int .i64 0, .int .i64 0] 28 (0, 0))) ∧ Aside0 (IsS72 w0 w' g x1000_1 x1001_1) ∧ Aside0 (KeepBut w w' g none) ∧ Aside0 (Below w0.heap.size w0 w'))
 case atStart => exact ⟨(0), (t207), (t208), (([] : List (S52))), (.slice none 0 0), ap3, H', ⟨Nat.le_refl _⟩, ⟨by first | exact Kd.R_nil _ _ _ _ _ | exact Kd.N_nil _ _ _ _ _ | exact Kd.V_nil _ _ _ _ _ | exact Kd.Q_nil _ _ _ _ _ | exact Kd.S_nil _ _ _ _ _⟩, ⟨by refine bu ?_; exact BK201.out⟩, ⟨by refine bu ?_; exact BK202.out⟩, ⟨IsS72.u HI0.out⟩, ⟨ku HK.out⟩, ⟨beg (IsS72.ge HI0.out) HB.out⟩⟩
 case round =>
  clear H'; (try clear c1); (try clear p2); (try clear c4); (try clear c7); (try clear c8); (try clear hcz9_0); (try clear hcz9_1); (try clear hcz9_2); (try clear hcz9_3); (try clear hcz9_4); (try clear hcz9_5); (try clear hcz9_6); (try clear hcz9_7); (try clear hcz9_8); (try clear hcz9_9); (try clear hfz9_0); (try clear hfz9_1); (try clear hfz9_2); (try clear hfz9_3); (try clear hfz9_4); (try clear hfz9_5); (try clear hfz9_6); (try clear hfz9_7); (try clear hfz9_8); (try clear hfz9_9); obtain ⟨x10_1, x1000_1, x1001_1, X1_1, u203001, rfl, HA, HK1, HO_203001, BK201, BK202, HI0, HK, HB⟩ := hrel
  cases gk with
  | zero => exact absurd HA.out (by simp [order_Take.l0])
  | succ k1 =>
   have H := HA.out; clear HA; simp only [order_Take.l0] at H
   by_cases c11 : x10_1 < t206
   ·rw [if_pos c11] at H
    have c11b0 : decide (x10_1 < t206) = true := decide_eq_true c11; clear c11; replace H := obm H; obtain ⟨⟨t209, t210, t211⟩, A120, H⟩ := H; replace H : ((packet_Reader_Number.f k1 t210 t211 1000).bind fun bt212 => ((packet_Reader_Number.f k1 bt212.2.1 bt212.2.2 100000).bind fun bt215 => (if X1_1.length < 4398046511104 then (order_Take.l0 k1 t206 (IntKind.u64.wrap (x10_1 + 1)) bt215.2.1 bt215.2.2 t203 (X1_1 ++ [(⟨t209, wrap64 (bt212.1), wrap64 (bt215.1)⟩ : S52)]) ⟨#[]⟩ ⟨#[]⟩ ⟨#[]⟩ 0 0 false 0 0) else (none)))) = some (r1, r2, r3, r4, r5, r6, r7, r8, r9, r10, r11, r12, r13) := H; have A12 := am A120; clear A120; replace H := obm H; obtain ⟨⟨t212, t213, t214⟩, A130, H⟩ := H; replace H : ((packet_Reader_Number.f k1 t213 t214 100000).bind fun bt215 => (if X1_1.length < 4398046511104 then (order_Take.l0 k1 t206 (IntKind.u64.wrap (x10_1 + 1)) bt215.2.1 bt215.2.2 t203 (X1_1 ++ [(⟨t209, wrap64 (t212), wrap64 (bt215.1)⟩ : S52)]) ⟨#[]⟩ ⟨#[]⟩ ⟨#[]⟩ 0 0 false 0 0) else (none))) = some (r1, r2, r3, r4, r5, r6, r7, r8, r9, r10, r11, r12, r13) := H; have A13 := am A130; clear A130; replace H := obm H; obtain ⟨⟨t215, t216, t217⟩, A140, H⟩ := H; replace H : (if X1_1.length < 4398046511104 then (order_Take.l0 k1 t206 (IntKind.u64.wrap (x10_1 + 1)) t216 t217 t203 (X1_1 ++ [(⟨t209, wrap64 (t212), wrap64 (t215)⟩ : S52)]) ⟨#[]⟩ ⟨#[]⟩ ⟨#[]⟩ 0 0 false 0 0) else (none)) = some (r1, r2, r3, r4, r5, r6, r7, r8, r9, r10, r11, r12, r13) := H; have A14 := am A140; clear A140
    by_cases c15 : X1_1.length < 4398046511104
    ·rw [if_pos c15] at H
     have LMc15 := am c15; clear c15; obtain ⟨y218, hy218⟩ : ∃ y_ : List (S52), y_ = (X1_1 ++ [(⟨t209, wrap64 (t212), wrap64 (t215)⟩ : S52)]) := ⟨_, rfl⟩
     replace H : (order_Take.l0 k1 t206 (IntKind.u64.wrap (x10_1 + 1)) t216 t217 t203 y218 ⟨#[]⟩ ⟨#[]⟩ ⟨#[]⟩ 0 0 false 0 0) = some (r1, r2, r3, r4, r5, r6, r7, r8, r9, r10, r11, r12, r13) := by first | (rw [hy218]; with_reducible exact H) | (have H2_ := (Option.bind_some _ _).symm.trans H; rw [hy218]; with_reducible exact H2_) | (have H2_ := (Option.bind_some _ _).symm.trans H; with_reducible exact H2_) | with_reducible exact H | (rw [hy218]; exact H) | exact H
     have Ny218 := am hy218; clear hy218; have H' := am H; clear H
     try go_wp2
     (try (rw [drewN_self wr]; generalize hq_ : World.drewN wr _ = wr; have _ := am (show Kd.R _ _ wr _ _ _ _ from by rw [← hq_]; exact Kd.R_drewN HO_203001.out _); have _ := am (blk_at hq_ BK201.out); have _ := am (blk_at hq_ BK202.out); have _ := am (IsS72.at_ hq_ HI0.out); clear hq_ HO_203001 BK201 BK202 HI0; rename_i HO_203001 BK201 BK202 HI0))
     have n0_ := am (Kd.R_drew HO_203001.out); have n1_ := am (blk_drew BK201.out); have n2_ := am (blk_drew BK202.out); have n3_ := am (IsS72.drew HI0.out); have n4_ := am (keep_drew HK.out); have n5_ := am (below_drew1 HB.out); clear HO_203001 BK201 BK202 HI0 HK HB; have HO_203001 := n0_; have BK201 := n1_; have BK202 := n2_; have HI0 := n3_; have HK := n4_; have HB := n5_; clear n0_ n1_ n2_ n3_ n4_ n5_
     refine start_ (n := 15) (S := fun w' => w'.cell? ⟨gb202, 0, none⟩ = some (.string t203) ∧ w'.cell? ⟨gb202, 1, none⟩ = some (u203001) ∧ w'.cell? ⟨gb202, 2, none⟩ = some (.string ⟨#[]⟩) ∧ w'.cell? ⟨gb202, 3, none⟩ = some (.string ⟨#[]⟩) ∧ w'.cell? ⟨gb202, 4, none⟩ = some (.string ⟨#[]⟩) ∧ w'.cell? ⟨gb202, 5, none⟩ = some (.int .i64 0) ∧ w'.cell? ⟨gb202, 6, none⟩ = some (.int .i64 0) ∧ w'.cell? ⟨gb202, 7, none⟩ = some (.bool false) ∧ w'.cell? ⟨gb202, 8, none⟩ = some (.int .i64 0) ∧ w'.cell? ⟨gb202, 9, none⟩ = some (.int .i64 0)) (ds := [14]) #[false, false, false, false, false, false, false, false, false, false, false, false, false, false, false] (by kernel_rfl) rfl rfl ⟨(blk_cell BK202.out 0).trans rfl, (blk_cell BK202.out 1).trans rfl, (blk_cell BK202.out 2).trans rfl, (blk_cell BK202.out 3).trans rfl, (blk_cell BK202.out 4).trans rfl, (blk_cell BK202.out 5).trans rfl, (blk_cell BK202.out 6).trans rfl, (blk_cell BK202.out 7).trans rfl, (blk_cell BK202.out 8).trans rfl, (blk_cell BK202.out 9).trans rfl⟩ (fun hHeld => ?_); refine with_tabW order_Take.tab5 order_Take.bits5 (fun HT_ HW_ => ?_)
     generalize wr.drew = w16 at HO_203001 BK201 BK202 HI0 HK HB hHeld ⊢; refine pure_ (i := 0) (N := some 12) (v := ?_) (a' := ?_) (bs 15 1) rfl rfl (ak HT_.out) (fun _ _ _ h => h) (Or.inl ⟨by rfl, ?_⟩) ?_ ?_; rotate_left
     ·intro w'
      go_simp
      (with_reducible rfl)
     rotate_left
     ·simp only [Act.put, sA, sB, sC, i64_w, i32_w]
      rfl
     refine pure_ (i := 2) (N := some 14) (v := ?_) (a' := ?_) (bs 15 5) rfl rfl (ak HT_.out) (fun _ _ _ h => h) (Or.inl ⟨by rfl, ?_⟩) ?_ ?_; rotate_left
     ·intro w'
      go_simp
      (with_reducible rfl)
     rotate_left
     ·simp only [Act.put, sA, sB, sC, i64_w, i32_w]
      rfl
     refine pure_ (i := 4) (N := some 16) (v := ?_) (a' := ?_) (bs 15 21) rfl rfl (ak HT_.out) (fun _ _ _ h => h) (Or.inl ⟨by rfl, ?_⟩) ?_ ?_; rotate_left
     ·intro w'
      go_simp
      (with_reducible rfl)
     rotate_left
     ·simp only [Act.put, sA, sB, sC, i64_w, i32_w]
      rfl
     refine pure_ (i := 7) (N := some 19) (v := ?_) (a' := ?_) (bs 15 149) rfl rfl (ak HT_.out) (fun _ _ _ h => h) (Or.inl ⟨by rfl, ?_⟩) ?_ ?_; rotate_left
     ·intro w'
      go_simp
      (with_reducible rfl)
     rotate_left
     ·simp only [Act.put, sA, sB, sC, i64_w, i32_w]
      rfl
     refine take_ (i := 1) (N := some 13) (v := ?_) (a' := ?_) (bs 15 151) rfl rfl (take_ofW HT_.out HW_.out (by kernel_rfl)) (fun _ _ _ h => h) (Or.inl ⟨by rfl, ?_⟩) hHeld ?_ ?_; rotate_left
     ·rintro w' ⟨s0, s1, s2, s3, s4, s5, s6, s7, s8, s9⟩
      go_simp
      (with_reducible rfl)
     rotate_left
     ·simp only [Act.put, sA, sB, sC, i64_w, i32_w]
      rfl
     refine one_ (i := 3) (N := some 15) (bs 15 159) rfl rfl (one_of HT_.out (by kernel_rfl)) (by decide) (fun K hK => ?_); refine goes_ Tryd.func43 (by kernel_rfl) rfl #[.pointer (some ⟨g, 0, none⟩), .int .i64 32] (by rfl) rfl rfl ap1 ?_; (with_reducible refine (packet_Reader_Text.calls k1 g x1000_1 x1001_1 32 t209 t210 t211 w0 _ ?side1 ?side2 A12.out).mono ?_)
     (case side1 => exact IsS72.u HI0.out)
     (case side2 => exact beg (IsS72.ge HI0.out) HB.out)
     rintro e w17 ⟨rfl, hi, hb, hk⟩; refine ⟨_, rfl, ?_⟩; have n0_ := am (Kd.R_mono (Kd.R_keep (IsS72.apart (show IsS72 w0 _ g x1000_1 x1001_1 from IsS72.u HI0.out) (ru HO_203001.out) (by decide)) hk (fun _ h => h.2)) (fun _ h => h.1)); have n1_ := am (KeepBut.blk hk (bu BK201.out) NB201_0.out (by simp)); have n2_ := am (KeepBut.blk hk (bu BK202.out) NB202_0.out (by simp)); have n3_ := am (KeepBut.trans (ku HK.out) hk (.inl rfl)); have n4_ := am (hb); have n5_ := am (hi); clear HO_203001 BK201 BK202 HK HB HI0; have HO_203001 := n0_; have BK201 := n1_; have BK202 := n2_; have HK := n3_; have HB := n4_; have HI0 := n5_; clear n0_ n1_ n2_ n3_ n4_ n5_
     (try clear hb)
     (try clear hb2)
     (try clear hk)
     (try clear hi)
     refine hK.out _ _ ⟨(blk_cell BK202.out 0).trans rfl, (blk_cell BK202.out 1).trans rfl, (blk_cell BK202.out 2).trans rfl, (blk_cell BK202.out 3).trans rfl, (blk_cell BK202.out 4).trans rfl, (blk_cell BK202.out 5).trans rfl, (blk_cell BK202.out 6).trans rfl, (blk_cell BK202.out 7).trans rfl, (blk_cell BK202.out 8).trans rfl, (blk_cell BK202.out 9).trans rfl⟩ (fun hHeld => ?_); clear hK K; refine norm_ (a' := ?_) ?_ ?_; rotate_left
     ·show Act.put _ (some 15) _ = _
      simp only [Act.put, sA, sB, sC, i64_w, i32_w]
      rfl
     refine one_ (i := 5) (N := some 17) (bs 15 191) rfl rfl (one_of HT_.out (by kernel_rfl)) (by decide) (fun K hK => ?_); refine goes_ Tryd.func19 (by kernel_rfl) rfl #[.pointer (some ⟨g, 0, none⟩), .int .u64 1000] (by rfl) rfl rfl ap1 ?_; (with_reducible refine (packet_Reader_Number.calls k1 g t210 t211 1000 t212 t213 t214 w0 _ ?side1 ?side2 A13.out).mono ?_)
     (case side1 => exact IsS72.u HI0.out)
     (case side2 => exact beg (IsS72.ge HI0.out) HB.out)
     rintro e w18 ⟨rfl, hi, hb, hk⟩; refine ⟨_, rfl, ?_⟩; have n0_ := am (Kd.R_mono (Kd.R_keep (IsS72.apart (show IsS72 w0 _ g t210 t211 from IsS72.u HI0.out) (ru HO_203001.out) (by decide)) hk (fun _ h => h.2)) (fun _ h => h.1)); have n1_ := am (KeepBut.blk hk (bu BK201.out) NB201_0.out (by simp)); have n2_ := am (KeepBut.blk hk (bu BK202.out) NB202_0.out (by simp)); have n3_ := am (KeepBut.trans (ku HK.out) hk (.inl rfl)); have n4_ := am (hb); have n5_ := am (hi); clear HO_203001 BK201 BK202 HK HB HI0; have HO_203001 := n0_; have BK201 := n1_; have BK202 := n2_; have HK := n3_; have HB := n4_; have HI0 := n5_; clear n0_ n1_ n2_ n3_ n4_ n5_
     (try clear hb)
     (try clear hb2)
     (try clear hk)
     (try clear hi)
     refine hK.out _ _ ⟨(blk_cell BK202.out 0).trans rfl, (blk_cell BK202.out 1).trans rfl, (blk_cell BK202.out 2).trans rfl, (blk_cell BK202.out 3).trans rfl, (blk_cell BK202.out 4).trans rfl, (blk_cell BK202.out 5).trans rfl, (blk_cell BK202.out 6).trans rfl, (blk_cell BK202.out 7).trans rfl, (blk_cell BK202.out 8).trans rfl, (blk_cell BK202.out 9).trans rfl⟩ (fun hHeld => ?_); clear hK K; refine norm_ (a' := ?_) ?_ ?_; rotate_left
     ·show Act.put _ (some 17) _ = _
      simp only [Act.put, sA, sB, sC, i64_w, i32_w]
      rfl
     refine pure_ (i := 6) (N := some 18) (v := ?_) (a' := ?_) (bs 15 255) rfl rfl (ak HT_.out) (fun _ _ _ h => h) (Or.inl ⟨by rfl, ?_⟩) ?_ ?_; rotate_left
     ·intro w'
      go_simp
      (with_reducible rfl)
     rotate_left
     ·simp only [Act.put, sA, sB, sC, i64_w, i32_w]
      rfl
     refine one_ (i := 8) (N := some 20) (bs 15 511) rfl rfl (one_of HT_.out (by kernel_rfl)) (by decide) (fun K hK => ?_); refine goes_ Tryd.func19 (by kernel_rfl) rfl #[.pointer (some ⟨g, 0, none⟩), .int .u64 100000] (by rfl) rfl rfl ap1 ?_; (with_reducible refine (packet_Reader_Number.calls k1 g t213 t214 100000 t215 t216 t217 w0 _ ?side1 ?side2 A14.out).mono ?_)
     (case side1 => exact IsS72.u HI0.out)
     (case side2 => exact beg (IsS72.ge HI0.out) HB.out)
     rintro e w19 ⟨rfl, hi, hb, hk⟩; refine ⟨_, rfl, ?_⟩; have n0_ := am (Kd.R_mono (Kd.R_keep (IsS72.apart (show IsS72 w0 _ g t213 t214 from IsS72.u HI0.out) (ru HO_203001.out) (by decide)) hk (fun _ h => h.2)) (fun _ h => h.1)); have n1_ := am (KeepBut.blk hk (bu BK201.out) NB201_0.out (by simp)); have n2_ := am (KeepBut.blk hk (bu BK202.out) NB202_0.out (by simp)); have n3_ := am (KeepBut.trans (ku HK.out) hk (.inl rfl)); have n4_ := am (hb); have n5_ := am (hi); clear HO_203001 BK201 BK202 HK HB HI0; have HO_203001 := n0_; have BK201 := n1_; have BK202 := n2_; have HK := n3_; have HB := n4_; have HI0 := n5_; clear n0_ n1_ n2_ n3_ n4_ n5_
     (try clear hb)
     (try clear hb2)
     (try clear hk)
     (try clear hi)
     refine hK.out _ _ ⟨(blk_cell BK202.out 0).trans rfl, (blk_cell BK202.out 1).trans rfl, (blk_cell BK202.out 2).trans rfl, (blk_cell BK202.out 3).trans rfl, (blk_cell BK202.out 4).trans rfl, (blk_cell BK202.out 5).trans rfl, (blk_cell BK202.out 6).trans rfl, (blk_cell BK202.out 7).trans rfl, (blk_cell BK202.out 8).trans rfl, (blk_cell BK202.out 9).trans rfl⟩ (fun hHeld => ?_); clear hK K; refine norm_ (a' := ?_) ?_ ?_; rotate_left
     ·show Act.put _ (some 20) _ = _
      simp only [Act.put, sA, sB, sC, i64_w, i32_w]
      rfl
     refine pure_ (i := 9) (N := some 21) (v := ?_) (a' := ?_) (bs 15 1023) rfl rfl (ak HT_.out) (fun _ _ _ h => h) (Or.inl ⟨by rfl, ?_⟩) ?_ ?_; rotate_left
     ·intro w'
      go_simp
      (with_reducible rfl)
     rotate_left
     ·simp only [Act.put, sA, sB, sC, i64_w, i32_w]
      rfl
     refine pure_ (i := 10) (N := some 22) (v := ?_) (a' := ?_) (bs 15 2047) rfl rfl (ak HT_.out) (fun _ _ _ h => h) (Or.inl ⟨by rfl, ?_⟩) ?_ ?_; rotate_left
     ·intro w'
      go_simp
      (with_reducible rfl)
     rotate_left
     ·simp only [Act.put, sA, sB, sC, i64_w, i32_w]
      rfl
     refine one_ (i := 11) (N := some 23) (bs 15 4095) rfl rfl (one_of HT_.out (by kernel_rfl)) (by decide) (fun K hK => ?_); refine value_ (w1 := ?_) (v := ?_) (by rfl) rfl ?_ ?_; rotate_left 2
     ·go_simp
      constructor
      ·rfl
      ·rfl
     refine hK.out _ _ ⟨(blk_cell (blk_alloc BK202.out _) 0).trans rfl, (blk_cell (blk_alloc BK202.out _) 1).trans rfl, (blk_cell (blk_alloc BK202.out _) 2).trans rfl, (blk_cell (blk_alloc BK202.out _) 3).trans rfl, (blk_cell (blk_alloc BK202.out _) 4).trans rfl, (blk_cell (blk_alloc BK202.out _) 5).trans rfl, (blk_cell (blk_alloc BK202.out _) 6).trans rfl, (blk_cell (blk_alloc BK202.out _) 7).trans rfl, (blk_cell (blk_alloc BK202.out _) 8).trans rfl, (blk_cell (blk_alloc BK202.out _) 9).trans rfl⟩ (fun hHeld => ?_); clear hK K; refine norm_ (a' := ?_) ?_ ?_; rotate_left
     ·show Act.put _ (some 23) _ = _
      simp only [Act.put, sA, sB, sC, i64_w, i32_w]
      rfl
     refine one_ (i := 12) (N := some 24) (bs 15 8191) rfl rfl (one_of HT_.out (by kernel_rfl)) (by decide) (fun K hK => ?_); refine Kd.R_append_step k52 w.heap.size (by rfl) (.tmp 13) (.tmp 23) 22 52 (.agg #[(.string ⟨#[]⟩), (.int .i64 0), (.int .i64 0)]) 32 rfl Tryd.underlying22 info52 rfl (by decide) (by omega) u203001 X1_1 (⟨t209, wrap64 (t212), wrap64 (t215)⟩ : S52) [.string t209, .int .i64 (wrap64 (t212)), .int .i64 (wrap64 (t215))] (fun _ => True) (fun _ => False) rfl rfl ?aP (fun _ hk => hk.elim) ?aF ?aO (Below.refl _ _) ?aS ?aL ?_
     (case aP => exact k52_mkM _ _ _ (⟨t209, wrap64 (t212), wrap64 (t215)⟩ : S52))
     (case aF => exact (fun _ _ => trivial))
     (case aO => exact (ru HO_203001.out))
     (case aS => exact (keep_size (w := w) (g := g) (row := none) (ku HK.out)))
     (case aL => have := LMc15.out; omega)
     intro v219 w20 ho hb hg hat; rw [← Ny218.out] at ho; have n0_ := am (blk_grown (bu BK201.out) hg (Kd.R_ne HO_203001.out BK201.out (by decide))); have n1_ := am (blk_grown (bu BK202.out) hg (Kd.R_ne HO_203001.out BK202.out (by decide))); have n2_ := am (IsS72.grown (IsS72.u HI0.out) hg (IsS72.own_ne HI0.out HO_203001.out (by decide))); have n3_ := am (below_weaken (beg (IsS72.ge HI0.out) HB.out) HL.out hb); have n4_ := am (KeepBut.trans (ku HK.out) (KeepBut.of_grown hg g) (Kd.R_base2 HO_203001.out)); have n5_ := am (ho); clear BK201 BK202 HI0 HB HK HO_203001; have BK201 := n0_; have BK202 := n1_; have HI0 := n2_; have HB := n3_; have HK := n4_; have HO220 := n5_; clear n0_ n1_ n2_ n3_ n4_ n5_ ho hb hg hat; obtain ⟨Ao21, co21, eo21⟩ := Kd.R_slice HO220.out
     (first | subst eo21 | (injection eo21 with f1_ f2_ f3_; have f4_ := f1_.symm; have f5_ := f3_.symm; clear f1_ f2_ f3_; subst f4_; subst f5_))
     refine hK.out _ _ ⟨(blk_cell BK202.out 0).trans rfl, (blk_cell BK202.out 1).trans rfl, (blk_cell BK202.out 2).trans rfl, (blk_cell BK202.out 3).trans rfl, (blk_cell BK202.out 4).trans rfl, (blk_cell BK202.out 5).trans rfl, (blk_cell BK202.out 6).trans rfl, (blk_cell BK202.out 7).trans rfl, (blk_cell BK202.out 8).trans rfl, (blk_cell BK202.out 9).trans rfl⟩ (fun hHeld => ?_); clear hK K; refine norm_ (a' := ?_) ?_ ?_; rotate_left
     ·show Act.put _ (some 24) _ = _
      simp only [Act.put, sA, sB, sC, i64_w, i32_w]
      rfl
     refine pure_ (i := 13) (N := some 25) (v := ?_) (a' := ?_) (bs 15 16383) rfl rfl (ak HT_.out) (fun _ _ _ h => h) (Or.inl ⟨by rfl, ?_⟩) ?_ ?_; rotate_left
     ·intro w'
      go_simp
      (with_reducible rfl)
     rotate_left
     ·simp only [Act.put, sA, sB, sC, i64_w, i32_w]
      rfl
     refine last_ (i := 14) (N := none) (bs 15 32767) rfl rfl (one_of HT_.out (by kernel_rfl)) (by decide) (fun K hK => ?_); have hs22 : w20.cell? ⟨gb202, 1, none⟩ = some (u203001) := (blk_cell BK202.out 1).trans rfl; have hfs22 := blk_frozen BK202.out 1; have hns22_0 := NB201_202.out; have hms22_0 := NB202_201.out; refine skip_ (w1 := ?_) (by rfl) rfl ?_ ?_; rotate_left
     ·go_simp
      rfl
     refine hK.out _ _ ?_; clear hK K; refine done_ (done_of HT_.out (by kernel_rfl)) ?_
     try go_wp2
     go_roundg k1
     case measure => have := HK1.out; omega
     case rel => exact ⟨(IntKind.u64.wrap (x10_1 + 1)), (t216), (t217), (y218), (.slice Ao21 y218.length co21), ap3, H', ⟨by have := HK1.out; omega⟩, ⟨ru (Kd.R_mono (rf gb202 1 (Kd.R_types HO220.out BK202.out (by decide)) (.slice Ao21 y218.length co21)) (fun _ hk => trivial))⟩, ⟨by refine bu ?_; refine blk_far ?_ NB201_202.out _; refine bu ?_; exact BK201.out⟩, ⟨by refine bu ?_; refine blk_put (cs := #[.string t203, u203001, .string ⟨#[]⟩, .string ⟨#[]⟩, .string ⟨#[]⟩, .int .i64 0, .int .i64 0, .bool false, .int .i64 0, .int .i64 0]) ?_ 1 _ rfl; refine bu ?_; exact BK202.out⟩, ⟨IsS72.u HI0.out⟩, ⟨ku HK.out⟩, ⟨beg (IsS72.ge HI0.out) HB.out⟩⟩
    ·rw [if_neg c15] at H
     exact absurd H (by simp)
   ·rw [if_neg c11] at H
    have c11b0 : decide (x10_1 < t206) = false := decide_eq_false c11; clear c11; replace H := obm H; obtain ⟨⟨t221, t222, t223⟩, A230, H⟩ := H; replace H : ((packet_Reader_Text.f k1 t222 t223 32).bind fun bt224 => ((packet_Reader_Text.f k1 bt224.2.1 bt224.2.2 32).bind fun bt227 => ((packet_Reader_Number.f k1 bt227.2.1 bt227.2.2 1000000000000).bind fun bt230 => ((packet_Reader_Number.f k1 bt230.2.1 bt230.2.2 12).bind fun bt233 => ((packet_Reader_Number.f k1 bt233.2.1 bt233.2.2 1).bind fun bt236 => ((packet_Reader_Number.f k1 bt236.2.1 bt236.2.2 1000000).bind fun bt239 => ((packet_Reader_Number.f k1 bt239.2.1 bt239.2.2 1000000000000).bind fun bt242 => ((packet_Reader_Bad.f bt242.2.1 bt242.2.2).bind fun bt245 => (if bt245.1 = true then (some (⟨#[]⟩, ([] : List (S52)), ⟨#[]⟩, ⟨#[]⟩, ⟨#[]⟩, 0, 0, false, 0, 0, 101, bt245.2.1, bt245.2.2)) else ((order_Right.f k1 t203 X1_1 t221 bt224.1 bt227.1 (wrap64 (bt230.1)) (wrap64 (bt233.1)) (bt236.1 == 1) (wrap64 (bt239.1)) (wrap64 (bt242.1))).bind fun t248 => (if t248 = true then (some (t203, X1_1, t221, bt224.1, bt227.1, wrap64 (bt230.1), wrap64 (bt233.1), (bt236.1 == 1), wrap64 (bt239.1), wrap64 (bt242.1), 0, bt245.2.1, bt245.2.2)) else (some (⟨#[]⟩, ([] : List (S52)), ⟨#[]⟩, ⟨#[]⟩, ⟨#[]⟩, 0, 0, false, 0, 0, 101, bt245.2.1, bt245.2.2))))))))))))) = some (r1, r2, r3, r4, r5, r6, r7, r8, r9, r10, r11, r12, r13) := H; have A23 := am A230; clear A230; replace H := obm H; obtain ⟨⟨t224, t225, t226⟩, A240, H⟩ := H; replace H : ((packet_Reader_Text.f k1 t225 t226 32).bind fun bt227 => ((packet_Reader_Number.f k1 bt227.2.1 bt227.2.2 1000000000000).bind fun bt230 => ((packet_Reader_Number.f k1 bt230.2.1 bt230.2.2 12).bind fun bt233 => ((packet_Reader_Number.f k1 bt233.2.1 bt233.2.2 1).bind fun bt236 => ((packet_Reader_Number.f k1 bt236.2.1 bt236.2.2 1000000).bind fun bt239 => ((packet_Reader_Number.f k1 bt239.2.1 bt239.2.2 1000000000000).bind fun bt242 => ((packet_Reader_Bad.f bt242.2.1 bt242.2.2).bind fun bt245 => (if bt245.1 = true then (some (⟨#[]⟩, ([] : List (S52)), ⟨#[]⟩, ⟨#[]⟩, ⟨#[]⟩, 0, 0, false, 0, 0, 101, bt245.2.1, bt245.2.2)) else ((order_Right.f k1 t203 X1_1 t221 t224 bt227.1 (wrap64 (bt230.1)) (wrap64 (bt233.1)) (bt236.1 == 1) (wrap64 (bt239.1)) (wrap64 (bt242.1))).bind fun t248 => (if t248 = true then (some (t203, X1_1, t221, t224, bt227.1, wrap64 (bt230.1), wrap64 (bt233.1), (bt236.1 == 1), wrap64 (bt239.1), wrap64 (bt242.1), 0, bt245.2.1, bt245.2.2)) else (some (⟨#[]⟩, ([] : List (S52)), ⟨#[]⟩, ⟨#[]⟩, ⟨#[]⟩, 0, 0, false, 0, 0, 101, bt245.2.1, bt245.2.2)))))))))))) = some (r1, r2, r3, r4, r5, r6, r7, r8, r9, r10, r11, r12, r13) := H; have A24 := am A240; clear A240; replace H := obm H; obtain ⟨⟨t227, t228, t229⟩, A250, H⟩ := H; replace H : ((packet_Reader_Number.f k1 t228 t229 1000000000000).bind fun bt230 => ((packet_Reader_Number.f k1 bt230.2.1 bt230.2.2 12).bind fun bt233 => ((packet_Reader_Number.f k1 bt233.2.1 bt233.2.2 1).bind fun bt236 => ((packet_Reader_Number.f k1 bt236.2.1 bt236.2.2 1000000).bind fun bt239 => ((packet_Reader_Number.f k1 bt239.2.1 bt239.2.2 1000000000000).bind fun bt242 => ((packet_Reader_Bad.f bt242.2.1 bt242.2.2).bind fun bt245 => (if bt245.1 = true then (some (⟨#[]⟩, ([] : List (S52)), ⟨#[]⟩, ⟨#[]⟩, ⟨#[]⟩, 0, 0, false, 0, 0, 101, bt245.2.1, bt245.2.2)) else ((order_Right.f k1 t203 X1_1 t221 t224 t227 (wrap64 (bt230.1)) (wrap64 (bt233.1)) (bt236.1 == 1) (wrap64 (bt239.1)) (wrap64 (bt242.1))).bind fun t248 => (if t248 = true then (some (t203, X1_1, t221, t224, t227, wrap64 (bt230.1), wrap64 (bt233.1), (bt236.1 == 1), wrap64 (bt239.1), wrap64 (bt242.1), 0, bt245.2.1, bt245.2.2)) else (some (⟨#[]⟩, ([] : List (S52)), ⟨#[]⟩, ⟨#[]⟩, ⟨#[]⟩, 0, 0, false, 0, 0, 101, bt245.2.1, bt245.2.2))))))))))) = some (r1, r2, r3, r4, r5, r6, r7, r8, r9, r10, r11, r12, r13) := H; have A25 := am A250; clear A250; replace H := obm H; obtain ⟨⟨t230, t231, t232⟩, A260, H⟩ := H; replace H : ((packet_Reader_Number.f k1 t231 t232 12).bind fun bt233 => ((packet_Reader_Number.f k1 bt233.2.1 bt233.2.2 1).bind fun bt236 => ((packet_Reader_Number.f k1 bt236.2.1 bt236.2.2 1000000).bind fun bt239 => ((packet_Reader_Number.f k1 bt239.2.1 bt239.2.2 1000000000000).bind fun bt242 => ((packet_Reader_Bad.f bt242.2.1 bt242.2.2).bind fun bt245 => (if bt245.1 = true then (some (⟨#[]⟩, ([] : List (S52)), ⟨#[]⟩, ⟨#[]⟩, ⟨#[]⟩, 0, 0, false, 0, 0, 101, bt245.2.1, bt245.2.2)) else ((order_Right.f k1 t203 X1_1 t221 t224 t227 (wrap64 (t230)) (wrap64 (bt233.1)) (bt236.1 == 1) (wrap64 (bt239.1)) (wrap64 (bt242.1))).bind fun t248 => (if t248 = true then (some (t203, X1_1, t221, t224, t227, wrap64 (t230), wrap64 (bt233.1), (bt236.1 == 1), wrap64 (bt239.1), wrap64 (bt242.1), 0, bt245.2.1, bt245.2.2)) else (some (⟨#[]⟩, ([] : List (S52)), ⟨#[]⟩, ⟨#[]⟩, ⟨#[]⟩, 0, 0, false, 0, 0, 101, bt245.2.1, bt245.2.2)))))))))) = some (r1, r2, r3, r4, r5, r6, r7, r8, r9, r10, r11, r12, r13) := H
    have A26 := am A260; clear A260; replace H := obm H; obtain ⟨⟨t233, t234, t235⟩, A270, H⟩ := H; replace H : ((packet_Reader_Number.f k1 t234 t235 1).bind fun bt236 => ((packet_Reader_Number.f k1 bt236.2.1 bt236.2.2 1000000).bind fun bt239 => ((packet_Reader_Number.f k1 bt239.2.1 bt239.2.2 1000000000000).bind fun bt242 => ((packet_Reader_Bad.f bt242.2.1 bt242.2.2).bind fun bt245 => (if bt245.1 = true then (some (⟨#[]⟩, ([] : List (S52)), ⟨#[]⟩, ⟨#[]⟩, ⟨#[]⟩, 0, 0, false, 0, 0, 101, bt245.2.1, bt245.2.2)) else ((order_Right.f k1 t203 X1_1 t221 t224 t227 (wrap64 (t230)) (wrap64 (t233)) (bt236.1 == 1) (wrap64 (bt239.1)) (wrap64 (bt242.1))).bind fun t248 => (if t248 = true then (some (t203, X1_1, t221, t224, t227, wrap64 (t230), wrap64 (t233), (bt236.1 == 1), wrap64 (bt239.1), wrap64 (bt242.1), 0, bt245.2.1, bt245.2.2)) else (some (⟨#[]⟩, ([] : List (S52)), ⟨#[]⟩, ⟨#[]⟩, ⟨#[]⟩, 0, 0, false, 0, 0, 101, bt245.2.1, bt245.2.2))))))))) = some (r1, r2, r3, r4, r5, r6, r7, r8, r9, r10, r11, r12, r13) := H; have A27 := am A270; clear A270; replace H := obm H; obtain ⟨⟨t236, t237, t238⟩, A280, H⟩ := H; replace H : ((packet_Reader_Number.f k1 t237 t238 1000000).bind fun bt239 => ((packet_Reader_Number.f k1 bt239.2.1 bt239.2.2 1000000000000).bind fun bt242 => ((packet_Reader_Bad.f bt242.2.1 bt242.2.2).bind fun bt245 => (if bt245.1 = true then (some (⟨#[]⟩, ([] : List (S52)), ⟨#[]⟩, ⟨#[]⟩, ⟨#[]⟩, 0, 0, false, 0, 0, 101, bt245.2.1, bt245.2.2)) else ((order_Right.f k1 t203 X1_1 t221 t224 t227 (wrap64 (t230)) (wrap64 (t233)) (t236 == 1) (wrap64 (bt239.1)) (wrap64 (bt242.1))).bind fun t248 => (if t248 = true then (some (t203, X1_1, t221, t224, t227, wrap64 (t230), wrap64 (t233), (t236 == 1), wrap64 (bt239.1), wrap64 (bt242.1), 0, bt245.2.1, bt245.2.2)) else (some (⟨#[]⟩, ([] : List (S52)), ⟨#[]⟩, ⟨#[]⟩, ⟨#[]⟩, 0, 0, false, 0, 0, 101, bt245.2.1, bt245.2.2)))))))) = some (r1, r2, r3, r4, r5, r6, r7, r8, r9, r10, r11, r12, r13) := H; have A28 := am A280; clear A280; replace H := obm H; obtain ⟨⟨t239, t240, t241⟩, A290, H⟩ := H; replace H : ((packet_Reader_Number.f k1 t240 t241 1000000000000).bind fun bt242 => ((packet_Reader_Bad.f bt242.2.1 bt242.2.2).bind fun bt245 => (if bt245.1 = true then (some (⟨#[]⟩, ([] : List (S52)), ⟨#[]⟩, ⟨#[]⟩, ⟨#[]⟩, 0, 0, false, 0, 0, 101, bt245.2.1, bt245.2.2)) else ((order_Right.f k1 t203 X1_1 t221 t224 t227 (wrap64 (t230)) (wrap64 (t233)) (t236 == 1) (wrap64 (t239)) (wrap64 (bt242.1))).bind fun t248 => (if t248 = true then (some (t203, X1_1, t221, t224, t227, wrap64 (t230), wrap64 (t233), (t236 == 1), wrap64 (t239), wrap64 (bt242.1), 0, bt245.2.1, bt245.2.2)) else (some (⟨#[]⟩, ([] : List (S52)), ⟨#[]⟩, ⟨#[]⟩, ⟨#[]⟩, 0, 0, false, 0, 0, 101, bt245.2.1, bt245.2.2))))))) = some (r1, r2, r3, r4, r5, r6, r7, r8, r9, r10, r11, r12, r13) := H; have A29 := am A290; clear A290; replace H := obm H; obtain ⟨⟨t242, t243, t244⟩, A300, H⟩ := H; replace H : ((packet_Reader_Bad.f t243 t244).bind fun bt245 => (if bt245.1 = true then (some (⟨#[]⟩, ([] : List (S52)), ⟨#[]⟩, ⟨#[]⟩, ⟨#[]⟩, 0, 0, false, 0, 0, 101, bt245.2.1, bt245.2.2)) else ((order_Right.f k1 t203 X1_1 t221 t224 t227 (wrap64 (t230)) (wrap64 (t233)) (t236 == 1) (wrap64 (t239)) (wrap64 (t242))).bind fun t248 => (if t248 = true then (some (t203, X1_1, t221, t224, t227, wrap64 (t230), wrap64 (t233), (t236 == 1), wrap64 (t239), wrap64 (t242), 0, bt245.2.1, bt245.2.2)) else (some (⟨#[]⟩, ([] : List (S52)), ⟨#[]⟩, ⟨#[]⟩, ⟨#[]⟩, 0, 0, false, 0, 0, 101, bt245.2.1, bt245.2.2)))))) = some (r1, r2, r3, r4, r5, r6, r7, r8, r9, r10, r11, r12, r13) := H; have A30 := am A300; clear A300; replace H := obm H; obtain ⟨⟨t245, t246, t247⟩, A310, H⟩ := H; replace H : (if t245 = true then (some (⟨#[]⟩, ([] : List (S52)), ⟨#[]⟩, ⟨#[]⟩, ⟨#[]⟩, 0, 0, false, 0, 0, 101, t246, t247)) else ((order_Right.f k1 t203 X1_1 t221 t224 t227 (wrap64 (t230)) (wrap64 (t233)) (t236 == 1) (wrap64 (t239)) (wrap64 (t242))).bind fun t248 => (if t248 = true then (some (t203, X1_1, t221, t224, t227, wrap64 (t230), wrap64 (t233), (t236 == 1), wrap64 (t239), wrap64 (t242), 0, t246, t247)) else (some (⟨#[]⟩, ([] : List (S52)), ⟨#[]⟩, ⟨#[]⟩, ⟨#[]⟩, 0, 0, false, 0, 0, 101, t246, t247))))) = some (r1, r2, r3, r4, r5, r6, r7, r8, r9, r10, r11, r12, r13) := H
    have A31 := am A310; clear A310
    by_cases c32 : t245 = true
    ·subst c32
     have H1 : (some (⟨#[]⟩, ([] : List (S52)), ⟨#[]⟩, ⟨#[]⟩, ⟨#[]⟩, 0, 0, false, 0, 0, 101, t246, t247)) = some (r1, r2, r3, r4, r5, r6, r7, r8, r9, r10, r11, r12, r13) := by rw [if_pos rfl] at H; exact H
     clear H; have H := H1; clear H1; simp only [Option.some.injEq, Prod.mk.injEq] at H; obtain ⟨rfl, rfl, rfl, rfl, rfl, rfl, rfl, rfl, rfl, rfl, rfl, rfl, rfl⟩ := H
     go_wp2_with (first | ((with_reducible refine gate_callee (f := 43) rfl ?_); refine goesL_ (some 28) rfl rfl Tryd.func43 (by kernel_rfl) rfl #[.pointer (some ⟨g, 0, none⟩), .int .i64 32] rfl ap1 ?_; (with_reducible refine (packet_Reader_Text.calls k1 g x1000_1 x1001_1 32 t221 t222 t223 w0 _ ?side1 ?side2 A23.out).mono ?_); (case side1 => exact IsS72.u HI0.out); (case side2 => exact beg (IsS72.ge HI0.out) HB.out); rintro e w33 ⟨rfl, hi, hb, hk⟩; refine ⟨_, rfl, ?_⟩; have _ := am (Kd.R_mono (Kd.R_keep (IsS72.apart (show IsS72 w0 _ g x1000_1 x1001_1 from IsS72.u HI0.out) (ru HO_203001.out) (by decide)) hk (fun _ h => h.2)) (fun _ h => h.1)); have _ := am (KeepBut.blk hk (bu BK201.out) NB201_0.out (by simp)); have _ := am (KeepBut.blk hk (bu BK202.out) NB202_0.out (by simp)); have _ := am (KeepBut.trans (ku HK.out) hk (.inl rfl)); have _ := am (hb); have _ := am (hi); clear HO_203001 BK201 BK202 HK HB HI0; rename_i HO_203001 BK201 BK202 HK HB HI0; (try clear hb hk hi)) | ((with_reducible refine gate_callee (f := 43) rfl ?_); refine goesL_ (some 30) rfl rfl Tryd.func43 (by kernel_rfl) rfl #[.pointer (some ⟨g, 0, none⟩), .int .i64 32] rfl ap1 ?_; (with_reducible refine (packet_Reader_Text.calls k1 g t222 t223 32 t224 t225 t226 w0 _ ?side1 ?side2 A24.out).mono ?_); (case side1 => exact IsS72.u HI0.out); (case side2 => exact beg (IsS72.ge HI0.out) HB.out); rintro e w34 ⟨rfl, hi, hb, hk⟩; refine ⟨_, rfl, ?_⟩; have _ := am (Kd.R_mono (Kd.R_keep (IsS72.apart (show IsS72 w0 _ g t222 t223 from IsS72.u HI0.out) (ru HO_203001.out) (by decide)) hk (fun _ h => h.2)) (fun _ h => h.1)); have _ := am (KeepBut.blk hk (bu BK201.out) NB201_0.out (by simp)); have _ := am (KeepBut.blk hk (bu BK202.out) NB202_0.out (by simp)); have _ := am (KeepBut.trans (ku HK.out) hk (.inl rfl)); have _ := am (hb); have _ := am (hi); clear HO_203001 BK201 BK202 HK HB HI0; rename_i HO_203001 BK201 BK202 HK HB HI0; (try clear hb hk hi)) | ((with_reducible refine gate_callee (f := 43) rfl ?_); refine goesL_ (some 32) rfl rfl Tryd.func43 (by kernel_rfl) rfl #[.pointer (some ⟨g, 0, none⟩), .int .i64 32] rfl ap1 ?_; (with_reducible refine (packet_Reader_Text.calls k1 g t225 t226 32 t227 t228 t229 w0 _ ?side1 ?side2 A25.out).mono ?_); (case side1 => exact IsS72.u HI0.out); (case side2 => exact beg (IsS72.ge HI0.out) HB.out); rintro e w35 ⟨rfl, hi, hb, hk⟩; refine ⟨_, rfl, ?_⟩; have _ := am (Kd.R_mono (Kd.R_keep (IsS72.apart (show IsS72 w0 _ g t225 t226 from IsS72.u HI0.out) (ru HO_203001.out) (by decide)) hk (fun _ h => h.2)) (fun _ h => h.1)); have _ := am (KeepBut.blk hk (bu BK201.out) NB201_0.out (by simp)); have _ := am (KeepBut.blk hk (bu BK202.out) NB202_0.out (by simp)); have _ := am (KeepBut.trans (ku HK.out) hk (.inl rfl)); have _ := am (hb); have _ := am (hi); clear HO_203001 BK201 BK202 HK HB HI0; rename_i HO_203001 BK201 BK202 HK HB HI0; (try clear hb hk hi); have := NB202_201.out; have := NB201_202.out; have := NB202_0.out; have := NB0_202.out; obtain ⟨_, _, _, _, _, _, _, _, _, _⟩ := cells10 BK202.out; obtain ⟨_, _, _, _, _, _, _, _, _, _⟩ := frozens10 BK202.out) | ((with_reducible refine gate_callee (f := 19) rfl ?_); refine goesL_ (some 36) rfl rfl Tryd.func19 (by kernel_rfl) rfl #[.pointer (some ⟨g, 0, none⟩), .int .u64 1000000000000] rfl ap1 ?_; (with_reducible refine (packet_Reader_Number.calls k1 g t228 t229 1000000000000 t230 t231 t232 w0 _ ?side1 ?side2 A26.out).mono ?_); (case side1 => exact IsS72.u HI0.out); (case side2 => exact beg (IsS72.ge HI0.out) HB.out); rintro e w39 ⟨rfl, hi, hb, hk⟩; refine ⟨_, rfl, ?_⟩; have _ := am (Kd.R_mono (Kd.R_keep (IsS72.apart (show IsS72 w0 _ g t228 t229 from IsS72.u HI0.out) (ru (Kd.R_mono (rf gb202 4 (rf gb202 3 (rf gb202 2 (Kd.R_types HO_203001.out BK202.out (by decide)) (.string t221)) (.string t224)) (.string t227)) (fun _ h_ => h_.1))) (by decide)) hk (fun _ h => h.2)) (fun _ h => h.1)); have _ := am (KeepBut.blk hk (g' := gb201) (o := .cells #[.string ⟨#[]⟩, .slice none 0 0, .string ⟨#[]⟩, .string ⟨#[]⟩, .string ⟨#[]⟩, .int .i64 0, .int .i64 0, .bool false, .int .i64 0, .int .i64 0] 28 (0, 0)) (bf BK201.out) NB201_0.out (by simp)); have _ := am (KeepBut.blk hk (g' := gb202) (o := .cells #[.string t203, u203001, .string t221, .string t224, .string t227, .int .i64 0, .int .i64 0, .bool false, .int .i64 0, .int .i64 0] 28 (0, 0)) (by refine bu ?_; refine blk_put (cs := #[.string t203, u203001, .string t221, .string t224, .string ⟨#[]⟩, .int .i64 0, .int .i64 0, .bool false, .int .i64 0, .int .i64 0]) ?_ 4 _ rfl; refine bu ?_; refine blk_put (cs := #[.string t203, u203001, .string t221, .string ⟨#[]⟩, .string ⟨#[]⟩, .int .i64 0, .int .i64 0, .bool false, .int .i64 0, .int .i64 0]) ?_ 3 _ rfl; refine bu ?_; refine blk_put (cs := #[.string t203, u203001, .string ⟨#[]⟩, .string ⟨#[]⟩, .string ⟨#[]⟩, .int .i64 0, .int .i64 0, .bool false, .int .i64 0, .int .i64 0]) ?_ 2 _ rfl; refine bu ?_; exact BK202.out) NB202_0.out (by simp)); have _ := am (KeepBut.trans (ku HK.out) hk (.inl rfl)); have _ := am (hb); have _ := am (hi); clear HO_203001 BK201 BK202 HK HB HI0; rename_i HO_203001 BK201 BK202 HK HB HI0; (try clear hb hk hi); obtain ⟨_, _, _, _, _, _, _, _, _, _⟩ := cells10 BK202.out; obtain ⟨_, _, _, _, _, _, _, _, _, _⟩ := frozens10 BK202.out) | ((with_reducible refine gate_callee (f := 19) rfl ?_); refine goesL_ (some 40) rfl rfl Tryd.func19 (by kernel_rfl) rfl #[.pointer (some ⟨g, 0, none⟩), .int .u64 12] rfl ap1 ?_; (with_reducible refine (packet_Reader_Number.calls k1 g t231 t232 12 t233 t234 t235 w0 _ ?side1 ?side2 A27.out).mono ?_); (case side1 => exact IsS72.u HI0.out); (case side2 => exact beg (IsS72.ge HI0.out) HB.out); rintro e w41 ⟨rfl, hi, hb, hk⟩; refine ⟨_, rfl, ?_⟩; have _ := am (Kd.R_mono (Kd.R_keep (IsS72.apart (show IsS72 w0 _ g t231 t232 from IsS72.u HI0.out) (ru (Kd.R_mono (rf gb202 5 (Kd.R_types HO_203001.out BK202.out (by decide)) (.int .i64 (wrap64 (t230)))) (fun _ h_ => h_.1))) (by decide)) hk (fun _ h => h.2)) (fun _ h => h.1)); have _ := am (KeepBut.blk hk (g' := gb201) (o := .cells #[.string ⟨#[]⟩, .slice none 0 0, .string ⟨#[]⟩, .string ⟨#[]⟩, .string ⟨#[]⟩, .int .i64 0, .int .i64 0, .bool false, .int .i64 0, .int .i64 0] 28 (0, 0)) (bf BK201.out) NB201_0.out (by simp)); have _ := am (KeepBut.blk hk (g' := gb202) (o := .cells #[.string t203, u203001, .string t221, .string t224, .string t227, .int .i64 (wrap64 (t230)), .int .i64 0, .bool false, .int .i64 0, .int .i64 0] 28 (0, 0)) (by refine bu ?_; refine blk_put (cs := #[.string t203, u203001, .string t221, .string t224, .string t227, .int .i64 0, .int .i64 0, .bool false, .int .i64 0, .int .i64 0]) ?_ 5 _ rfl; refine bu ?_; exact BK202.out) NB202_0.out (by simp)); have _ := am (KeepBut.trans (ku HK.out) hk (.inl rfl)); have _ := am (hb); have _ := am (hi); clear HO_203001 BK201 BK202 HK HB HI0; rename_i HO_203001 BK201 BK202 HK HB HI0; (try clear hb hk hi)) | ((with_reducible refine gate_callee (f := 19) rfl ?_); refine goesL_ (some 43) rfl rfl Tryd.func19 (by kernel_rfl) rfl #[.pointer (some ⟨g, 0, none⟩), .int .u64 1] rfl ap1 ?_; (with_reducible refine (packet_Reader_Number.calls k1 g t234 t235 1 t236 t237 t238 w0 _ ?side1 ?side2 A28.out).mono ?_); (case side1 => exact IsS72.u HI0.out); (case side2 => exact beg (IsS72.ge HI0.out) HB.out); rintro e w42 ⟨rfl, hi, hb, hk⟩; refine ⟨_, rfl, ?_⟩; have _ := am (Kd.R_mono (Kd.R_keep (IsS72.apart (show IsS72 w0 _ g t234 t235 from IsS72.u HI0.out) (ru HO_203001.out) (by decide)) hk (fun _ h => h.2)) (fun _ h => h.1)); have _ := am (KeepBut.blk hk (bu BK201.out) NB201_0.out (by simp)); have _ := am (KeepBut.blk hk (bu BK202.out) NB202_0.out (by simp)); have _ := am (KeepBut.trans (ku HK.out) hk (.inl rfl)); have _ := am (hb); have _ := am (hi); clear HO_203001 BK201 BK202 HK HB HI0; rename_i HO_203001 BK201 BK202 HK HB HI0; (try clear hb hk hi)) | ((with_reducible refine gate_callee (f := 19) rfl ?_); refine goesL_ (some 46) rfl rfl Tryd.func19 (by kernel_rfl) rfl #[.pointer (some ⟨g, 0, none⟩), .int .u64 1000000] rfl ap1 ?_; (with_reducible refine (packet_Reader_Number.calls k1 g t237 t238 1000000 t239 t240 t241 w0 _ ?side1 ?side2 A29.out).mono ?_); (case side1 => exact IsS72.u HI0.out); (case side2 => exact beg (IsS72.ge HI0.out) HB.out); rintro e w43 ⟨rfl, hi, hb, hk⟩; refine ⟨_, rfl, ?_⟩; have _ := am (Kd.R_mono (Kd.R_keep (IsS72.apart (show IsS72 w0 _ g t237 t238 from IsS72.u HI0.out) (ru HO_203001.out) (by decide)) hk (fun _ h => h.2)) (fun _ h => h.1)); have _ := am (KeepBut.blk hk (bu BK201.out) NB201_0.out (by simp)); have _ := am (KeepBut.blk hk (bu BK202.out) NB202_0.out (by simp)); have _ := am (KeepBut.trans (ku HK.out) hk (.inl rfl)); have _ := am (hb); have _ := am (hi); clear HO_203001 BK201 BK202 HK HB HI0; rename_i HO_203001 BK201 BK202 HK HB HI0; (try clear hb hk hi); obtain ⟨_, _, _, _, _, _, _, _, _, _⟩ := cells10 BK202.out; obtain ⟨_, _, _, _, _, _, _, _, _, _⟩ := frozens10 BK202.out) | ((with_reducible refine gate_callee (f := 19) rfl ?_); refine goesL_ (some 51) rfl rfl Tryd.func19 (by kernel_rfl) rfl #[.pointer (some ⟨g, 0, none⟩), .int .u64 1000000000000] rfl ap1 ?_; (with_reducible refine (packet_Reader_Number.calls k1 g t240 t241 1000000000000 t242 t243 t244 w0 _ ?side1 ?side2 A30.out).mono ?_); (case side1 => exact IsS72.u HI0.out); (case side2 => exact beg (IsS72.ge HI0.out) HB.out); rintro e w45 ⟨rfl, hi, hb, hk⟩; refine ⟨_, rfl, ?_⟩; have _ := am (Kd.R_mono (Kd.R_keep (IsS72.apart (show IsS72 w0 _ g t240 t241 from IsS72.u HI0.out) (ru (Kd.R_mono (rf gb202 8 (rf gb202 7 (rf gb202 6 (Kd.R_types HO_203001.out BK202.out (by decide)) (.int .i64 (wrap64 (t233)))) (.bool (t236 == 1))) (.int .i64 (wrap64 (t239)))) (fun _ h_ => h_.1))) (by decide)) hk (fun _ h => h.2)) (fun _ h => h.1)); have _ := am (KeepBut.blk hk (g' := gb201) (o := .cells #[.string ⟨#[]⟩, .slice none 0 0, .string ⟨#[]⟩, .string ⟨#[]⟩, .string ⟨#[]⟩, .int .i64 0, .int .i64 0, .bool false, .int .i64 0, .int .i64 0] 28 (0, 0)) (bf BK201.out) NB201_0.out (by simp)); have _ := am (KeepBut.blk hk (g' := gb202) (o := .cells #[.string t203, u203001, .string t221, .string t224, .string t227, .int .i64 (wrap64 (t230)), .int .i64 (wrap64 (t233)), .bool (t236 == 1), .int .i64 (wrap64 (t239)), .int .i64 0] 28 (0, 0)) (by refine bu ?_; refine blk_put (cs := #[.string t203, u203001, .string t221, .string t224, .string t227, .int .i64 (wrap64 (t230)), .int .i64 (wrap64 (t233)), .bool (t236 == 1), .int .i64 0, .int .i64 0]) ?_ 8 _ rfl; refine bu ?_; refine blk_put (cs := #[.string t203, u203001, .string t221, .string t224, .string t227, .int .i64 (wrap64 (t230)), .int .i64 (wrap64 (t233)), .bool false, .int .i64 0, .int .i64 0]) ?_ 7 _ rfl; refine bu ?_; refine blk_put (cs := #[.string t203, u203001, .string t221, .string t224, .string t227, .int .i64 (wrap64 (t230)), .int .i64 0, .bool false, .int .i64 0, .int .i64 0]) ?_ 6 _ rfl; refine bu ?_; exact BK202.out) NB202_0.out (by simp)); have _ := am (KeepBut.trans (ku HK.out) hk (.inl rfl)); have _ := am (hb); have _ := am (hi); clear HO_203001 BK201 BK202 HK HB HI0; rename_i HO_203001 BK201 BK202 HK HB HI0; (try clear hb hk hi); obtain ⟨_, _, _, _, _, _, _, _, _, _⟩ := cells10 BK202.out; obtain ⟨_, _, _, _, _, _, _, _, _, _⟩ := frozens10 BK202.out) | ((with_reducible refine gate_callee (f := 44) rfl ?_); refine goesL_ (some 55) rfl rfl Tryd.func44 (by kernel_rfl) rfl #[.pointer (some ⟨g, 0, none⟩)] rfl ap1 ?_; (with_reducible refine (packet_Reader_Bad.calls g t243 t244 true t246 t247 w0 _ ?side1 ?side2 A31.out).mono ?_); (case side1 => exact IsS72.u HI0.out); (case side2 => exact beg (IsS72.ge HI0.out) HB.out); rintro e w47 ⟨rfl, hi, hb, hk⟩; refine ⟨_, rfl, ?_⟩; have _ := am (Kd.R_mono (Kd.R_keep (IsS72.apart (show IsS72 w0 _ g t243 t244 from IsS72.u HI0.out) (ru (Kd.R_mono (rf gb202 9 (Kd.R_types HO_203001.out BK202.out (by decide)) (.int .i64 (wrap64 (t242)))) (fun _ h_ => h_.1))) (by decide)) hk (fun _ h => h.2)) (fun _ h => h.1)); have _ := am (KeepBut.blk hk (g' := gb201) (o := .cells #[.string ⟨#[]⟩, .slice none 0 0, .string ⟨#[]⟩, .string ⟨#[]⟩, .string ⟨#[]⟩, .int .i64 0, .int .i64 0, .bool false, .int .i64 0, .int .i64 0] 28 (0, 0)) (bf BK201.out) NB201_0.out (by simp)); have _ := am (KeepBut.blk hk (g' := gb202) (o := .cells #[.string t203, u203001, .string t221, .string t224, .string t227, .int .i64 (wrap64 (t230)), .int .i64 (wrap64 (t233)), .bool (t236 == 1), .int .i64 (wrap64 (t239)), .int .i64 (wrap64 (t242))] 28 (0, 0)) (by refine bu ?_; refine blk_put (cs := #[.string t203, u203001, .string t221, .string t224, .string t227, .int .i64 (wrap64 (t230)), .int .i64 (wrap64 (t233)), .bool (t236 == 1), .int .i64 (wrap64 (t239)), .int .i64 0]) ?_ 9 _ rfl; refine bu ?_; exact BK202.out) NB202_0.out (by simp)); have _ := am (KeepBut.trans (ku HK.out) hk (.inl rfl)); have _ := am (hb); have _ := am (hi); clear HO_203001 BK201 BK202 HK HB HI0; rename_i HO_203001 BK201 BK202 HK HB HI0; (try clear hb hk hi); have := NB201_0.out; have := NB0_201.out; obtain ⟨_, _, _, _, _, _, _, _, _, _⟩ := cells10 BK201.out; obtain ⟨_, _, _, _, _, _, _, _, _, _⟩ := frozens10 BK201.out))
     refine bodyPost_ret (results_ct rfl _ _ gb201 28 #[.string ⟨#[]⟩, .slice none 0 0, .string ⟨#[]⟩, .string ⟨#[]⟩, .string ⟨#[]⟩, .int .i64 0, .int .i64 0, .bool false, .int .i64 0, .int .i64 0] (0, 0) _ rfl (by (with_reducible repeat (first | refine blk_drewN ?_ _ | refine blk_drew ?_ | refine blk_alloc ?_ _)); refine blk_put (cs := #[.string ⟨#[]⟩, .slice none 0 0, .string ⟨#[]⟩, .string ⟨#[]⟩, .string ⟨#[]⟩, .int .i64 0, .int .i64 0, .bool false, .int .i64 0, .int .i64 0]) ?_ 9 _ rfl; (with_reducible repeat (first | refine blk_drewN ?_ _ | refine blk_drew ?_ | refine blk_alloc ?_ _)); refine blk_put (cs := #[.string ⟨#[]⟩, .slice none 0 0, .string ⟨#[]⟩, .string ⟨#[]⟩, .string ⟨#[]⟩, .int .i64 0, .int .i64 0, .bool false, .int .i64 0, .int .i64 0]) ?_ 8 _ rfl; (with_reducible repeat (first | refine blk_drewN ?_ _ | refine blk_drew ?_ | refine blk_alloc ?_ _)); refine blk_put (cs := #[.string ⟨#[]⟩, .slice none 0 0, .string ⟨#[]⟩, .string ⟨#[]⟩, .string ⟨#[]⟩, .int .i64 0, .int .i64 0, .bool false, .int .i64 0, .int .i64 0]) ?_ 7 _ rfl; (with_reducible repeat (first | refine blk_drewN ?_ _ | refine blk_drew ?_ | refine blk_alloc ?_ _)); refine blk_put (cs := #[.string ⟨#[]⟩, .slice none 0 0, .string ⟨#[]⟩, .string ⟨#[]⟩, .string ⟨#[]⟩, .int .i64 0, .int .i64 0, .bool false, .int .i64 0, .int .i64 0]) ?_ 6 _ rfl; (with_reducible repeat (first | refine blk_drewN ?_ _ | refine blk_drew ?_ | refine blk_alloc ?_ _)); refine blk_put (cs := #[.string ⟨#[]⟩, .slice none 0 0, .string ⟨#[]⟩, .string ⟨#[]⟩, .string ⟨#[]⟩, .int .i64 0, .int .i64 0, .bool false, .int .i64 0, .int .i64 0]) ?_ 5 _ rfl; (with_reducible repeat (first | refine blk_drewN ?_ _ | refine blk_drew ?_ | refine blk_alloc ?_ _)); refine blk_put (cs := #[.string ⟨#[]⟩, .slice none 0 0, .string ⟨#[]⟩, .string ⟨#[]⟩, .string ⟨#[]⟩, .int .i64 0, .int .i64 0, .bool false, .int .i64 0, .int .i64 0]) ?_ 4 _ rfl; (with_reducible repeat (first | refine blk_drewN ?_ _ | refine blk_drew ?_ | refine blk_alloc ?_ _)); refine blk_put (cs := #[.string ⟨#[]⟩, .slice none 0 0, .string ⟨#[]⟩, .string ⟨#[]⟩, .string ⟨#[]⟩, .int .i64 0, .int .i64 0, .bool false, .int .i64 0, .int .i64 0]) ?_ 3 _ rfl; (with_reducible repeat (first | refine blk_drewN ?_ _ | refine blk_drew ?_ | refine blk_alloc ?_ _)); refine blk_put (cs := #[.string ⟨#[]⟩, .slice none 0 0, .string ⟨#[]⟩, .string ⟨#[]⟩, .string ⟨#[]⟩, .int .i64 0, .int .i64 0, .bool false, .int .i64 0, .int .i64 0]) ?_ 2 _ rfl; (with_reducible repeat (first | refine blk_drewN ?_ _ | refine blk_drew ?_ | refine blk_alloc ?_ _)); refine blk_put (cs := #[.string ⟨#[]⟩, .slice none 0 0, .string ⟨#[]⟩, .string ⟨#[]⟩, .string ⟨#[]⟩, .int .i64 0, .int .i64 0, .bool false, .int .i64 0, .int .i64 0]) ?_ 1 _ rfl; (with_reducible repeat (first | refine blk_drewN ?_ _ | refine blk_drew ?_ | refine blk_alloc ?_ _)); refine blk_put (cs := #[.string ⟨#[]⟩, .slice none 0 0, .string ⟨#[]⟩, .string ⟨#[]⟩, .string ⟨#[]⟩, .int .i64 0, .int .i64 0, .bool false, .int .i64 0, .int .i64 0]) ?_ 0 _ rfl; (with_reducible repeat (first | refine blk_drewN ?_ _ | refine blk_drew ?_ | refine blk_alloc ?_ _)); exact BK201.out) Tryd.underlying28 rfl (by kernel_rfl)) rfl ?_; exact ⟨_, ap4, by first | exact Kd.R_nil _ _ _ _ _ | exact Kd.N_nil _ _ _ _ _ | exact Kd.V_nil _ _ _ _ _ | exact Kd.Q_nil _ _ _ _ _ | exact Kd.S_nil _ _ _ _ _, IsS72.u HI0.out, beg (IsS72.ge HI0.out) HB.out, ku HK.out⟩
    ·replace c32 := Bool.eq_false_iff.mpr c32
     subst c32
     have H1 : ((order_Right.f k1 t203 X1_1 t221 t224 t227 (wrap64 (t230)) (wrap64 (t233)) (t236 == 1) (wrap64 (t239)) (wrap64 (t242))).bind fun t248 => (if t248 = true then (some (t203, X1_1, t221, t224, t227, wrap64 (t230), wrap64 (t233), (t236 == 1), wrap64 (t239), wrap64 (t242), 0, t246, t247)) else (some (⟨#[]⟩, ([] : List (S52)), ⟨#[]⟩, ⟨#[]⟩, ⟨#[]⟩, 0, 0, false, 0, 0, 101, t246, t247)))) = some (r1, r2, r3, r4, r5, r6, r7, r8, r9, r10, r11, r12, r13) := by rw [if_neg (show ¬ (false = true) by decide)] at H; exact H
     clear H; have H := H1; clear H1; replace H := obm H; obtain ⟨t248, A500, H⟩ := H; replace H : (if t248 = true then (some (t203, X1_1, t221, t224, t227, wrap64 (t230), wrap64 (t233), (t236 == 1), wrap64 (t239), wrap64 (t242), 0, t246, t247)) else (some (⟨#[]⟩, ([] : List (S52)), ⟨#[]⟩, ⟨#[]⟩, ⟨#[]⟩, 0, 0, false, 0, 0, 101, t246, t247))) = some (r1, r2, r3, r4, r5, r6, r7, r8, r9, r10, r11, r12, r13) := H; have A50 := am A500; clear A500
     by_cases c51 : t248 = true
     ·subst c51
      have H1 : (some (t203, X1_1, t221, t224, t227, wrap64 (t230), wrap64 (t233), (t236 == 1), wrap64 (t239), wrap64 (t242), 0, t246, t247)) = some (r1, r2, r3, r4, r5, r6, r7, r8, r9, r10, r11, r12, r13) := by rw [if_pos rfl] at H; exact H
      clear H; have H := H1; clear H1; simp only [Option.some.injEq, Prod.mk.injEq] at H; obtain ⟨rfl, rfl, rfl, rfl, rfl, rfl, rfl, rfl, rfl, rfl, rfl, rfl, rfl⟩ := H
      go_wp2_with (first | ((with_reducible refine gate_callee (f := 43) rfl ?_); refine goesL_ (some 28) rfl rfl Tryd.func43 (by kernel_rfl) rfl #[.pointer (some ⟨g, 0, none⟩), .int .i64 32] rfl ap1 ?_; (with_reducible refine (packet_Reader_Text.calls k1 g x1000_1 x1001_1 32 t221 t222 t223 w0 _ ?side1 ?side2 A23.out).mono ?_); (case side1 => exact IsS72.u HI0.out); (case side2 => exact beg (IsS72.ge HI0.out) HB.out); rintro e w52 ⟨rfl, hi, hb, hk⟩; refine ⟨_, rfl, ?_⟩; have _ := am (Kd.R_mono (Kd.R_keep (IsS72.apart (show IsS72 w0 _ g x1000_1 x1001_1 from IsS72.u HI0.out) (ru HO_203001.out) (by decide)) hk (fun _ h => h.2)) (fun _ h => h.1)); have _ := am (KeepBut.blk hk (bu BK201.out) NB201_0.out (by simp)); have _ := am (KeepBut.blk hk (bu BK202.out) NB202_0.out (by simp)); have _ := am (KeepBut.trans (ku HK.out) hk (.inl rfl)); have _ := am (hb); have _ := am (hi); clear HO_203001 BK201 BK202 HK HB HI0; rename_i HO_203001 BK201 BK202 HK HB HI0; (try clear hb hk hi)) | ((with_reducible refine gate_callee (f := 43) rfl ?_); refine goesL_ (some 30) rfl rfl Tryd.func43 (by kernel_rfl) rfl #[.pointer (some ⟨g, 0, none⟩), .int .i64 32] rfl ap1 ?_; (with_reducible refine (packet_Reader_Text.calls k1 g t222 t223 32 t224 t225 t226 w0 _ ?side1 ?side2 A24.out).mono ?_); (case side1 => exact IsS72.u HI0.out); (case side2 => exact beg (IsS72.ge HI0.out) HB.out); rintro e w53 ⟨rfl, hi, hb, hk⟩; refine ⟨_, rfl, ?_⟩; have _ := am (Kd.R_mono (Kd.R_keep (IsS72.apart (show IsS72 w0 _ g t222 t223 from IsS72.u HI0.out) (ru HO_203001.out) (by decide)) hk (fun _ h => h.2)) (fun _ h => h.1)); have _ := am (KeepBut.blk hk (bu BK201.out) NB201_0.out (by simp)); have _ := am (KeepBut.blk hk (bu BK202.out) NB202_0.out (by simp)); have _ := am (KeepBut.trans (ku HK.out) hk (.inl rfl)); have _ := am (hb); have _ := am (hi); clear HO_203001 BK201 BK202 HK HB HI0; rename_i HO_203001 BK201 BK202 HK HB HI0; (try clear hb hk hi)) | ((with_reducible refine gate_callee (f := 43) rfl ?_); refine goesL_ (some 32) rfl rfl Tryd.func43 (by kernel_rfl) rfl #[.pointer (some ⟨g, 0, none⟩), .int .i64 32] rfl ap1 ?_; (with_reducible refine (packet_Reader_Text.calls k1 g t225 t226 32 t227 t228 t229 w0 _ ?side1 ?side2 A25.out).mono ?_); (case side1 => exact IsS72.u HI0.out); (case side2 => exact beg (IsS72.ge HI0.out) HB.out); rintro e w54 ⟨rfl, hi, hb, hk⟩; refine ⟨_, rfl, ?_⟩; have _ := am (Kd.R_mono (Kd.R_keep (IsS72.apart (show IsS72 w0 _ g t225 t226 from IsS72.u HI0.out) (ru HO_203001.out) (by decide)) hk (fun _ h => h.2)) (fun _ h => h.1)); have _ := am (KeepBut.blk hk (bu BK201.out) NB201_0.out (by simp)); have _ := am (KeepBut.blk hk (bu BK202.out) NB202_0.out (by simp)); have _ := am (KeepBut.trans (ku HK.out) hk (.inl rfl)); have _ := am (hb); have _ := am (hi); clear HO_203001 BK201 BK202 HK HB HI0; rename_i HO_203001 BK201 BK202 HK HB HI0; (try clear hb hk hi); have := NB202_201.out; have := NB201_202.out; have := NB202_0.out; have := NB0_202.out; obtain ⟨_, _, _, _, _, _, _, _, _, _⟩ := cells10 BK202.out; obtain ⟨_, _, _, _, _, _, _, _, _, _⟩ := frozens10 BK202.out) | ((with_reducible refine gate_callee (f := 19) rfl ?_); refine goesL_ (some 36) rfl rfl Tryd.func19 (by kernel_rfl) rfl #[.pointer (some ⟨g, 0, none⟩), .int .u64 1000000000000] rfl ap1 ?_; (with_reducible refine (packet_Reader_Number.calls k1 g t228 t229 1000000000000 t230 t231 t232 w0 _ ?side1 ?side2 A26.out).mono ?_); (case side1 => exact IsS72.u HI0.out); (case side2 => exact beg (IsS72.ge HI0.out) HB.out); rintro e w58 ⟨rfl, hi, hb, hk⟩; refine ⟨_, rfl, ?_⟩; have _ := am (Kd.R_mono (Kd.R_keep (IsS72.apart (show IsS72 w0 _ g t228 t229 from IsS72.u HI0.out) (ru (Kd.R_mono (rf gb202 4 (rf gb202 3 (rf gb202 2 (Kd.R_types HO_203001.out BK202.out (by decide)) (.string t221)) (.string t224)) (.string t227)) (fun _ h_ => h_.1))) (by decide)) hk (fun _ h => h.2)) (fun _ h => h.1)); have _ := am (KeepBut.blk hk (g' := gb201) (o := .cells #[.string ⟨#[]⟩, .slice none 0 0, .string ⟨#[]⟩, .string ⟨#[]⟩, .string ⟨#[]⟩, .int .i64 0, .int .i64 0, .bool false, .int .i64 0, .int .i64 0] 28 (0, 0)) (bf BK201.out) NB201_0.out (by simp)); have _ := am (KeepBut.blk hk (g' := gb202) (o := .cells #[.string t203, u203001, .string t221, .string t224, .string t227, .int .i64 0, .int .i64 0, .bool false, .int .i64 0, .int .i64 0] 28 (0, 0)) (by refine bu ?_; refine blk_put (cs := #[.string t203, u203001, .string t221, .string t224, .string ⟨#[]⟩, .int .i64 0, .int .i64 0, .bool false, .int .i64 0, .int .i64 0]) ?_ 4 _ rfl; refine bu ?_; refine blk_put (cs := #[.string t203, u203001, .string t221, .string ⟨#[]⟩, .string ⟨#[]⟩, .int .i64 0, .int .i64 0, .bool false, .int .i64 0, .int .i64 0]) ?_ 3 _ rfl; refine bu ?_; refine blk_put (cs := #[.string t203, u203001, .string ⟨#[]⟩, .string ⟨#[]⟩, .string ⟨#[]⟩, .int .i64 0, .int .i64 0, .bool false, .int .i64 0, .int .i64 0]) ?_ 2 _ rfl; refine bu ?_; exact BK202.out) NB202_0.out (by simp)); have _ := am (KeepBut.trans (ku HK.out) hk (.inl rfl)); have _ := am (hb); have _ := am (hi); clear HO_203001 BK201 BK202 HK HB HI0; rename_i HO_203001 BK201 BK202 HK HB HI0; (try clear hb hk hi); obtain ⟨_, _, _, _, _, _, _, _, _, _⟩ := cells10 BK202.out; obtain ⟨_, _, _, _, _, _, _, _, _, _⟩ := frozens10 BK202.out) | ((with_reducible refine gate_callee (f := 19) rfl ?_); refine goesL_ (some 40) rfl rfl Tryd.func19 (by kernel_rfl) rfl #[.pointer (some ⟨g, 0, none⟩), .int .u64 12] rfl ap1 ?_; (with_reducible refine (packet_Reader_Number.calls k1 g t231 t232 12 t233 t234 t235 w0 _ ?side1 ?side2 A27.out).mono ?_); (case side1 => exact IsS72.u HI0.out); (case side2 => exact beg (IsS72.ge HI0.out) HB.out); rintro e w60 ⟨rfl, hi, hb, hk⟩; refine ⟨_, rfl, ?_⟩; have _ := am (Kd.R_mono (Kd.R_keep (IsS72.apart (show IsS72 w0 _ g t231 t232 from IsS72.u HI0.out) (ru (Kd.R_mono (rf gb202 5 (Kd.R_types HO_203001.out BK202.out (by decide)) (.int .i64 (wrap64 (t230)))) (fun _ h_ => h_.1))) (by decide)) hk (fun _ h => h.2)) (fun _ h => h.1)); have _ := am (KeepBut.blk hk (g' := gb201) (o := .cells #[.string ⟨#[]⟩, .slice none 0 0, .string ⟨#[]⟩, .string ⟨#[]⟩, .string ⟨#[]⟩, .int .i64 0, .int .i64 0, .bool false, .int .i64 0, .int .i64 0] 28 (0, 0)) (bf BK201.out) NB201_0.out (by simp)); have _ := am (KeepBut.blk hk (g' := gb202) (o := .cells #[.string t203, u203001, .string t221, .string t224, .string t227, .int .i64 (wrap64 (t230)), .int .i64 0, .bool false, .int .i64 0, .int .i64 0] 28 (0, 0)) (by refine bu ?_; refine blk_put (cs := #[.string t203, u203001, .string t221, .string t224, .string t227, .int .i64 0, .int .i64 0, .bool false, .int .i64 0, .int .i64 0]) ?_ 5 _ rfl; refine bu ?_; exact BK202.out) NB202_0.out (by simp)); have _ := am (KeepBut.trans (ku HK.out) hk (.inl rfl)); have _ := am (hb); have _ := am (hi); clear HO_203001 BK201 BK202 HK HB HI0; rename_i HO_203001 BK201 BK202 HK HB HI0; (try clear hb hk hi)) | ((with_reducible refine gate_callee (f := 19) rfl ?_); refine goesL_ (some 43) rfl rfl Tryd.func19 (by kernel_rfl) rfl #[.pointer (some ⟨g, 0, none⟩), .int .u64 1] rfl ap1 ?_; (with_reducible refine (packet_Reader_Number.calls k1 g t234 t235 1 t236 t237 t238 w0 _ ?side1 ?side2 A28.out).mono ?_); (case side1 => exact IsS72.u HI0.out); (case side2 => exact beg (IsS72.ge HI0.out) HB.out); rintro e w61 ⟨rfl, hi, hb, hk⟩; refine ⟨_, rfl, ?_⟩; have _ := am (Kd.R_mono (Kd.R_keep (IsS72.apart (show IsS72 w0 _ g t234 t235 from IsS72.u HI0.out) (ru HO_203001.out) (by decide)) hk (fun _ h => h.2)) (fun _ h => h.1)); have _ := am (KeepBut.blk hk (bu BK201.out) NB201_0.out (by simp)); have _ := am (KeepBut.blk hk (bu BK202.out) NB202_0.out (by simp)); have _ := am (KeepBut.trans (ku HK.out) hk (.inl rfl)); have _ := am (hb); have _ := am (hi); clear HO_203001 BK201 BK202 HK HB HI0; rename_i HO_203001 BK201 BK202 HK HB HI0; (try clear hb hk hi)) | ((with_reducible refine gate_callee (f := 19) rfl ?_); refine goesL_ (some 46) rfl rfl Tryd.func19 (by kernel_rfl) rfl #[.pointer (some ⟨g, 0, none⟩), .int .u64 1000000] rfl ap1 ?_; (with_reducible refine (packet_Reader_Number.calls k1 g t237 t238 1000000 t239 t240 t241 w0 _ ?side1 ?side2 A29.out).mono ?_); (case side1 => exact IsS72.u HI0.out); (case side2 => exact beg (IsS72.ge HI0.out) HB.out); rintro e w62 ⟨rfl, hi, hb, hk⟩; refine ⟨_, rfl, ?_⟩; have _ := am (Kd.R_mono (Kd.R_keep (IsS72.apart (show IsS72 w0 _ g t237 t238 from IsS72.u HI0.out) (ru HO_203001.out) (by decide)) hk (fun _ h => h.2)) (fun _ h => h.1)); have _ := am (KeepBut.blk hk (bu BK201.out) NB201_0.out (by simp)); have _ := am (KeepBut.blk hk (bu BK202.out) NB202_0.out (by simp)); have _ := am (KeepBut.trans (ku HK.out) hk (.inl rfl)); have _ := am (hb); have _ := am (hi); clear HO_203001 BK201 BK202 HK HB HI0; rename_i HO_203001 BK201 BK202 HK HB HI0; (try clear hb hk hi); obtain ⟨_, _, _, _, _, _, _, _, _, _⟩ := cells10 BK202.out; obtain ⟨_, _, _, _, _, _, _, _, _, _⟩ := frozens10 BK202.out) | ((with_reducible refine gate_callee (f := 19) rfl ?_); refine goesL_ (some 51) rfl rfl Tryd.func19 (by kernel_rfl) rfl #[.pointer (some ⟨g, 0, none⟩), .int .u64 1000000000000] rfl ap1 ?_; (with_reducible refine (packet_Reader_Number.calls k1 g t240 t241 1000000000000 t242 t243 t244 w0 _ ?side1 ?side2 A30.out).mono ?_); (case side1 => exact IsS72.u HI0.out); (case side2 => exact beg (IsS72.ge HI0.out) HB.out); rintro e w64 ⟨rfl, hi, hb, hk⟩; refine ⟨_, rfl, ?_⟩; have _ := am (Kd.R_mono (Kd.R_keep (IsS72.apart (show IsS72 w0 _ g t240 t241 from IsS72.u HI0.out) (ru (Kd.R_mono (rf gb202 8 (rf gb202 7 (rf gb202 6 (Kd.R_types HO_203001.out BK202.out (by decide)) (.int .i64 (wrap64 (t233)))) (.bool (t236 == 1))) (.int .i64 (wrap64 (t239)))) (fun _ h_ => h_.1))) (by decide)) hk (fun _ h => h.2)) (fun _ h => h.1)); have _ := am (KeepBut.blk hk (g' := gb201) (o := .cells #[.string ⟨#[]⟩, .slice none 0 0, .string ⟨#[]⟩, .string ⟨#[]⟩, .string ⟨#[]⟩, .int .i64 0, .int .i64 0, .bool false, .int .i64 0, .int .i64 0] 28 (0, 0)) (bf BK201.out) NB201_0.out (by simp)); have _ := am (KeepBut.blk hk (g' := gb202) (o := .cells #[.string t203, u203001, .string t221, .string t224, .string t227, .int .i64 (wrap64 (t230)), .int .i64 (wrap64 (t233)), .bool (t236 == 1), .int .i64 (wrap64 (t239)), .int .i64 0] 28 (0, 0)) (by refine bu ?_; refine blk_put (cs := #[.string t203, u203001, .string t221, .string t224, .string t227, .int .i64 (wrap64 (t230)), .int .i64 (wrap64 (t233)), .bool (t236 == 1), .int .i64 0, .int .i64 0]) ?_ 8 _ rfl; refine bu ?_; refine blk_put (cs := #[.string t203, u203001, .string t221, .string t224, .string t227, .int .i64 (wrap64 (t230)), .int .i64 (wrap64 (t233)), .bool false, .int .i64 0, .int .i64 0]) ?_ 7 _ rfl; refine bu ?_; refine blk_put (cs := #[.string t203, u203001, .string t221, .string t224, .string t227, .int .i64 (wrap64 (t230)), .int .i64 0, .bool false, .int .i64 0, .int .i64 0]) ?_ 6 _ rfl; refine bu ?_; exact BK202.out) NB202_0.out (by simp)); have _ := am (KeepBut.trans (ku HK.out) hk (.inl rfl)); have _ := am (hb); have _ := am (hi); clear HO_203001 BK201 BK202 HK HB HI0; rename_i HO_203001 BK201 BK202 HK HB HI0; (try clear hb hk hi); obtain ⟨_, _, _, _, _, _, _, _, _, _⟩ := cells10 BK202.out; obtain ⟨_, _, _, _, _, _, _, _, _, _⟩ := frozens10 BK202.out) | ((with_reducible refine gate_callee (f := 44) rfl ?_); refine goesL_ (some 55) rfl rfl Tryd.func44 (by kernel_rfl) rfl #[.pointer (some ⟨g, 0, none⟩)] rfl ap1 ?_; (with_reducible refine (packet_Reader_Bad.calls g t243 t244 false t246 t247 w0 _ ?side1 ?side2 A31.out).mono ?_); (case side1 => exact IsS72.u HI0.out); (case side2 => exact beg (IsS72.ge HI0.out) HB.out); rintro e w66 ⟨rfl, hi, hb, hk⟩; refine ⟨_, rfl, ?_⟩; have _ := am (Kd.R_mono (Kd.R_keep (IsS72.apart (show IsS72 w0 _ g t243 t244 from IsS72.u HI0.out) (ru (Kd.R_mono (rf gb202 9 (Kd.R_types HO_203001.out BK202.out (by decide)) (.int .i64 (wrap64 (t242)))) (fun _ h_ => h_.1))) (by decide)) hk (fun _ h => h.2)) (fun _ h => h.1)); have _ := am (KeepBut.blk hk (g' := gb201) (o := .cells #[.string ⟨#[]⟩, .slice none 0 0, .string ⟨#[]⟩, .string ⟨#[]⟩, .string ⟨#[]⟩, .int .i64 0, .int .i64 0, .bool false, .int .i64 0, .int .i64 0] 28 (0, 0)) (bf BK201.out) NB201_0.out (by simp)); have _ := am (KeepBut.blk hk (g' := gb202) (o := .cells #[.string t203, u203001, .string t221, .string t224, .string t227, .int .i64 (wrap64 (t230)), .int .i64 (wrap64 (t233)), .bool (t236 == 1), .int .i64 (wrap64 (t239)), .int .i64 (wrap64 (t242))] 28 (0, 0)) (by refine bu ?_; refine blk_put (cs := #[.string t203, u203001, .string t221, .string t224, .string t227, .int .i64 (wrap64 (t230)), .int .i64 (wrap64 (t233)), .bool (t236 == 1), .int .i64 (wrap64 (t239)), .int .i64 0]) ?_ 9 _ rfl; refine bu ?_; exact BK202.out) NB202_0.out (by simp)); have _ := am (KeepBut.trans (ku HK.out) hk (.inl rfl)); have _ := am (hb); have _ := am (hi); clear HO_203001 BK201 BK202 HK HB HI0; rename_i HO_203001 BK201 BK202 HK HB HI0; (try clear hb hk hi); obtain ⟨_, _, _, _, _, _, _, _, _, _⟩ := cells10 BK202.out; obtain ⟨_, _, _, _, _, _, _, _, _, _⟩ := frozens10 BK202.out; obtain ⟨Ao68, co68, eo68⟩ := Kd.R_slice HO_203001.out; subst eo68) | (go_at_call 10; (with_reducible refine (order_Right.calls k1 t203 _ _ X1_1 t221 t224 t227 (wrap64 (t230)) (wrap64 (t233)) (t236 == 1) (wrap64 (t239)) (wrap64 (t242)) true _ ?side1 ?side2 ?side3 A50.out).mono ?_); (case side1 => exact cu (Kd.R_reads' HO_203001.out).2.2); (case side2 => exact (Kd.R_reads' HO_203001.out).2.1); (case side3 => first | (with_reducible exact HT.out) | exact Tabs.below HT.out (beg (IsS72.ge HI0.out) HB.out)); rintro e w69 ⟨rfl, hb⟩; have _ := am (Kd.R_below (ru HO_203001.out) hb); have _ := am (blk_below (bu BK201.out) hb); have _ := am (blk_below (bu BK202.out) hb); have _ := am (IsS72.below (IsS72.u HI0.out) hb); have _ := am (KeepBut.trans (ku HK.out) (KeepBut.of_below hb g none) (.inl rfl)); have _ := am (below_step (beg (IsS72.ge HI0.out) HB.out) hb); clear HO_203001 BK201 BK202 HI0 HK HB; rename_i HO_203001 BK201 BK202 HI0 HK HB; (try clear hb); obtain ⟨_, _, _, _, _, _, _, _, _, _⟩ := cells10 BK202.out; obtain ⟨_, _, _, _, _, _, _, _, _, _⟩ := frozens10 BK202.out; have := NB201_0.out; have := NB0_201.out; obtain ⟨_, _, _, _, _, _, _, _, _, _⟩ := cells10 BK201.out; obtain ⟨_, _, _, _, _, _, _, _, _, _⟩ := frozens10 BK201.out))
      refine bodyPost_ret (results_ct rfl _ _ gb201 28 #[.string t203, .slice Ao68 X1_1.length co68, .string t221, .string t224, .string t227, .int .i64 (wrap64 (t230)), .int .i64 (wrap64 (t233)), .bool (t236 == 1), .int .i64 (wrap64 (t239)), .int .i64 (wrap64 (t242))] (0, 0) _ rfl (by (with_reducible repeat (first | refine blk_drewN ?_ _ | refine blk_drew ?_ | refine blk_alloc ?_ _)); refine blk_put (cs := #[.string t203, .slice Ao68 X1_1.length co68, .string t221, .string t224, .string t227, .int .i64 (wrap64 (t230)), .int .i64 (wrap64 (t233)), .bool (t236 == 1), .int .i64 (wrap64 (t239)), .int .i64 0]) ?_ 9 _ rfl; (with_reducible repeat (first | refine blk_drewN ?_ _ | refine blk_drew ?_ | refine blk_alloc ?_ _)); refine blk_put (cs := #[.string t203, .slice Ao68 X1_1.length co68, .string t221, .string t224, .string t227, .int .i64 (wrap64 (t230)), .int .i64 (wrap64 (t233)), .bool (t236 == 1), .int .i64 0, .int .i64 0]) ?_ 8 _ rfl; (with_reducible repeat (first | refine blk_drewN ?_ _ | refine blk_drew ?_ | refine blk_alloc ?_ _)); refine blk_put (cs := #[.string t203, .slice Ao68 X1_1.length co68, .string t221, .string t224, .string t227, .int .i64 (wrap64 (t230)), .int .i64 (wrap64 (t233)), .bool false, .int .i64 0, .int .i64 0]) ?_ 7 _ rfl; (with_reducible repeat (first | refine blk_drewN ?_ _ | refine blk_drew ?_ | refine blk_alloc ?_ _)); refine blk_put (cs := #[.string t203, .slice Ao68 X1_1.length co68, .string t221, .string t224, .string t227, .int .i64 (wrap64 (t230)), .int .i64 0, .bool false, .int .i64 0, .int .i64 0]) ?_ 6 _ rfl; (with_reducible repeat (first | refine blk_drewN ?_ _ | refine blk_drew ?_ | refine blk_alloc ?_ _)); refine blk_put (cs := #[.string t203, .slice Ao68 X1_1.length co68, .string t221, .string t224, .string t227, .int .i64 0, .int .i64 0, .bool false, .int .i64 0, .int .i64 0]) ?_ 5 _ rfl; (with_reducible repeat (first | refine blk_drewN ?_ _ | refine blk_drew ?_ | refine blk_alloc ?_ _)); refine blk_put (cs := #[.string t203, .slice Ao68 X1_1.length co68, .string t221, .string t224, .string ⟨#[]⟩, .int .i64 0, .int .i64 0, .bool false, .int .i64 0, .int .i64 0]) ?_ 4 _ rfl; (with_reducible repeat (first | refine blk_drewN ?_ _ | refine blk_drew ?_ | refine blk_alloc ?_ _)); refine blk_put (cs := #[.string t203, .slice Ao68 X1_1.length co68, .string t221, .string ⟨#[]⟩, .string ⟨#[]⟩, .int .i64 0, .int .i64 0, .bool false, .int .i64 0, .int .i64 0]) ?_ 3 _ rfl; (with_reducible repeat (first | refine blk_drewN ?_ _ | refine blk_drew ?_ | refine blk_alloc ?_ _)); refine blk_put (cs := #[.string t203, .slice Ao68 X1_1.length co68, .string ⟨#[]⟩, .string ⟨#[]⟩, .string ⟨#[]⟩, .int .i64 0, .int .i64 0, .bool false, .int .i64 0, .int .i64 0]) ?_ 2 _ rfl; (with_reducible repeat (first | refine blk_drewN ?_ _ | refine blk_drew ?_ | refine blk_alloc ?_ _)); refine blk_put (cs := #[.string t203, .slice none 0 0, .string ⟨#[]⟩, .string ⟨#[]⟩, .string ⟨#[]⟩, .int .i64 0, .int .i64 0, .bool false, .int .i64 0, .int .i64 0]) ?_ 1 _ rfl; (with_reducible repeat (first | refine blk_drewN ?_ _ | refine blk_drew ?_ | refine blk_alloc ?_ _)); refine blk_put (cs := #[.string ⟨#[]⟩, .slice none 0 0, .string ⟨#[]⟩, .string ⟨#[]⟩, .string ⟨#[]⟩, .int .i64 0, .int .i64 0, .bool false, .int .i64 0, .int .i64 0]) ?_ 0 _ rfl; (with_reducible repeat (first | refine blk_drewN ?_ _ | refine blk_drew ?_ | refine blk_alloc ?_ _)); exact BK201.out) Tryd.underlying28 rfl (by kernel_rfl)) rfl ?_; exact ⟨_, ap4, ru (Kd.R_mono (rf gb201 9 (rf gb201 8 (rf gb201 7 (rf gb201 6 (rf gb201 5 (rf gb201 4 (rf gb201 3 (rf gb201 2 (rf gb201 1 (rf gb201 0 (Kd.R_types HO_203001.out BK201.out (by decide)) (.string t203)) (.slice Ao68 X1_1.length co68)) (.string t221)) (.string t224)) (.string t227)) (.int .i64 (wrap64 (t230)))) (.int .i64 (wrap64 (t233)))) (.bool (t236 == 1))) (.int .i64 (wrap64 (t239)))) (.int .i64 (wrap64 (t242)))) (fun _ hk => trivial)), IsS72.u HI0.out, beg (IsS72.ge HI0.out) HB.out, ku HK.out⟩
     ·replace c51 := Bool.eq_false_iff.mpr c51
      subst c51
      have H1 : (some (⟨#[]⟩, ([] : List (S52)), ⟨#[]⟩, ⟨#[]⟩, ⟨#[]⟩, 0, 0, false, 0, 0, 101, t246, t247)) = some (r1, r2, r3, r4, r5, r6, r7, r8, r9, r10, r11, r12, r13) := by rw [if_neg (show ¬ (false = true) by decide)] at H; exact H
      clear H; have H := H1; clear H1; simp only [Option.some.injEq, Prod.mk.injEq] at H; obtain ⟨rfl, rfl, rfl, rfl, rfl, rfl, rfl, rfl, rfl, rfl, rfl, rfl, rfl⟩ := H
      go_wp2_with (first | ((with_reducible refine gate_callee (f := 43) rfl ?_); refine goesL_ (some 28) rfl rfl Tryd.func43 (by kernel_rfl) rfl #[.pointer (some ⟨g, 0, none⟩), .int .i64 32] rfl ap1 ?_; (with_reducible refine (packet_Reader_Text.calls k1 g x1000_1 x1001_1 32 t221 t222 t223 w0 _ ?side1 ?side2 A23.out).mono ?_); (case side1 => exact IsS72.u HI0.out); (case side2 => exact beg (IsS72.ge HI0.out) HB.out); rintro e w73 ⟨rfl, hi, hb, hk⟩; refine ⟨_, rfl, ?_⟩; have _ := am (Kd.R_mono (Kd.R_keep (IsS72.apart (show IsS72 w0 _ g x1000_1 x1001_1 from IsS72.u HI0.out) (ru HO_203001.out) (by decide)) hk (fun _ h => h.2)) (fun _ h => h.1)); have _ := am (KeepBut.blk hk (bu BK201.out) NB201_0.out (by simp)); have _ := am (KeepBut.blk hk (bu BK202.out) NB202_0.out (by simp)); have _ := am (KeepBut.trans (ku HK.out) hk (.inl rfl)); have _ := am (hb); have _ := am (hi); clear HO_203001 BK201 BK202 HK HB HI0; rename_i HO_203001 BK201 BK202 HK HB HI0; (try clear hb hk hi)) | ((with_reducible refine gate_callee (f := 43) rfl ?_); refine goesL_ (some 30) rfl rfl Tryd.func43 (by kernel_rfl) rfl #[.pointer (some ⟨g, 0, none⟩), .int .i64 32] rfl ap1 ?_; (with_reducible refine (packet_Reader_Text.calls k1 g t222 t223 32 t224 t225 t226 w0 _ ?side1 ?side2 A24.out).mono ?_); (case side1 => exact IsS72.u HI0.out); (case side2 => exact beg (IsS72.ge HI0.out) HB.out); rintro e w74 ⟨rfl, hi, hb, hk⟩; refine ⟨_, rfl, ?_⟩; have _ := am (Kd.R_mono (Kd.R_keep (IsS72.apart (show IsS72 w0 _ g t222 t223 from IsS72.u HI0.out) (ru HO_203001.out) (by decide)) hk (fun _ h => h.2)) (fun _ h => h.1)); have _ := am (KeepBut.blk hk (bu BK201.out) NB201_0.out (by simp)); have _ := am (KeepBut.blk hk (bu BK202.out) NB202_0.out (by simp)); have _ := am (KeepBut.trans (ku HK.out) hk (.inl rfl)); have _ := am (hb); have _ := am (hi); clear HO_203001 BK201 BK202 HK HB HI0; rename_i HO_203001 BK201 BK202 HK HB HI0; (try clear hb hk hi)) | ((with_reducible refine gate_callee (f := 43) rfl ?_); refine goesL_ (some 32) rfl rfl Tryd.func43 (by kernel_rfl) rfl #[.pointer (some ⟨g, 0, none⟩), .int .i64 32] rfl ap1 ?_; (with_reducible refine (packet_Reader_Text.calls k1 g t225 t226 32 t227 t228 t229 w0 _ ?side1 ?side2 A25.out).mono ?_); (case side1 => exact IsS72.u HI0.out); (case side2 => exact beg (IsS72.ge HI0.out) HB.out); rintro e w75 ⟨rfl, hi, hb, hk⟩; refine ⟨_, rfl, ?_⟩; have _ := am (Kd.R_mono (Kd.R_keep (IsS72.apart (show IsS72 w0 _ g t225 t226 from IsS72.u HI0.out) (ru HO_203001.out) (by decide)) hk (fun _ h => h.2)) (fun _ h => h.1)); have _ := am (KeepBut.blk hk (bu BK201.out) NB201_0.out (by simp)); have _ := am (KeepBut.blk hk (bu BK202.out) NB202_0.out (by simp)); have _ := am (KeepBut.trans (ku HK.out) hk (.inl rfl)); have _ := am (hb); have _ := am (hi); clear HO_203001 BK201 BK202 HK HB HI0; rename_i HO_203001 BK201 BK202 HK HB HI0; (try clear hb hk hi); have := NB202_201.out; have := NB201_202.out; have := NB202_0.out; have := NB0_202.out; obtain ⟨_, _, _, _, _, _, _, _, _, _⟩ := cells10 BK202.out; obtain ⟨_, _, _, _, _, _, _, _, _, _⟩ := frozens10 BK202.out) | ((with_reducible refine gate_callee (f := 19) rfl ?_); refine goesL_ (some 36) rfl rfl Tryd.func19 (by kernel_rfl) rfl #[.pointer (some ⟨g, 0, none⟩), .int .u64 1000000000000] rfl ap1 ?_; (with_reducible refine (packet_Reader_Number.calls k1 g t228 t229 1000000000000 t230 t231 t232 w0 _ ?side1 ?side2 A26.out).mono ?_); (case side1 => exact IsS72.u HI0.out); (case side2 => exact beg (IsS72.ge HI0.out) HB.out); rintro e w79 ⟨rfl, hi, hb, hk⟩; refine ⟨_, rfl, ?_⟩; have _ := am (Kd.R_mono (Kd.R_keep (IsS72.apart (show IsS72 w0 _ g t228 t229 from IsS72.u HI0.out) (ru (Kd.R_mono (rf gb202 4 (rf gb202 3 (rf gb202 2 (Kd.R_types HO_203001.out BK202.out (by decide)) (.string t221)) (.string t224)) (.string t227)) (fun _ h_ => h_.1))) (by decide)) hk (fun _ h => h.2)) (fun _ h => h.1)); have _ := am (KeepBut.blk hk (g' := gb201) (o := .cells #[.string ⟨#[]⟩, .slice none 0 0, .string ⟨#[]⟩, .string ⟨#[]⟩, .string ⟨#[]⟩, .int .i64 0, .int .i64 0, .bool false, .int .i64 0, .int .i64 0] 28 (0, 0)) (bf BK201.out) NB201_0.out (by simp)); have _ := am (KeepBut.blk hk (g' := gb202) (o := .cells #[.string t203, u203001, .string t221, .string t224, .string t227, .int .i64 0, .int .i64 0, .bool false, .int .i64 0, .int .i64 0] 28 (0, 0)) (by refine bu ?_; refine blk_put (cs := #[.string t203, u203001, .string t221, .string t224, .string ⟨#[]⟩, .int .i64 0, .int .i64 0, .bool false, .int .i64 0, .int .i64 0]) ?_ 4 _ rfl; refine bu ?_; refine blk_put (cs := #[.string t203, u203001, .string t221, .string ⟨#[]⟩, .string ⟨#[]⟩, .int .i64 0, .int .i64 0, .bool false, .int .i64 0, .int .i64 0]) ?_ 3 _ rfl; refine bu ?_; refine blk_put (cs := #[.string t203, u203001, .string ⟨#[]⟩, .string ⟨#[]⟩, .string ⟨#[]⟩, .int .i64 0, .int .i64 0, .bool false, .int .i64 0, .int .i64 0]) ?_ 2 _ rfl; refine bu ?_; exact BK202.out) NB202_0.out (by simp)); have _ := am (KeepBut.trans (ku HK.out) hk (.inl rfl)); have _ := am (hb); have _ := am (hi); clear HO_203001 BK201 BK202 HK HB HI0; rename_i HO_203001 BK201 BK202 HK HB HI0; (try clear hb hk hi); obtain ⟨_, _, _, _, _, _, _, _, _, _⟩ := cells10 BK202.out; obtain ⟨_, _, _, _, _, _, _, _, _, _⟩ := frozens10 BK202.out) | ((with_reducible refine gate_callee (f := 19) rfl ?_); refine goesL_ (some 40) rfl rfl Tryd.func19 (by kernel_rfl) rfl #[.pointer (some ⟨g, 0, none⟩), .int .u64 12] rfl ap1 ?_; (with_reducible refine (packet_Reader_Number.calls k1 g t231 t232 12 t233 t234 t235 w0 _ ?side1 ?side2 A27.out).mono ?_); (case side1 => exact IsS72.u HI0.out); (case side2 => exact beg (IsS72.ge HI0.out) HB.out); rintro e w81 ⟨rfl, hi, hb, hk⟩; refine ⟨_, rfl, ?_⟩; have _ := am (Kd.R_mono (Kd.R_keep (IsS72.apart (show IsS72 w0 _ g t231 t232 from IsS72.u HI0.out) (ru (Kd.R_mono (rf gb202 5 (Kd.R_types HO_203001.out BK202.out (by decide)) (.int .i64 (wrap64 (t230)))) (fun _ h_ => h_.1))) (by decide)) hk (fun _ h => h.2)) (fun _ h => h.1)); have _ := am (KeepBut.blk hk (g' := gb201) (o := .cells #[.string ⟨#[]⟩, .slice none 0 0, .string ⟨#[]⟩, .string ⟨#[]⟩, .string ⟨#[]⟩, .int .i64 0, .int .i64 0, .bool false, .int .i64 0, .int .i64 0] 28 (0, 0)) (bf BK201.out) NB201_0.out (by simp)); have _ := am (KeepBut.blk hk (g' := gb202) (o := .cells #[.string t203, u203001, .string t221, .string t224, .string t227, .int .i64 (wrap64 (t230)), .int .i64 0, .bool false, .int .i64 0, .int .i64 0] 28 (0, 0)) (by refine bu ?_; refine blk_put (cs := #[.string t203, u203001, .string t221, .string t224, .string t227, .int .i64 0, .int .i64 0, .bool false, .int .i64 0, .int .i64 0]) ?_ 5 _ rfl; refine bu ?_; exact BK202.out) NB202_0.out (by simp)); have _ := am (KeepBut.trans (ku HK.out) hk (.inl rfl)); have _ := am (hb); have _ := am (hi); clear HO_203001 BK201 BK202 HK HB HI0; rename_i HO_203001 BK201 BK202 HK HB HI0; (try clear hb hk hi)) | ((with_reducible refine gate_callee (f := 19) rfl ?_); refine goesL_ (some 43) rfl rfl Tryd.func19 (by kernel_rfl) rfl #[.pointer (some ⟨g, 0, none⟩), .int .u64 1] rfl ap1 ?_; (with_reducible refine (packet_Reader_Number.calls k1 g t234 t235 1 t236 t237 t238 w0 _ ?side1 ?side2 A28.out).mono ?_); (case side1 => exact IsS72.u HI0.out); (case side2 => exact beg (IsS72.ge HI0.out) HB.out); rintro e w82 ⟨rfl, hi, hb, hk⟩; refine ⟨_, rfl, ?_⟩; have _ := am (Kd.R_mono (Kd.R_keep (IsS72.apart (show IsS72 w0 _ g t234 t235 from IsS72.u HI0.out) (ru HO_203001.out) (by decide)) hk (fun _ h => h.2)) (fun _ h => h.1)); have _ := am (KeepBut.blk hk (bu BK201.out) NB201_0.out (by simp)); have _ := am (KeepBut.blk hk (bu BK202.out) NB202_0.out (by simp)); have _ := am (KeepBut.trans (ku HK.out) hk (.inl rfl)); have _ := am (hb); have _ := am (hi); clear HO_203001 BK201 BK202 HK HB HI0; rename_i HO_203001 BK201 BK202 HK HB HI0; (try clear hb hk hi)) | ((with_reducible refine gate_callee (f := 19) rfl ?_); refine goesL_ (some 46) rfl rfl Tryd.func19 (by kernel_rfl) rfl #[.pointer (some ⟨g, 0, none⟩), .int .u64 1000000] rfl ap1 ?_; (with_reducible refine (packet_Reader_Number.calls k1 g t237 t238 1000000 t239 t240 t241 w0 _ ?side1 ?side2 A29.out).mono ?_); (case side1 => exact IsS72.u HI0.out); (case side2 => exact beg (IsS72.ge HI0.out) HB.out); rintro e w83 ⟨rfl, hi, hb, hk⟩; refine ⟨_, rfl, ?_⟩; have _ := am (Kd.R_mono (Kd.R_keep (IsS72.apart (show IsS72 w0 _ g t237 t238 from IsS72.u HI0.out) (ru HO_203001.out) (by decide)) hk (fun _ h => h.2)) (fun _ h => h.1)); have _ := am (KeepBut.blk hk (bu BK201.out) NB201_0.out (by simp)); have _ := am (KeepBut.blk hk (bu BK202.out) NB202_0.out (by simp)); have _ := am (KeepBut.trans (ku HK.out) hk (.inl rfl)); have _ := am (hb); have _ := am (hi); clear HO_203001 BK201 BK202 HK HB HI0; rename_i HO_203001 BK201 BK202 HK HB HI0; (try clear hb hk hi); obtain ⟨_, _, _, _, _, _, _, _, _, _⟩ := cells10 BK202.out; obtain ⟨_, _, _, _, _, _, _, _, _, _⟩ := frozens10 BK202.out) | ((with_reducible refine gate_callee (f := 19) rfl ?_); refine goesL_ (some 51) rfl rfl Tryd.func19 (by kernel_rfl) rfl #[.pointer (some ⟨g, 0, none⟩), .int .u64 1000000000000] rfl ap1 ?_; (with_reducible refine (packet_Reader_Number.calls k1 g t240 t241 1000000000000 t242 t243 t244 w0 _ ?side1 ?side2 A30.out).mono ?_); (case side1 => exact IsS72.u HI0.out); (case side2 => exact beg (IsS72.ge HI0.out) HB.out); rintro e w85 ⟨rfl, hi, hb, hk⟩; refine ⟨_, rfl, ?_⟩; have _ := am (Kd.R_mono (Kd.R_keep (IsS72.apart (show IsS72 w0 _ g t240 t241 from IsS72.u HI0.out) (ru (Kd.R_mono (rf gb202 8 (rf gb202 7 (rf gb202 6 (Kd.R_types HO_203001.out BK202.out (by decide)) (.int .i64 (wrap64 (t233)))) (.bool (t236 == 1))) (.int .i64 (wrap64 (t239)))) (fun _ h_ => h_.1))) (by decide)) hk (fun _ h => h.2)) (fun _ h => h.1)); have _ := am (KeepBut.blk hk (g' := gb201) (o := .cells #[.string ⟨#[]⟩, .slice none 0 0, .string ⟨#[]⟩, .string ⟨#[]⟩, .string ⟨#[]⟩, .int .i64 0, .int .i64 0, .bool false, .int .i64 0, .int .i64 0] 28 (0, 0)) (bf BK201.out) NB201_0.out (by simp)); have _ := am (KeepBut.blk hk (g' := gb202) (o := .cells #[.string t203, u203001, .string t221, .string t224, .string t227, .int .i64 (wrap64 (t230)), .int .i64 (wrap64 (t233)), .bool (t236 == 1), .int .i64 (wrap64 (t239)), .int .i64 0] 28 (0, 0)) (by refine bu ?_; refine blk_put (cs := #[.string t203, u203001, .string t221, .string t224, .string t227, .int .i64 (wrap64 (t230)), .int .i64 (wrap64 (t233)), .bool (t236 == 1), .int .i64 0, .int .i64 0]) ?_ 8 _ rfl; refine bu ?_; refine blk_put (cs := #[.string t203, u203001, .string t221, .string t224, .string t227, .int .i64 (wrap64 (t230)), .int .i64 (wrap64 (t233)), .bool false, .int .i64 0, .int .i64 0]) ?_ 7 _ rfl; refine bu ?_; refine blk_put (cs := #[.string t203, u203001, .string t221, .string t224, .string t227, .int .i64 (wrap64 (t230)), .int .i64 0, .bool false, .int .i64 0, .int .i64 0]) ?_ 6 _ rfl; refine bu ?_; exact BK202.out) NB202_0.out (by simp)); have _ := am (KeepBut.trans (ku HK.out) hk (.inl rfl)); have _ := am (hb); have _ := am (hi); clear HO_203001 BK201 BK202 HK HB HI0; rename_i HO_203001 BK201 BK202 HK HB HI0; (try clear hb hk hi); obtain ⟨_, _, _, _, _, _, _, _, _, _⟩ := cells10 BK202.out; obtain ⟨_, _, _, _, _, _, _, _, _, _⟩ := frozens10 BK202.out) | ((with_reducible refine gate_callee (f := 44) rfl ?_); refine goesL_ (some 55) rfl rfl Tryd.func44 (by kernel_rfl) rfl #[.pointer (some ⟨g, 0, none⟩)] rfl ap1 ?_; (with_reducible refine (packet_Reader_Bad.calls g t243 t244 false t246 t247 w0 _ ?side1 ?side2 A31.out).mono ?_); (case side1 => exact IsS72.u HI0.out); (case side2 => exact beg (IsS72.ge HI0.out) HB.out); rintro e w87 ⟨rfl, hi, hb, hk⟩; refine ⟨_, rfl, ?_⟩; have _ := am (Kd.R_mono (Kd.R_keep (IsS72.apart (show IsS72 w0 _ g t243 t244 from IsS72.u HI0.out) (ru (Kd.R_mono (rf gb202 9 (Kd.R_types HO_203001.out BK202.out (by decide)) (.int .i64 (wrap64 (t242)))) (fun _ h_ => h_.1))) (by decide)) hk (fun _ h => h.2)) (fun _ h => h.1)); have _ := am (KeepBut.blk hk (g' := gb201) (o := .cells #[.string ⟨#[]⟩, .slice none 0 0, .string ⟨#[]⟩, .string ⟨#[]⟩, .string ⟨#[]⟩, .int .i64 0, .int .i64 0, .bool false, .int .i64 0, .int .i64 0] 28 (0, 0)) (bf BK201.out) NB201_0.out (by simp)); have _ := am (KeepBut.blk hk (g' := gb202) (o := .cells #[.string t203, u203001, .string t221, .string t224, .string t227, .int .i64 (wrap64 (t230)), .int .i64 (wrap64 (t233)), .bool (t236 == 1), .int .i64 (wrap64 (t239)), .int .i64 (wrap64 (t242))] 28 (0, 0)) (by refine bu ?_; refine blk_put (cs := #[.string t203, u203001, .string t221, .string t224, .string t227, .int .i64 (wrap64 (t230)), .int .i64 (wrap64 (t233)), .bool (t236 == 1), .int .i64 (wrap64 (t239)), .int .i64 0]) ?_ 9 _ rfl; refine bu ?_; exact BK202.out) NB202_0.out (by simp)); have _ := am (KeepBut.trans (ku HK.out) hk (.inl rfl)); have _ := am (hb); have _ := am (hi); clear HO_203001 BK201 BK202 HK HB HI0; rename_i HO_203001 BK201 BK202 HK HB HI0; (try clear hb hk hi); obtain ⟨_, _, _, _, _, _, _, _, _, _⟩ := cells10 BK202.out; obtain ⟨_, _, _, _, _, _, _, _, _, _⟩ := frozens10 BK202.out; obtain ⟨Ao89, co89, eo89⟩ := Kd.R_slice HO_203001.out; subst eo89) | (go_at_call 10; (with_reducible refine (order_Right.calls k1 t203 _ _ X1_1 t221 t224 t227 (wrap64 (t230)) (wrap64 (t233)) (t236 == 1) (wrap64 (t239)) (wrap64 (t242)) false _ ?side1 ?side2 ?side3 A50.out).mono ?_); (case side1 => exact cu (Kd.R_reads' HO_203001.out).2.2); (case side2 => exact (Kd.R_reads' HO_203001.out).2.1); (case side3 => first | (with_reducible exact HT.out) | exact Tabs.below HT.out (beg (IsS72.ge HI0.out) HB.out)); rintro e w90 ⟨rfl, hb⟩; have _ := am (Kd.R_below (ru HO_203001.out) hb); have _ := am (blk_below (bu BK201.out) hb); have _ := am (blk_below (bu BK202.out) hb); have _ := am (IsS72.below (IsS72.u HI0.out) hb); have _ := am (KeepBut.trans (ku HK.out) (KeepBut.of_below hb g none) (.inl rfl)); have _ := am (below_step (beg (IsS72.ge HI0.out) HB.out) hb); clear HO_203001 BK201 BK202 HI0 HK HB; rename_i HO_203001 BK201 BK202 HI0 HK HB; (try clear hb); have := NB201_0.out; have := NB0_201.out; obtain ⟨_, _, _, _, _, _, _, _, _, _⟩ := cells10 BK201.out; obtain ⟨_, _, _, _, _, _, _, _, _, _⟩ := frozens10 BK201.out))
      refine bodyPost_ret (results_ct rfl _ _ gb201 28 #[.string ⟨#[]⟩, .slice none 0 0, .string ⟨#[]⟩, .string ⟨#[]⟩, .string ⟨#[]⟩, .int .i64 0, .int .i64 0, .bool false, .int .i64 0, .int .i64 0] (0, 0) _ rfl (by (with_reducible repeat (first | refine blk_drewN ?_ _ | refine blk_drew ?_ | refine blk_alloc ?_ _)); refine blk_put (cs := #[.string ⟨#[]⟩, .slice none 0 0, .string ⟨#[]⟩, .string ⟨#[]⟩, .string ⟨#[]⟩, .int .i64 0, .int .i64 0, .bool false, .int .i64 0, .int .i64 0]) ?_ 9 _ rfl; (with_reducible repeat (first | refine blk_drewN ?_ _ | refine blk_drew ?_ | refine blk_alloc ?_ _)); refine blk_put (cs := #[.string ⟨#[]⟩, .slice none 0 0, .string ⟨#[]⟩, .string ⟨#[]⟩, .string ⟨#[]⟩, .int .i64 0, .int .i64 0, .bool false, .int .i64 0, .int .i64 0]) ?_ 8 _ rfl; (with_reducible repeat (first | refine blk_drewN ?_ _ | refine blk_drew ?_ | refine blk_alloc ?_ _)); refine blk_put (cs := #[.string ⟨#[]⟩, .slice none 0 0, .string ⟨#[]⟩, .string ⟨#[]⟩, .string ⟨#[]⟩, .int .i64 0, .int .i64 0, .bool false, .int .i64 0, .int .i64 0]) ?_ 7 _ rfl; (with_reducible repeat (first | refine blk_drewN ?_ _ | refine blk_drew ?_ | refine blk_alloc ?_ _)); refine blk_put (cs := #[.string ⟨#[]⟩, .slice none 0 0, .string ⟨#[]⟩, .string ⟨#[]⟩, .string ⟨#[]⟩, .int .i64 0, .int .i64 0, .bool false, .int .i64 0, .int .i64 0]) ?_ 6 _ rfl; (with_reducible repeat (first | refine blk_drewN ?_ _ | refine blk_drew ?_ | refine blk_alloc ?_ _)); refine blk_put (cs := #[.string ⟨#[]⟩, .slice none 0 0, .string ⟨#[]⟩, .string ⟨#[]⟩, .string ⟨#[]⟩, .int .i64 0, .int .i64 0, .bool false, .int .i64 0, .int .i64 0]) ?_ 5 _ rfl; (with_reducible repeat (first | refine blk_drewN ?_ _ | refine blk_drew ?_ | refine blk_alloc ?_ _)); refine blk_put (cs := #[.string ⟨#[]⟩, .slice none 0 0, .string ⟨#[]⟩, .string ⟨#[]⟩, .string ⟨#[]⟩, .int .i64 0, .int .i64 0, .bool false, .int .i64 0, .int .i64 0]) ?_ 4 _ rfl; (with_reducible repeat (first | refine blk_drewN ?_ _ | refine blk_drew ?_ | refine blk_alloc ?_ _)); refine blk_put (cs := #[.string ⟨#[]⟩, .slice none 0 0, .string ⟨#[]⟩, .string ⟨#[]⟩, .string ⟨#[]⟩, .int .i64 0, .int .i64 0, .bool false, .int .i64 0, .int .i64 0]) ?_ 3 _ rfl; (with_reducible repeat (first | refine blk_drewN ?_ _ | refine blk_drew ?_ | refine blk_alloc ?_ _)); refine blk_put (cs := #[.string ⟨#[]⟩, .slice none 0 0, .string ⟨#[]⟩, .string ⟨#[]⟩, .string ⟨#[]⟩, .int .i64 0, .int .i64 0, .bool false, .int .i64 0, .int .i64 0]) ?_ 2 _ rfl; (with_reducible repeat (first | refine blk_drewN ?_ _ | refine blk_drew ?_ | refine blk_alloc ?_ _)); refine blk_put (cs := #[.string ⟨#[]⟩, .slice none 0 0, .string ⟨#[]⟩, .string ⟨#[]⟩, .string ⟨#[]⟩, .int .i64 0, .int .i64 0, .bool false, .int .i64 0, .int .i64 0]) ?_ 1 _ rfl; (with_reducible repeat (first | refine blk_drewN ?_ _ | refine blk_drew ?_ | refine blk_alloc ?_ _)); refine blk_put (cs := #[.string ⟨#[]⟩, .slice none 0 0, .string ⟨#[]⟩, .string ⟨#[]⟩, .string ⟨#[]⟩, .int .i64 0, .int .i64 0, .bool false, .int .i64 0, .int .i64 0]) ?_ 0 _ rfl; (with_reducible repeat (first | refine blk_drewN ?_ _ | refine blk_drew ?_ | refine blk_alloc ?_ _)); exact BK201.out) Tryd.underlying28 rfl (by kernel_rfl)) rfl ?_; exact ⟨_, ap4, by first | exact Kd.R_nil _ _ _ _ _ | exact Kd.N_nil _ _ _ _ _ | exact Kd.V_nil _ _ _ _ _ | exact Kd.Q_nil _ _ _ _ _ | exact Kd.S_nil _ _ _ _ _, IsS72.u HI0.out, beg (IsS72.ge HI0.out) HB.out, ku HK.out⟩
theorem order_Take.callsJ (k : Nat) (g : Nat) (s0_0 : List Int) (s0_1 : Bool) (r1 : ByteArray) (r2 : List (S52)) (r3 : ByteArray) (r4 : ByteArray) (r5 : ByteArray) (r6 : Int) (r7 : Int) (r8 : Bool) (r9 : Int) (r10 : Int) (r11 : Int) (r12 : List Int) (r13 : Bool) (w0 w : World) (hI : JS72 w0 w g s0_0 s0_1) (hB : Below w0.heap.size w0 w) (hT : Tabs w0) (h : order_Take.f k s0_0 s0_1 = some (r1, r2, r3, r4, r5, r6, r7, r8, r9, r10, r11, r12, r13)) :
  Calls Tryd.prog 16 #[.pointer (some ⟨g, 0, none⟩)] w fun e w' => ∃ v1_ : Value, e = .returned (.tuple #[.agg #[.string r1, v1_, .string r3, .string r4, .string r5, .int .i64 r6, .int .i64 r7, .bool r8, .int .i64 r9, .int .i64 r10], .int .i64 r11]) ∧ Kd.R k52 52 w' w.heap.size (fun _ => True) v1_ r2 ∧ JS72 w0 w' g r12 r13 ∧ Below w0.heap.size w0 w' ∧ KeepBut w w' g none := by
 obtain ⟨wS, hIs, hBs, hle⟩ := hI
 exact (order_Take.calls k g s0_0 s0_1 r1 r2 r3 r4 r5 r6 r7 r8 r9 r10 r11 r12 r13 wS w hIs hBs (Tabs.below hT hle) h).mono fun e w' hp_ => by
  obtain ⟨z0_, p0_, p1_, hi_, hb_, hk_⟩ := hp_; exact ⟨z0_, p0_, p1_, ⟨wS, hi_, hb_, hle⟩, below_keepJ72 hB hBs hb_ hk_ (Nat.le_trans hle.size (IsS72.ge hIs)), hk_⟩
def packhorselaw10_plain.f  : Option (ByteArray × (List (S52)) × ByteArray × ByteArray × ByteArray × Int × Int × Bool × Int × Int) := some ((⟨#[97, 49]⟩ : ByteArray), (([(⟨(⟨#[120]⟩ : ByteArray), 2, 5⟩ : S52)] : List (S52))), (⟨#[99]⟩ : ByteArray), (⟨#[122]⟩ : ByteArray), (⟨#[115]⟩ : ByteArray), 100, 3, false, 0, 7)
set_option maxHeartbeats 8000000 in
set_option maxRecDepth 100000 in
theorem packhorselaw10_plain.calls  (r1 : ByteArray) (r2 : List (S52)) (r3 : ByteArray) (r4 : ByteArray) (r5 : ByteArray) (r6 : Int) (r7 : Int) (r8 : Bool) (r9 : Int) (r10 : Int) (w : World) (h : packhorselaw10_plain.f  = some (r1, r2, r3, r4, r5, r6, r7, r8, r9, r10)) :
  Calls Tryd.prog 26 #[] w fun e w' => ∃ v1_ : Value, e = .returned (.agg #[.string r1, v1_, .string r3, .string r4, .string r5, .int .i64 r6, .int .i64 r7, .bool r8, .int .i64 r9, .int .i64 r10]) ∧ Kd.R k52 52 w' w.heap.size (fun _ => True) v1_ r2 ∧ Below w.heap.size w w' := by
 have hu28 := Tryd.underlying28; have hu52 := Tryd.underlying52; have hu24 := Tryd.underlying24; have hu26 := Tryd.underlying26; have HB := am (Below.refl w.heap.size w); have H : (some ((⟨#[97, 49]⟩ : ByteArray), (([(⟨(⟨#[120]⟩ : ByteArray), 2, 5⟩ : S52)] : List (S52))), (⟨#[99]⟩ : ByteArray), (⟨#[122]⟩ : ByteArray), (⟨#[115]⟩ : ByteArray), 100, 3, false, 0, 7)) = some (r1, r2, r3, r4, r5, r6, r7, r8, r9, r10) := h; clear h; obtain ⟨y250, hy250⟩ : ∃ y_ : List (S52), y_ = (([(⟨(⟨#[120]⟩ : ByteArray), 2, 5⟩ : S52)] : List (S52))) := ⟨_, rfl⟩
 replace H : (some ((⟨#[97, 49]⟩ : ByteArray), y250, (⟨#[99]⟩ : ByteArray), (⟨#[122]⟩ : ByteArray), (⟨#[115]⟩ : ByteArray), 100, 3, false, 0, 7)) = some (r1, r2, r3, r4, r5, r6, r7, r8, r9, r10) := by first | (rw [hy250]; with_reducible exact H) | (have H2_ := (Option.bind_some _ _).symm.trans H; rw [hy250]; with_reducible exact H2_) | (have H2_ := (Option.bind_some _ _).symm.trans H; with_reducible exact H2_) | with_reducible exact H | (rw [hy250]; exact H) | exact H
 have Ny250 := am hy250; clear hy250; simp only [Option.some.injEq, Prod.mk.injEq] at H; obtain ⟨rfl, rfl, rfl, rfl, rfl, rfl, rfl, rfl, rfl, rfl⟩ := H
 go_enter Tryd.func26, Tryd.ntmps26
 go_wp2_with (first | ((with_reducible refine gate_dst (N := 0) rfl ?_); refine box_event ?hg (N := 0) ?hd (cs := #[.string ⟨#[]⟩, .slice none 0 0, .string ⟨#[]⟩, .string ⟨#[]⟩, .string ⟨#[]⟩, .int .i64 0, .int .i64 0, .bool false, .int .i64 0, .int .i64 0]) (t := 28) ?hr ?_; (case hd => rfl); (case hg => rfl); (case hr => first | (go_simp; done) | (go_simp; rfl)); intro gb249 hg w1 hbox hb; have _ := am (below_step (beu HB.out) hb); have _ := am (hbox); have _ := am ((by rw [hg]; exact (below_size (beu HB.out)) : w.heap.size ≤ gb249)); have _ := am ((by rw [hg]; exact (below_size (beu HB.out)) : w.heap.size ≤ gb249)); clear HB; rename_i HB BK249 GW249 GE249; clear hb hbox hg) | ((with_reducible refine gate_dst (N := 2) rfl ?_); refine Kd.R_lit k52 _ 52 ?hg (N := 2) ?hd (xs := ([(⟨(⟨#[120]⟩ : ByteArray), 2, 5⟩ : S52)] : List (S52))) (inner := [.string (⟨#[120]⟩ : ByteArray), .int .i64 2, .int .i64 5]) (ok := fun _ => True) (okp := fun _ => True) ?hr ?hp (fun _ hk => hk) trivial (Below.refl _ _) (Nat.le_refl _) (by simp) ?_; (case hd => rfl); (case hg => rfl); (case hr => first | (go_simp; done) | (go_simp; rfl)); (case hp => exact (Reps.c3 (show Kd.M k52 _ _ _ (⟨(⟨#[120]⟩ : ByteArray), 2, 5⟩ : S52) [.string (⟨#[120]⟩ : ByteArray), .int .i64 2, .int .i64 5] from (k52_mkM _ _ _ (⟨(⟨#[120]⟩ : ByteArray), 2, 5⟩ : S52) )) (Reps.none _ _))); intro v251 w2 ho3 hb hg_ hnew_; clear hg_ hnew_; (first | rw [← Ny250.out] at ho3 | (simp only [Int.reduceToNat] at ho3; rw [← Ny250.out] at ho3)); have _ := am (Kd.R_lower ho3 (below_size (beu HB.out))); have _ := am (blk_below (bu BK249.out) hb); have _ := am (below_step (beu HB.out) hb); clear BK249 HB; rename_i HO252 BK249 HB; clear hb ho3; obtain ⟨Ao4, co4, eo4⟩ := Kd.R_slice HO252.out; subst eo4; obtain ⟨_, _, _, _, _, _, _, _, _, _⟩ := cells10 BK249.out; obtain ⟨_, _, _, _, _, _, _, _, _, _⟩ := frozens10 BK249.out))
 refine bodyPost_ret (results_cell_row rfl _ _ gb249 28 #[.string (⟨#[97, 49]⟩ : ByteArray), .slice Ao4 y250.length co4, .string (⟨#[99]⟩ : ByteArray), .string (⟨#[122]⟩ : ByteArray), .string (⟨#[115]⟩ : ByteArray), .int .i64 100, .int .i64 3, .bool false, .int .i64 0, .int .i64 7] (0, 0) _ rfl (by (with_reducible repeat (first | refine blk_drewN ?_ _ | refine blk_drew ?_ | refine blk_alloc ?_ _)); refine blk_put (cs := #[.string (⟨#[97, 49]⟩ : ByteArray), .slice Ao4 y250.length co4, .string (⟨#[99]⟩ : ByteArray), .string (⟨#[122]⟩ : ByteArray), .string (⟨#[115]⟩ : ByteArray), .int .i64 100, .int .i64 3, .bool false, .int .i64 0, .int .i64 0]) ?_ 9 _ rfl; (with_reducible repeat (first | refine blk_drewN ?_ _ | refine blk_drew ?_ | refine blk_alloc ?_ _)); refine blk_put (cs := #[.string (⟨#[97, 49]⟩ : ByteArray), .slice Ao4 y250.length co4, .string (⟨#[99]⟩ : ByteArray), .string (⟨#[122]⟩ : ByteArray), .string (⟨#[115]⟩ : ByteArray), .int .i64 100, .int .i64 3, .bool false, .int .i64 0, .int .i64 0]) ?_ 8 _ rfl; (with_reducible repeat (first | refine blk_drewN ?_ _ | refine blk_drew ?_ | refine blk_alloc ?_ _)); refine blk_put (cs := #[.string (⟨#[97, 49]⟩ : ByteArray), .slice Ao4 y250.length co4, .string (⟨#[99]⟩ : ByteArray), .string (⟨#[122]⟩ : ByteArray), .string (⟨#[115]⟩ : ByteArray), .int .i64 100, .int .i64 3, .bool false, .int .i64 0, .int .i64 0]) ?_ 7 _ rfl; (with_reducible repeat (first | refine blk_drewN ?_ _ | refine blk_drew ?_ | refine blk_alloc ?_ _)); refine blk_put (cs := #[.string (⟨#[97, 49]⟩ : ByteArray), .slice Ao4 y250.length co4, .string (⟨#[99]⟩ : ByteArray), .string (⟨#[122]⟩ : ByteArray), .string (⟨#[115]⟩ : ByteArray), .int .i64 100, .int .i64 0, .bool false, .int .i64 0, .int .i64 0]) ?_ 6 _ rfl; (with_reducible repeat (first | refine blk_drewN ?_ _ | refine blk_drew ?_ | refine blk_alloc ?_ _)); refine blk_put (cs := #[.string (⟨#[97, 49]⟩ : ByteArray), .slice Ao4 y250.length co4, .string (⟨#[99]⟩ : ByteArray), .string (⟨#[122]⟩ : ByteArray), .string (⟨#[115]⟩ : ByteArray), .int .i64 0, .int .i64 0, .bool false, .int .i64 0, .int .i64 0]) ?_ 5 _ rfl; (with_reducible repeat (first | refine blk_drewN ?_ _ | refine blk_drew ?_ | refine blk_alloc ?_ _)); refine blk_put (cs := #[.string (⟨#[97, 49]⟩ : ByteArray), .slice Ao4 y250.length co4, .string (⟨#[99]⟩ : ByteArray), .string (⟨#[122]⟩ : ByteArray), .string ⟨#[]⟩, .int .i64 0, .int .i64 0, .bool false, .int .i64 0, .int .i64 0]) ?_ 4 _ rfl; (with_reducible repeat (first | refine blk_drewN ?_ _ | refine blk_drew ?_ | refine blk_alloc ?_ _)); refine blk_put (cs := #[.string (⟨#[97, 49]⟩ : ByteArray), .slice Ao4 y250.length co4, .string (⟨#[99]⟩ : ByteArray), .string ⟨#[]⟩, .string ⟨#[]⟩, .int .i64 0, .int .i64 0, .bool false, .int .i64 0, .int .i64 0]) ?_ 3 _ rfl; (with_reducible repeat (first | refine blk_drewN ?_ _ | refine blk_drew ?_ | refine blk_alloc ?_ _)); refine blk_put (cs := #[.string (⟨#[97, 49]⟩ : ByteArray), .slice Ao4 y250.length co4, .string ⟨#[]⟩, .string ⟨#[]⟩, .string ⟨#[]⟩, .int .i64 0, .int .i64 0, .bool false, .int .i64 0, .int .i64 0]) ?_ 2 _ rfl; (with_reducible repeat (first | refine blk_drewN ?_ _ | refine blk_drew ?_ | refine blk_alloc ?_ _)); refine blk_put (cs := #[.string (⟨#[97, 49]⟩ : ByteArray), .slice none 0 0, .string ⟨#[]⟩, .string ⟨#[]⟩, .string ⟨#[]⟩, .int .i64 0, .int .i64 0, .bool false, .int .i64 0, .int .i64 0]) ?_ 1 _ rfl; (with_reducible repeat (first | refine blk_drewN ?_ _ | refine blk_drew ?_ | refine blk_alloc ?_ _)); refine blk_put (cs := #[.string ⟨#[]⟩, .slice none 0 0, .string ⟨#[]⟩, .string ⟨#[]⟩, .string ⟨#[]⟩, .int .i64 0, .int .i64 0, .bool false, .int .i64 0, .int .i64 0]) ?_ 0 _ rfl; (with_reducible repeat (first | refine blk_drewN ?_ _ | refine blk_drew ?_ | refine blk_alloc ?_ _)); exact BK249.out) Tryd.underlying28 rfl (by kernel_rfl)) rfl ?_; exact ⟨_, ap4, ru (Kd.R_mono (rf gb249 9 (rf gb249 8 (rf gb249 7 (rf gb249 6 (rf gb249 5 (rf gb249 4 (rf gb249 3 (rf gb249 2 (rf gb249 1 (rf gb249 0 (Kd.R_types HO252.out BK249.out (by decide)) (.string (⟨#[97, 49]⟩ : ByteArray))) (.slice Ao4 y250.length co4)) (.string (⟨#[99]⟩ : ByteArray))) (.string (⟨#[122]⟩ : ByteArray))) (.string (⟨#[115]⟩ : ByteArray))) (.int .i64 100)) (.int .i64 3)) (.bool false)) (.int .i64 0)) (.int .i64 7)) (fun _ hk => trivial)), beu HB.out⟩
theorem reads_cells (W : World) (g : Nat) (cs : Array Value) (t : TypeId) (fr : Nat × Nat) (hb : W.heap[g]? = some (.cells cs t fr)) (k : IntKind) (xs : List Int) (hcs : cs = (xs.map (Value.int k)).toArray) (hl : xs.length ≤ 9223372036854775807) :
  Kd.C (Kd.int k) W (some ⟨g, 0, none⟩) xs.length xs := by
 subst hcs; refine ⟨rfl, hl, fun _ => ⟨_, rfl, fun j p hj => ⟨[.int k p], rfl, rfl, fun i u hu => ?_⟩⟩⟩
 cases i with
 | zero =>
  obtain rfl : Value.int k p = u := by simpa using hu
  rw [add_plain]
  show W.cell? ⟨g, j * 1 + 0, none⟩ = _
  rw [Nat.mul_one, Nat.add_zero, cell_of_row W g j _ t fr hb]; simp [hj]
 | succ i => simp at hu
theorem blk_new' (w : World) (o : Obj) : (w.alloc o).heap[w.heap.size]? = some o := heap_alloc_new w o
def packhorselaw10_orderAlive.j0 : Nat → List Int → Bool → Option (Bool)
 | 0, _, _ => none
 | k + 1, x1, x16 => if x16 = true then (some false) else (if 1 ≤ (x1.length : Int) then ((packet_New.f (x1.drop 1)).bind fun bt276 => ((order_Take.f k bt276.1 bt276.2).bind fun bt279 => (if bt279.2.2.2.2.2.2.2.2.2.2.1 = 0 then ((packhorselaw10_plain.f).bind fun bt295 => ((order_Same.f k bt279.1 bt279.2.1 bt279.2.2.1 bt279.2.2.2.1 bt279.2.2.2.2.1 bt279.2.2.2.2.2.1 bt279.2.2.2.2.2.2.1 bt279.2.2.2.2.2.2.2.1 bt279.2.2.2.2.2.2.2.2.1 bt279.2.2.2.2.2.2.2.2.2.1 bt295.1 bt295.2.1 bt295.2.2.1 bt295.2.2.2.1 bt295.2.2.2.2.1 bt295.2.2.2.2.2.1 bt295.2.2.2.2.2.2.1 bt295.2.2.2.2.2.2.2.1 bt295.2.2.2.2.2.2.2.2.1 bt295.2.2.2.2.2.2.2.2.2).bind fun t307 => (if t307 = true then ((order_Right.f k bt279.1 bt279.2.1 bt279.2.2.1 bt279.2.2.2.1 bt279.2.2.2.2.1 bt279.2.2.2.2.2.1 bt279.2.2.2.2.2.2.1 bt279.2.2.2.2.2.2.2.1 bt279.2.2.2.2.2.2.2.2.1 bt279.2.2.2.2.2.2.2.2.2.1).bind fun t308 => (some t308)) else (some false)))) else (some false)))) else (none))
def packhorselaw10_orderAlive.f (k : Nat)  : Option (Bool) := (packhorselaw10_plain.f).bind fun bt256 => ((order_Put.f k (([98] : List Int)) bt256.1 bt256.2.1 bt256.2.2.1 bt256.2.2.2.1 bt256.2.2.2.2.1 bt256.2.2.2.2.2.1 bt256.2.2.2.2.2.2.1 bt256.2.2.2.2.2.2.2.1 bt256.2.2.2.2.2.2.2.2.1 bt256.2.2.2.2.2.2.2.2.2).bind fun t268 => (if (t268.length : Int) < 2 then (packhorselaw10_orderAlive.j0 k t268 true) else (if 0 < (t268.length : Int) then (packhorselaw10_orderAlive.j0 k t268 ((rd t268 0) != 98)) else (none))))
theorem packhorselaw10_orderAlive.mono_l : ∀ k, (∀ y0 y1, LeO (packhorselaw10_orderAlive.j0 k y0 y1) (packhorselaw10_orderAlive.j0 (k + 1) y0 y1))
 | 0 => fun _ _ r h => by simp [packhorselaw10_orderAlive.j0] at h
 | k + 1 => by
  have ih0 := packhorselaw10_orderAlive.mono_l k
  ·intro y0 y1
   unfold packhorselaw10_orderAlive.j0
   repeat' first
   | (with_reducible exact ih0 _ _)
   | (with_reducible exact order_Put.mono _ _ _ _ _ _ _ _ _ _ _ _)
   | (with_reducible exact order_Right.mono _ _ _ _ _ _ _ _ _ _ _)
   | (with_reducible exact order_Same.mono _ _ _ _ _ _ _ _ _ _ _ _ _ _ _ _ _ _ _ _ _)
   | (with_reducible exact order_Take.mono _ _ _)
   | (with_reducible exact LeO.refl _)
   | (with_reducible exact LeO.none _)
   | (with_reducible refine LeO.ite ?_ ?_)
   | (with_reducible refine LeO.bind ?_ (fun _ => ?_))
   | exact ih0 _ _
   | exact order_Put.mono _ _ _ _ _ _ _ _ _ _ _ _
   | exact order_Right.mono _ _ _ _ _ _ _ _ _ _ _
   | exact order_Same.mono _ _ _ _ _ _ _ _ _ _ _ _ _ _ _ _ _ _ _ _ _
   | exact order_Take.mono _ _ _
   | exact LeO.none _
   | refine LeO.ite ?_ ?_
   | refine LeO.bind ?_ (fun _ => ?_)
theorem packhorselaw10_orderAlive.mono : ∀ k, LeO (packhorselaw10_orderAlive.f k ) (packhorselaw10_orderAlive.f (k + 1) ) := by
 intro  k; have ih0 := packhorselaw10_orderAlive.mono_l k
 unfold packhorselaw10_orderAlive.f
 repeat' first
   | (with_reducible exact ih0 _ _)
   | (with_reducible exact order_Put.mono _ _ _ _ _ _ _ _ _ _ _ _)
   | (with_reducible exact order_Right.mono _ _ _ _ _ _ _ _ _ _ _)
   | (with_reducible exact order_Same.mono _ _ _ _ _ _ _ _ _ _ _ _ _ _ _ _ _ _ _ _ _)
   | (with_reducible exact order_Take.mono _ _ _)
   | (with_reducible exact LeO.refl _)
   | (with_reducible exact LeO.none _)
   | (with_reducible refine LeO.ite ?_ ?_)
   | (with_reducible refine LeO.bind ?_ (fun _ => ?_))
   | exact ih0 _ _
   | exact order_Put.mono _ _ _ _ _ _ _ _ _ _ _ _
   | exact order_Right.mono _ _ _ _ _ _ _ _ _ _ _
   | exact order_Same.mono _ _ _ _ _ _ _ _ _ _ _ _ _ _ _ _ _ _ _ _ _
   | exact order_Take.mono _ _ _
   | exact LeO.none _
   | refine LeO.ite ?_ ?_
   | refine LeO.bind ?_ (fun _ => ?_)
def packhorselaw10_orderAlive.T5 : Bool × List (List Nat × List Nat) := (true, [([], []), ([0], [0]), ([1], [1]), ([2], [2]), ([2, 2], [2]), ([3, 4, 4, 2], [2, 3, 4]), ([2, 5], [2, 5]), ([6, 5], [6]), ([7], [7]), ([8, 7, 7], [7, 8]), ([7, 9], [7, 9]), ([10, 9, 0, 1, 2, 3, 4, 5, 6, 7, 8, 9, 10], [10])])
def packhorselaw10_orderAlive.B5 : List Nat := [0, 1, 3, 7, 7, 31, 63, 127, 255, 511, 1023, 2047]
theorem packhorselaw10_orderAlive.tab5 : rtab .any (opsOf Tryd.f9 5) = packhorselaw10_orderAlive.T5 := by kernel_rfl
theorem packhorselaw10_orderAlive.bits5 : waitsOk packhorselaw10_orderAlive.T5.2 packhorselaw10_orderAlive.B5 = true := by kernel_rfl
set_option maxHeartbeats 8000000 in
set_option maxRecDepth 100000 in
theorem packhorselaw10_orderAlive.calls (k : Nat)  (r : Bool) (w : World) (hT : Tabs w) (h : packhorselaw10_orderAlive.f k  = some r) (hr_ : r = true) :
  Calls Tryd.prog 9 #[] w fun e w' => e = .returned (.bool r) ∧ Below w.heap.size w w' := by
 have hu28 := Tryd.underlying28; have HRT := am hr_; clear hr_; have HT := am hT; clear hT; have HB := am (Below.refl w.heap.size w); have H : ((packhorselaw10_plain.f).bind fun bt256 => ((order_Put.f k (([98] : List Int)) bt256.1 bt256.2.1 bt256.2.2.1 bt256.2.2.2.1 bt256.2.2.2.2.1 bt256.2.2.2.2.2.1 bt256.2.2.2.2.2.2.1 bt256.2.2.2.2.2.2.2.1 bt256.2.2.2.2.2.2.2.2.1 bt256.2.2.2.2.2.2.2.2.2).bind fun t268 => (if (t268.length : Int) < 2 then (packhorselaw10_orderAlive.j0 k t268 true) else (if 0 < (t268.length : Int) then (packhorselaw10_orderAlive.j0 k t268 ((rd t268 0) != 98)) else (none))))) = some r := h; clear h; replace H := obm H; obtain ⟨⟨t256, t257, t260, t261, t262, t263, t264, t265, t266, t267⟩, A10, H⟩ := H; replace H : ((order_Put.f k ([98] : List Int) t256 t257 t260 t261 t262 t263 t264 t265 t266 t267).bind fun t268 => (if (t268.length : Int) < 2 then (packhorselaw10_orderAlive.j0 k t268 true) else (if 0 < (t268.length : Int) then (packhorselaw10_orderAlive.j0 k t268 ((rd t268 0) != 98)) else (none)))) = some r := H; have A1 := am A10; clear A10; replace H := obm H; obtain ⟨t268, A20, H⟩ := H; replace H : (if (t268.length : Int) < 2 then (packhorselaw10_orderAlive.j0 k t268 true) else (if 0 < (t268.length : Int) then (packhorselaw10_orderAlive.j0 k t268 ((rd t268 0) != 98)) else (none))) = some r := H; have A2 := am A20; clear A20; have HC3 := am H; clear H
 have kc_ := fun (w : World) (C : Array Value) (n c : Nat) => Lib.run_convert_bytes_const (P := Tryd.prog) w 31 5 C n c Tryd.underlying31 Tryd.underlying5
 go_enter Tryd.func9, Tryd.ntmps9
 go_upto_region 2 with (first | ((with_reducible refine gate_callee (f := 26) rfl ?_); refine goesL_ (some 6) rfl rfl Tryd.func26 (by kernel_rfl) rfl #[] rfl ap1 ?_; (with_reducible refine (packhorselaw10_plain.calls  t256 t257 t260 t261 t262 t263 t264 t265 t266 t267 _ A1.out).mono ?_); rintro e w6 ⟨v258, rfl, ho0, hb⟩; refine ⟨_, rfl, ?_⟩; have _ := am (Kd.C_below (reads_cells (w.alloc (.cells #[.int .u8 98] 5 (1, 2))) w.heap.size _ 5 (1, 2) (blk_new' w _) .u8 [98] rfl (by decide)) hb); have _ := am (Kd.R_lower ho0 (below_size (beu HB.out))); have _ := am (below_step (beu HB.out) hb); clear HB; rename_i HO255 HO259 HB; (try clear hb); (try clear ho0); obtain ⟨Ao8, co8, eo8⟩ := Kd.R_slice HO259.out; subst eo8) | ((with_reducible refine gate_callee (f := 11) rfl ?_); refine goesL_ (some 7) rfl rfl Tryd.func11 (by kernel_rfl) rfl #[.slice (some ⟨w.heap.size, 0, none⟩) ([98] : List Int).length 1, .agg #[.string t256, .slice Ao8 t257.length co8, .string t260, .string t261, .string t262, .int .i64 t263, .int .i64 t264, .bool t265, .int .i64 t266, .int .i64 t267]] rfl ap1 ?_; (with_reducible refine (order_Put.calls k _ _ ([98] : List Int) t256 _ _ t257 t260 t261 t262 t263 t264 t265 t266 t267 t268 _ ?side1 ?side2 ?side3 ?side4 A2.out).mono ?_); (case side1 => repeat (first | exact HO255.out | (with_reducible refine Kd.C_alloc ?_ _) | (with_reducible refine Kd.C_drewN ?_ _) | (with_reducible refine Kd.C_drew ?_))); (case side2 => exact (by decide)); (case side3 => exact cu (Kd.R_reads' HO259.out).2.2); (case side4 => exact (Kd.R_reads' HO259.out).2.1); rintro e w9 ⟨v269, rfl, ho0, hb⟩; refine ⟨_, rfl, ?_⟩; have _ := am True.intro; have _ := am (Kd.R_below (ru HO259.out) hb); have _ := am (Kd.R_lower ho0 (below_size (beu HB.out))); have _ := am (below_step (beu HB.out) hb); clear HO255 HO259 HB; rename_i HO255 HO259 HO270 HB; (try clear hb); (try clear ho0)))
 (try simp only [Act.put, sA, sB, sC])
 go_cut [16] (fun v16 wc => ∃ (kq : Nat) (x16_2 : Bool), v16 = .bool x16_2 ∧ Aside0 (packhorselaw10_orderAlive.j0 kq t268 x16_2 = some r) ∧ Aside0 (kq ≤ k) ∧ Aside0 (Kd.R (Kd.int .u8) 5 wc w.heap.size (fun _ => True) v269 t268) ∧ Aside0 (Below w.heap.size w wc))
 case first =>
  have H := HC3.out; clear HC3
  by_cases c10 : (t268.length : Int) < 2
  ·rw [if_pos c10] at H
   have c10b0 : decide ((t268.length : Int) < 2) = true := decide_eq_true c10; have c10b1 : decide (t268.length < 2) = true := decide_eq_true (by omega); clear c10
   (first | rw [c10b0] | (simp only [i64_w, i32_w]; rw [c10b0]) | skip)
   have H' := am H; clear H; obtain ⟨Ao11, co11, eo11⟩ := Kd.R_slice HO270.out; subst eo11
   go_wp2
   go_meet
   case rel => exact ⟨_, (true), ap3, H', ⟨by first | omega | exact Nat.le_refl _⟩, ⟨ru (Kd.R_mono HO270.out (fun _ hk => trivial))⟩, ⟨beu HB.out⟩⟩
  ·rw [if_neg c10] at H
   have c10b0 : decide ((t268.length : Int) < 2) = false := decide_eq_false c10; have c10b1 : decide (t268.length < 2) = false := decide_eq_false (by omega); clear c10
   (first | rw [c10b0] | (simp only [i64_w, i32_w]; rw [c10b0]) | skip)
   by_cases c12 : 0 < (t268.length : Int)
   ·rw [if_pos c12] at H
    have c12b0 : decide (0 < (t268.length : Int)) = true := decide_eq_true c12; have c12b1 : decide (0 < t268.length) = true := decide_eq_true (by omega); clear c12; have H' := am H; clear H; obtain ⟨Ao13, co13, eo13⟩ := Kd.R_slice HO270.out; subst eo13; have p271 : 0 ≤ (0 : Int) := (by omega); have q271 : 0 < (t268.length : Int) := of_decide_eq_true ap2; obtain ⟨ad271, e271, hx271_0⟩ := Kd.at_int (Kd.R_reads' HO270.out).2.2 0 p271 q271
    cases e271
    have qi271 : (0 < t268.length) = True := eq_true (by omega)
    (try rw [show ((0 : Int)).toNat = 0 from rfl] at hx271_0)
    (try rw [Addr.add_zero'] at hx271_0)
    replace p271 := eq_true p271; replace q271 := eq_true q271
    go_wp2
    go_meet
    case rel => exact ⟨_, (((rd t268 0) != 98)), ap3, H', ⟨by first | omega | exact Nat.le_refl _⟩, ⟨ru (Kd.R_mono HO270.out (fun _ hk => trivial))⟩, ⟨beu HB.out⟩⟩
   ·rw [if_neg c12] at H
    exact absurd H (by simp)
 case rest =>
  clear HC3; (try clear c1); (try clear c2); (try clear p2); (try clear q2); (try clear hx2); (try clear qi2); (try clear c9); (try clear c10); (try clear c10b0); (try clear c10b1); (try clear c11); (try clear c12); (try clear c12b0); (try clear c12b1); (try clear hx271_0); (try clear p271); (try clear q271); obtain ⟨kq, x16_2, rfl, HA, HJ2, HO_1, HB⟩ := hcut
  cases kq with
  | zero => exact absurd HA.out (by simp [packhorselaw10_orderAlive.j0])
  | succ kj2 =>
   have H := HA.out; clear HA; simp only [packhorselaw10_orderAlive.j0] at H
   by_cases c14 : x16_2 = true
   ·subst c14
    have H1 : (some false) = some r := by rw [if_pos rfl] at H; exact H
    clear H; have H := H1; clear H1; obtain rfl := Option.some.inj H; exact absurd HRT.out (by decide)
   ·replace c14 := Bool.eq_false_iff.mpr c14
    subst c14
    have H1 : (if 1 ≤ (t268.length : Int) then ((packet_New.f (t268.drop 1)).bind fun bt276 => ((order_Take.f kj2 bt276.1 bt276.2).bind fun bt279 => (if bt279.2.2.2.2.2.2.2.2.2.2.1 = 0 then ((packhorselaw10_plain.f).bind fun bt295 => ((order_Same.f kj2 bt279.1 bt279.2.1 bt279.2.2.1 bt279.2.2.2.1 bt279.2.2.2.2.1 bt279.2.2.2.2.2.1 bt279.2.2.2.2.2.2.1 bt279.2.2.2.2.2.2.2.1 bt279.2.2.2.2.2.2.2.2.1 bt279.2.2.2.2.2.2.2.2.2.1 bt295.1 bt295.2.1 bt295.2.2.1 bt295.2.2.2.1 bt295.2.2.2.2.1 bt295.2.2.2.2.2.1 bt295.2.2.2.2.2.2.1 bt295.2.2.2.2.2.2.2.1 bt295.2.2.2.2.2.2.2.2.1 bt295.2.2.2.2.2.2.2.2.2).bind fun t307 => (if t307 = true then ((order_Right.f kj2 bt279.1 bt279.2.1 bt279.2.2.1 bt279.2.2.2.1 bt279.2.2.2.2.1 bt279.2.2.2.2.2.1 bt279.2.2.2.2.2.2.1 bt279.2.2.2.2.2.2.2.1 bt279.2.2.2.2.2.2.2.2.1 bt279.2.2.2.2.2.2.2.2.2.1).bind fun t308 => (some t308)) else (some false)))) else (some false)))) else (none)) = some r := by rw [if_neg (show ¬ (false = true) by decide)] at H; exact H
    clear H; have H := H1; clear H1
    by_cases c15 : 1 ≤ (t268.length : Int)
    ·rw [if_pos c15] at H
     have c15b0 := eq_true c15; have c15b1 : decide (1 ≤ (t268.length : Int)) = true := decide_eq_true c15; clear c15; obtain ⟨y272, hy272⟩ : ∃ y_ : List Int, y_ = (t268.drop 1) := ⟨_, rfl⟩
     replace H : ((packet_New.f y272).bind fun bt276 => ((order_Take.f kj2 bt276.1 bt276.2).bind fun bt279 => (if bt279.2.2.2.2.2.2.2.2.2.2.1 = 0 then ((packhorselaw10_plain.f).bind fun bt295 => ((order_Same.f kj2 bt279.1 bt279.2.1 bt279.2.2.1 bt279.2.2.2.1 bt279.2.2.2.2.1 bt279.2.2.2.2.2.1 bt279.2.2.2.2.2.2.1 bt279.2.2.2.2.2.2.2.1 bt279.2.2.2.2.2.2.2.2.1 bt279.2.2.2.2.2.2.2.2.2.1 bt295.1 bt295.2.1 bt295.2.2.1 bt295.2.2.2.1 bt295.2.2.2.2.1 bt295.2.2.2.2.2.1 bt295.2.2.2.2.2.2.1 bt295.2.2.2.2.2.2.2.1 bt295.2.2.2.2.2.2.2.2.1 bt295.2.2.2.2.2.2.2.2.2).bind fun t307 => (if t307 = true then ((order_Right.f kj2 bt279.1 bt279.2.1 bt279.2.2.1 bt279.2.2.2.1 bt279.2.2.2.2.1 bt279.2.2.2.2.2.1 bt279.2.2.2.2.2.2.1 bt279.2.2.2.2.2.2.2.1 bt279.2.2.2.2.2.2.2.2.1 bt279.2.2.2.2.2.2.2.2.2.1).bind fun t308 => (some t308)) else (some false)))) else (some false)))) = some r := by first | (rw [hy272]; with_reducible exact H) | (have H2_ := (Option.bind_some _ _).symm.trans H; rw [hy272]; with_reducible exact H2_) | (have H2_ := (Option.bind_some _ _).symm.trans H; with_reducible exact H2_) | with_reducible exact H | (rw [hy272]; exact H) | exact H
     have Ny272 := am hy272; clear hy272; replace H := obm H; obtain ⟨⟨t276, t277⟩, A160, H⟩ := H; replace H : ((order_Take.f kj2 t276 t277).bind fun bt279 => (if bt279.2.2.2.2.2.2.2.2.2.2.1 = 0 then ((packhorselaw10_plain.f).bind fun bt295 => ((order_Same.f kj2 bt279.1 bt279.2.1 bt279.2.2.1 bt279.2.2.2.1 bt279.2.2.2.2.1 bt279.2.2.2.2.2.1 bt279.2.2.2.2.2.2.1 bt279.2.2.2.2.2.2.2.1 bt279.2.2.2.2.2.2.2.2.1 bt279.2.2.2.2.2.2.2.2.2.1 bt295.1 bt295.2.1 bt295.2.2.1 bt295.2.2.2.1 bt295.2.2.2.2.1 bt295.2.2.2.2.2.1 bt295.2.2.2.2.2.2.1 bt295.2.2.2.2.2.2.2.1 bt295.2.2.2.2.2.2.2.2.1 bt295.2.2.2.2.2.2.2.2.2).bind fun t307 => (if t307 = true then ((order_Right.f kj2 bt279.1 bt279.2.1 bt279.2.2.1 bt279.2.2.2.1 bt279.2.2.2.2.1 bt279.2.2.2.2.2.1 bt279.2.2.2.2.2.2.1 bt279.2.2.2.2.2.2.2.1 bt279.2.2.2.2.2.2.2.2.1 bt279.2.2.2.2.2.2.2.2.2.1).bind fun t308 => (some t308)) else (some false)))) else (some false))) = some r := H; have A16 := am A160; clear A160; replace H := obm H; obtain ⟨⟨t279, t280, t283, t284, t285, t286, t287, t288, t289, t290, t291, t292, t293⟩, A170, H⟩ := H; replace H : (if t291 = 0 then ((packhorselaw10_plain.f).bind fun bt295 => ((order_Same.f kj2 t279 t280 t283 t284 t285 t286 t287 t288 t289 t290 bt295.1 bt295.2.1 bt295.2.2.1 bt295.2.2.2.1 bt295.2.2.2.2.1 bt295.2.2.2.2.2.1 bt295.2.2.2.2.2.2.1 bt295.2.2.2.2.2.2.2.1 bt295.2.2.2.2.2.2.2.2.1 bt295.2.2.2.2.2.2.2.2.2).bind fun t307 => (if t307 = true then ((order_Right.f kj2 t279 t280 t283 t284 t285 t286 t287 t288 t289 t290).bind fun t308 => (some t308)) else (some false)))) else (some false)) = some r := H; have A17 := am A170; clear A170
     by_cases c18 : t291 = 0
     ·rw [if_pos c18] at H
      have c18b0 : (t291 == 0) = true := beq_iff_eq.mpr c18; have c18b1 : (t291 != 0) = false := bne_eq_false_iff_eq.mpr c18; clear c18; replace H := obm H; obtain ⟨⟨t295, t296, t299, t300, t301, t302, t303, t304, t305, t306⟩, A190, H⟩ := H; replace H : ((order_Same.f kj2 t279 t280 t283 t284 t285 t286 t287 t288 t289 t290 t295 t296 t299 t300 t301 t302 t303 t304 t305 t306).bind fun t307 => (if t307 = true then ((order_Right.f kj2 t279 t280 t283 t284 t285 t286 t287 t288 t289 t290).bind fun t308 => (some t308)) else (some false))) = some r := H; have A19 := am A190; clear A190; replace H := obm H; obtain ⟨t307, A200, H⟩ := H; replace H : (if t307 = true then ((order_Right.f kj2 t279 t280 t283 t284 t285 t286 t287 t288 t289 t290).bind fun t308 => (some t308)) else (some false)) = some r := H; have A20 := am A200; clear A200
      by_cases c21 : t307 = true
      ·subst c21
       have H1 : ((order_Right.f kj2 t279 t280 t283 t284 t285 t286 t287 t288 t289 t290).bind fun t308 => (some t308)) = some r := by rw [if_pos rfl] at H; exact H
       clear H; have H := H1; clear H1; replace H := obm H; obtain ⟨t308, A220, H⟩ := H; replace H : (some t308) = some r := H; have A22 := am A220; clear A220; obtain rfl := Option.some.inj H; simp only [Option.some.injEq, Prod.mk.injEq] at H; obtain ⟨rfl⟩ := H; obtain ⟨Ao24, co24, eo24⟩ := Kd.R_slice HO_1.out; subst eo24; have q23 : (1 : Int) ≤ ((t268.length : Int) : Int) := of_decide_eq_true ap2; obtain ⟨i023, hi023, _, hsz23, _⟩ := info_parts info5; have hroom23 : t268.length ≤ co24 := (Kd.R_reads' HO_1.out).2.1; have hC23 : Kd.C (Kd.int .u8) _ Ao24 t268.length t268 := (Kd.R_reads' HO_1.out).2.2; have hcut23 := cut_from (P := Tryd.prog) 31 5 .i64 Tryd.underlying31 hi023 1 hsz23 Ao24 t268.length co24 1 (by omega) q23; have hr23 := Kd.C_drop (m := (1 : Int).toNat) (c := co24) hC23 (by omega) hroom23; obtain ⟨A23, hA23⟩ : ∃ A1, A1 = (if co24 = (1 : Int).toNat then Ao24 else (Ao24 : Option Addr).map (·.add ((1 : Int).toNat * 1))) := ⟨_, rfl⟩; obtain ⟨c23, hc23⟩ : ∃ c1, c1 = co24 - (1 : Int).toNat := ⟨_, rfl⟩; have hy23 : y272.length = t268.length - (1 : Int).toNat := (by rw [Ny272.out, List.length_drop] <;> omega); rw [show (t268).drop (1 : Int).toNat = y272 from Ny272.out.symm] at hr23; replace hr23 : Kd.C (Kd.int .u8) _ A23 y272.length y272 := (by rw [hA23]; exact hr23); rw [← hy23, ← hA23, ← hc23] at hcut23; have HR275 := am hr23; have HC275 := am (show y272.length ≤ c23 from by rw [hy23, hc23]; exact Nat.sub_le_sub_right hroom23 _); clear hr23 hC23 hroom23 hi023 hsz23 hc23; have KY23 := am hy23; have KA23 := am hA23; clear hy23 hA23; have KL23 := am (show 1 ≤ t268.length from by omega); replace q23 := eq_true q23
       try go_wp2_with (first | ((with_reducible refine gate_callee (f := 15) rfl ?_); refine goesL_ (some 20) rfl rfl Tryd.func15 (by kernel_rfl) rfl #[.slice A23 y272.length c23] rfl ap1 ?_; (with_reducible refine (packet_New.calls _ _ y272 t276 t277 w _ ?side1 ?side2 ?side3 A16.out).mono ?_); (case side1 => exact beu HB.out); (case side2 => repeat (first | exact (by repeat (first | (with_reducible exact HR275.out) | (with_reducible refine Kd.C_alloc ?_ _) | (with_reducible refine Kd.C_drewN ?_ _) | (with_reducible refine Kd.C_drew ?_) | exact HR275.out)) | (with_reducible refine Kd.C_alloc ?_ _) | (with_reducible refine Kd.C_drewN ?_ _) | (with_reducible refine Kd.C_drew ?_))); (case side3 => exact HC275.out); rintro e w25 ⟨g278, rfl, hi, hb, hb2⟩; refine ⟨_, rfl, ?_⟩; have _ := am (Kd.R_below (ru HO_1.out) hb2); have _ := am (Kd.C_below (by repeat (first | (with_reducible exact HR275.out) | (with_reducible refine Kd.C_alloc ?_ _) | (with_reducible refine Kd.C_drewN ?_ _) | (with_reducible refine Kd.C_drew ?_) | exact HR275.out)) hb2); have _ := am (hb); have _ := am (hi); clear HO_1 HR275 HB; rename_i HO_1 HR275 HB HI278; (try clear hb hb2 hi)) | ((with_reducible refine gate_callee (f := 16) rfl ?_); refine goesL_ (some 21) rfl rfl Tryd.func16 (by kernel_rfl) rfl #[.pointer (some ⟨g278, 0, none⟩)] rfl ap1 ?_; (with_reducible refine (order_Take.callsJ kj2 g278 t276 t277 t279 t280 t283 t284 t285 t286 t287 t288 t289 t290 t291 t292 t293 w _ ?side1 ?side2 ?side3 A17.out).mono ?_); (case side1 => exact JS72.u HI278.out); (case side2 => exact beg (JS72.ge HI278.out) HB.out); (case side3 => first | exact HT.out | exact Tabs.below HT.out (beg (JS72.ge HI278.out) HB.out)); rintro e w26 ⟨v281, rfl, ho0, hi, hb, hk⟩; refine ⟨_, rfl, ?_⟩; have _ := am (Kd.R_mono (Kd.R_keep (JS72.apart (show JS72 w _ g278 t276 t277 from JS72.u HI278.out) (ru HO_1.out) (by decide)) hk (fun _ h => h.2)) (fun _ h => h.1)); have _ := am (Kd.R_lower ho0 (below_size (beg (JS72.ge HI278.out) HB.out))); have _ := am (hb); have _ := am (hi); clear HO_1 HB HI278; rename_i HO_1 HO282 HB HI278; (try clear hb hk hi); (try clear ho0)) | ((with_reducible refine gate_dst (N := 2) rfl ?_); refine box_event ?hg (N := 2) ?hd (cs := #[.string ⟨#[]⟩, .slice none 0 0, .string ⟨#[]⟩, .string ⟨#[]⟩, .string ⟨#[]⟩, .int .i64 0, .int .i64 0, .bool false, .int .i64 0, .int .i64 0]) (t := 28) ?hr ?_; (case hd => rfl); (case hg => rfl); (case hr => first | (go_simp; done) | (go_simp; rfl)); intro gb294 hg w27 hbox hb; have _ := am (Kd.R_below (ru HO_1.out) hb); have _ := am (Kd.R_below (ru HO282.out) hb); have _ := am (JS72.below (JS72.u HI278.out) hb); have _ := am (below_step (beg (JS72.ge HI278.out) HB.out) hb); have _ := am (hbox); have _ := am ((by rw [hg]; exact (below_size (beg (JS72.ge HI278.out) HB.out)) : w.heap.size ≤ gb294)); have _ := am ((by rw [hg]; exact (below_size (beg (JS72.ge HI278.out) HB.out)) : w.heap.size ≤ gb294)); have _ := am ((by rw [hg]; exact (JS72.lt (show JS72 w _ g278 t292 t293 from JS72.u HI278.out)) : g278 < gb294)); have _ := am ((by rw [hg]; exact Nat.ne_of_lt (JS72.lt (show JS72 w _ g278 t292 t293 from JS72.u HI278.out)) : g278 ≠ gb294)); have _ := am ((by rw [hg]; exact Nat.ne_of_gt (JS72.lt (show JS72 w _ g278 t292 t293 from JS72.u HI278.out)) : gb294 ≠ g278)); clear HO_1 HO282 HI278 HB; rename_i HO_1 HO282 HI278 HB BK294 GW294 GE294 NG278_294 NB278_294 NB294_278; clear hb hbox hg; have := NB294_278.out; have := NB278_294.out; obtain ⟨_, _, _, _, _, _, _, _, _, _⟩ := cells10 BK294.out; obtain ⟨_, _, _, _, _, _, _, _, _, _⟩ := frozens10 BK294.out; obtain ⟨Ao30, co30, eo30⟩ := Kd.R_slice HO282.out; subst eo30))
       have n0_ : Aside0 (Kd.R (Kd.int .u8) 5 ((((((((((w27.setCell ⟨gb294, 0, none⟩ (.string t279)).setCell ⟨gb294, 1, none⟩ (.slice Ao30 t280.length co30)).setCell ⟨gb294, 2, none⟩ (.string t283)).setCell ⟨gb294, 3, none⟩ (.string t284)).setCell ⟨gb294, 4, none⟩ (.string t285)).setCell ⟨gb294, 5, none⟩ (.int .i64 t286)).setCell ⟨gb294, 6, none⟩ (.int .i64 t287)).setCell ⟨gb294, 7, none⟩ (.bool t288)).setCell ⟨gb294, 8, none⟩ (.int .i64 t289)).setCell ⟨gb294, 9, none⟩ (.int .i64 t290)) w.heap.size (fun _ => True) (.slice Ao24 t268.length co24) t268) := ⟨ru (Kd.R_mono (rf gb294 9 (rf gb294 8 (rf gb294 7 (rf gb294 6 (rf gb294 5 (rf gb294 4 (rf gb294 3 (rf gb294 2 (rf gb294 1 (rf gb294 0 (Kd.R_types HO_1.out BK294.out (by decide)) (.string t279)) (.slice Ao30 t280.length co30)) (.string t283)) (.string t284)) (.string t285)) (.int .i64 t286)) (.int .i64 t287)) (.bool t288)) (.int .i64 t289)) (.int .i64 t290)) (fun _ hk => trivial))⟩; have n1_ : Aside0 (Kd.R k52 52 ((((((((((w27.setCell ⟨gb294, 0, none⟩ (.string t279)).setCell ⟨gb294, 1, none⟩ (.slice Ao30 t280.length co30)).setCell ⟨gb294, 2, none⟩ (.string t283)).setCell ⟨gb294, 3, none⟩ (.string t284)).setCell ⟨gb294, 4, none⟩ (.string t285)).setCell ⟨gb294, 5, none⟩ (.int .i64 t286)).setCell ⟨gb294, 6, none⟩ (.int .i64 t287)).setCell ⟨gb294, 7, none⟩ (.bool t288)).setCell ⟨gb294, 8, none⟩ (.int .i64 t289)).setCell ⟨gb294, 9, none⟩ (.int .i64 t290)) w.heap.size (fun _ => True) (.slice Ao30 t280.length co30) t280) := ⟨ru (Kd.R_mono (rf gb294 9 (rf gb294 8 (rf gb294 7 (rf gb294 6 (rf gb294 5 (rf gb294 4 (rf gb294 3 (rf gb294 2 (rf gb294 1 (rf gb294 0 (Kd.R_types HO282.out BK294.out (by decide)) (.string t279)) (.slice Ao30 t280.length co30)) (.string t283)) (.string t284)) (.string t285)) (.int .i64 t286)) (.int .i64 t287)) (.bool t288)) (.int .i64 t289)) (.int .i64 t290)) (fun _ hk => trivial))⟩; have n2_ : Aside0 (((((((((((w27.setCell ⟨gb294, 0, none⟩ (.string t279)).setCell ⟨gb294, 1, none⟩ (.slice Ao30 t280.length co30)).setCell ⟨gb294, 2, none⟩ (.string t283)).setCell ⟨gb294, 3, none⟩ (.string t284)).setCell ⟨gb294, 4, none⟩ (.string t285)).setCell ⟨gb294, 5, none⟩ (.int .i64 t286)).setCell ⟨gb294, 6, none⟩ (.int .i64 t287)).setCell ⟨gb294, 7, none⟩ (.bool t288)).setCell ⟨gb294, 8, none⟩ (.int .i64 t289)).setCell ⟨gb294, 9, none⟩ (.int .i64 t290)).heap[gb294]? = some (.cells #[.string t279, .slice Ao30 t280.length co30, .string t283, .string t284, .string t285, .int .i64 t286, .int .i64 t287, .bool t288, .int .i64 t289, .int .i64 t290] 28 (0, 0))) := ⟨by refine bu ?_; refine blk_put (cs := #[.string t279, .slice Ao30 t280.length co30, .string t283, .string t284, .string t285, .int .i64 t286, .int .i64 t287, .bool t288, .int .i64 t289, .int .i64 0]) ?_ 9 _ rfl; refine bu ?_; refine blk_put (cs := #[.string t279, .slice Ao30 t280.length co30, .string t283, .string t284, .string t285, .int .i64 t286, .int .i64 t287, .bool t288, .int .i64 0, .int .i64 0]) ?_ 8 _ rfl; refine bu ?_; refine blk_put (cs := #[.string t279, .slice Ao30 t280.length co30, .string t283, .string t284, .string t285, .int .i64 t286, .int .i64 t287, .bool false, .int .i64 0, .int .i64 0]) ?_ 7 _ rfl; refine bu ?_; refine blk_put (cs := #[.string t279, .slice Ao30 t280.length co30, .string t283, .string t284, .string t285, .int .i64 t286, .int .i64 0, .bool false, .int .i64 0, .int .i64 0]) ?_ 6 _ rfl; refine bu ?_; refine blk_put (cs := #[.string t279, .slice Ao30 t280.length co30, .string t283, .string t284, .string t285, .int .i64 0, .int .i64 0, .bool false, .int .i64 0, .int .i64 0]) ?_ 5 _ rfl; refine bu ?_; refine blk_put (cs := #[.string t279, .slice Ao30 t280.length co30, .string t283, .string t284, .string ⟨#[]⟩, .int .i64 0, .int .i64 0, .bool false, .int .i64 0, .int .i64 0]) ?_ 4 _ rfl; refine bu ?_; refine blk_put (cs := #[.string t279, .slice Ao30 t280.length co30, .string t283, .string ⟨#[]⟩, .string ⟨#[]⟩, .int .i64 0, .int .i64 0, .bool false, .int .i64 0, .int .i64 0]) ?_ 3 _ rfl; refine bu ?_; refine blk_put (cs := #[.string t279, .slice Ao30 t280.length co30, .string ⟨#[]⟩, .string ⟨#[]⟩, .string ⟨#[]⟩, .int .i64 0, .int .i64 0, .bool false, .int .i64 0, .int .i64 0]) ?_ 2 _ rfl; refine bu ?_; refine blk_put (cs := #[.string t279, .slice none 0 0, .string ⟨#[]⟩, .string ⟨#[]⟩, .string ⟨#[]⟩, .int .i64 0, .int .i64 0, .bool false, .int .i64 0, .int .i64 0]) ?_ 1 _ rfl; refine bu ?_; refine blk_put (cs := #[.string ⟨#[]⟩, .slice none 0 0, .string ⟨#[]⟩, .string ⟨#[]⟩, .string ⟨#[]⟩, .int .i64 0, .int .i64 0, .bool false, .int .i64 0, .int .i64 0]) ?_ 0 _ rfl; refine bu ?_; exact BK294.out⟩
       have n3_ : Aside0 (JS72 w ((((((((((w27.setCell ⟨gb294, 0, none⟩ (.string t279)).setCell ⟨gb294, 1, none⟩ (.slice Ao30 t280.length co30)).setCell ⟨gb294, 2, none⟩ (.string t283)).setCell ⟨gb294, 3, none⟩ (.string t284)).setCell ⟨gb294, 4, none⟩ (.string t285)).setCell ⟨gb294, 5, none⟩ (.int .i64 t286)).setCell ⟨gb294, 6, none⟩ (.int .i64 t287)).setCell ⟨gb294, 7, none⟩ (.bool t288)).setCell ⟨gb294, 8, none⟩ (.int .i64 t289)).setCell ⟨gb294, 9, none⟩ (.int .i64 t290)) g278 t292 t293) := ⟨JS72.u HI278.out⟩; have n4_ : Aside0 (Below w.heap.size w ((((((((((w27.setCell ⟨gb294, 0, none⟩ (.string t279)).setCell ⟨gb294, 1, none⟩ (.slice Ao30 t280.length co30)).setCell ⟨gb294, 2, none⟩ (.string t283)).setCell ⟨gb294, 3, none⟩ (.string t284)).setCell ⟨gb294, 4, none⟩ (.string t285)).setCell ⟨gb294, 5, none⟩ (.int .i64 t286)).setCell ⟨gb294, 6, none⟩ (.int .i64 t287)).setCell ⟨gb294, 7, none⟩ (.bool t288)).setCell ⟨gb294, 8, none⟩ (.int .i64 t289)).setCell ⟨gb294, 9, none⟩ (.int .i64 t290))) := ⟨beg (JS72.ge HI278.out) HB.out⟩
       (try clear HO_1)
       (try clear HO282)
       (try clear BK294)
       (try clear HI278)
       (try clear HB)
       generalize ((((((((((w27.setCell ⟨gb294, 0, none⟩ (.string t279)).setCell ⟨gb294, 1, none⟩ (.slice Ao30 t280.length co30)).setCell ⟨gb294, 2, none⟩ (.string t283)).setCell ⟨gb294, 3, none⟩ (.string t284)).setCell ⟨gb294, 4, none⟩ (.string t285)).setCell ⟨gb294, 5, none⟩ (.int .i64 t286)).setCell ⟨gb294, 6, none⟩ (.int .i64 t287)).setCell ⟨gb294, 7, none⟩ (.bool t288)).setCell ⟨gb294, 8, none⟩ (.int .i64 t289)).setCell ⟨gb294, 9, none⟩ (.int .i64 t290)) = w31 at n0_ n1_ n2_ n3_ n4_ ⊢; have HO_1 := n0_; have HO282 := n1_; have BK294 := n2_; have HI278 := n3_; have HB := n4_; clear n0_ n1_ n2_ n3_ n4_
       (try (rw [drewN_self w31]; generalize hq_ : World.drewN w31 _ = w31; have _ := am (show Kd.R _ _ w31 _ _ _ _ from by rw [← hq_]; exact Kd.R_drewN HO_1.out _); have _ := am (show Kd.R _ _ w31 _ _ _ _ from by rw [← hq_]; exact Kd.R_drewN HO282.out _); have _ := am (blk_at hq_ BK294.out); clear hq_ HO_1 HO282 BK294; rename_i HO_1 HO282 BK294))
       have n0_ := am (Kd.R_drew HO_1.out); have n1_ := am (Kd.R_drew HO282.out); have n2_ := am (blk_drew BK294.out); have n3_ := am (JS72.drew HI278.out); have n4_ := am (below_drew1 HB.out); clear HO_1 HO282 BK294 HI278 HB; have HO_1 := n0_; have HO282 := n1_; have BK294 := n2_; have HI278 := n3_; have HB := n4_; clear n0_ n1_ n2_ n3_ n4_
       refine start_ (n := 12) (S := fun w' => w'.cell? ⟨gb294, 0, none⟩ = some (.string t279) ∧ w'.cell? ⟨gb294, 1, none⟩ = some (.slice Ao30 t280.length co30) ∧ w'.cell? ⟨gb294, 2, none⟩ = some (.string t283) ∧ w'.cell? ⟨gb294, 3, none⟩ = some (.string t284) ∧ w'.cell? ⟨gb294, 4, none⟩ = some (.string t285) ∧ w'.cell? ⟨gb294, 5, none⟩ = some (.int .i64 t286) ∧ w'.cell? ⟨gb294, 6, none⟩ = some (.int .i64 t287) ∧ w'.cell? ⟨gb294, 7, none⟩ = some (.bool t288) ∧ w'.cell? ⟨gb294, 8, none⟩ = some (.int .i64 t289) ∧ w'.cell? ⟨gb294, 9, none⟩ = some (.int .i64 t290)) (ds := []) #[false, false, false, false, false, false, false, false, false, false, false, false] (by kernel_rfl) rfl rfl ⟨(blk_cell BK294.out 0).trans rfl, (blk_cell BK294.out 1).trans rfl, (blk_cell BK294.out 2).trans rfl, (blk_cell BK294.out 3).trans rfl, (blk_cell BK294.out 4).trans rfl, (blk_cell BK294.out 5).trans rfl, (blk_cell BK294.out 6).trans rfl, (blk_cell BK294.out 7).trans rfl, (blk_cell BK294.out 8).trans rfl, (blk_cell BK294.out 9).trans rfl⟩ (fun hHeld => ?_); refine with_tabW packhorselaw10_orderAlive.tab5 packhorselaw10_orderAlive.bits5 (fun HT_ HW_ => ?_)
       generalize w31.drew = w32 at HO_1 HO282 BK294 HI278 HB hHeld ⊢; refine pure_ (i := 0) (N := some 24) (v := ?_) (a' := ?_) (bs 12 1) rfl rfl (ak HT_.out) (fun _ _ _ h => h) (Or.inl ⟨by rfl, ?_⟩) ?_ ?_; rotate_left
       ·intro w'
        go_simp
        (with_reducible rfl)
       rotate_left
       ·simp only [Act.put, sA, sB, sC, i64_w, i32_w]
        rfl
       refine pure_ (i := 1) (N := some 25) (v := ?_) (a' := ?_) (bs 12 3) rfl rfl (ak HT_.out) (fun _ _ _ h => h) (Or.inl ⟨by rfl, ?_⟩) ?_ ?_; rotate_left
       ·intro w'
        go_simp
        (with_reducible rfl)
       rotate_left
       ·simp only [Act.put, sA, sB, sC, i64_w, i32_w]
        rfl
       refine pure_ (i := 2) (N := some 26) (v := ?_) (a' := ?_) (bs 12 7) rfl rfl (ak HT_.out) (fun _ _ _ h => h) (Or.inl ⟨by rfl, ?_⟩) ?_ ?_; rotate_left
       ·intro w'
        go_simp
        (with_reducible rfl)
       rotate_left
       ·simp only [Act.put, sA, sB, sC, i64_w, i32_w]
        rfl
       refine take_ (i := 3) (N := some 27) (v := ?_) (a' := ?_) (bs 12 15) rfl rfl (take_ofW HT_.out HW_.out (by kernel_rfl)) (fun _ _ _ h => h) (Or.inl ⟨by rfl, ?_⟩) hHeld ?_ ?_; rotate_left
       ·rintro w' ⟨s0, s1, s2, s3, s4, s5, s6, s7, s8, s9⟩
        go_simp
        (with_reducible rfl)
       rotate_left
       ·simp only [Act.put, sA, sB, sC, i64_w, i32_w]
        rfl
       refine one_ (i := 4) (N := some 28) (bs 12 31) rfl rfl (one_of HT_.out (by kernel_rfl)) (by decide) (fun K hK => ?_); refine goes_ Tryd.func26 (by kernel_rfl) rfl #[] (by rfl) rfl rfl ap1 ?_; (with_reducible refine (packhorselaw10_plain.calls  t295 t296 t299 t300 t301 t302 t303 t304 t305 t306 _ A19.out).mono ?_); rintro e w33 ⟨v297, rfl, ho0, hb⟩; refine ⟨_, rfl, ?_⟩; have n0_ := am (Kd.R_below (ru HO_1.out) hb); have n1_ := am (Kd.R_elder' (ru HO282.out) (Kd.R_base ho0) hb); have n2_ := am (Kd.R_lower (Kd.R_new' ho0 (Kd.R_lt (ru HO282.out))) (below_size (beg (JS72.ge HI278.out) HB.out))); have n3_ := am (JS72.below (JS72.u HI278.out) hb); have n4_ := am (blk_below (bu BK294.out) hb); have n5_ := am (below_step (beg (JS72.ge HI278.out) HB.out) hb); clear HO_1 HO282 HI278 BK294 HB; have HO_1 := n0_; have HO282 := n1_; have HO298 := n2_; have HI278 := n3_; have BK294 := n4_; have HB := n5_; clear n0_ n1_ n2_ n3_ n4_ n5_
       (try clear hb)
       (try clear hb2)
       (try clear hk)
       (try clear hi)
       (try clear ho0)
       obtain ⟨Ao34, co34, eo34⟩ := Kd.R_slice HO298.out
       (first | subst eo34 | (injection eo34 with f1_ f2_ f3_; have f4_ := f1_.symm; have f5_ := f3_.symm; clear f1_ f2_ f3_; subst f4_; subst f5_))
       refine hK.out _ _ ⟨(blk_cell BK294.out 0).trans rfl, (blk_cell BK294.out 1).trans rfl, (blk_cell BK294.out 2).trans rfl, (blk_cell BK294.out 3).trans rfl, (blk_cell BK294.out 4).trans rfl, (blk_cell BK294.out 5).trans rfl, (blk_cell BK294.out 6).trans rfl, (blk_cell BK294.out 7).trans rfl, (blk_cell BK294.out 8).trans rfl, (blk_cell BK294.out 9).trans rfl⟩ (fun hHeld => ?_); clear hK K; refine norm_ (a' := ?_) ?_ ?_; rotate_left
       ·show Act.put _ (some 28) _ = _
        simp only [Act.put, sA, sB, sC, i64_w, i32_w]
        rfl
       refine one_ (i := 5) (N := some 29) (bs 12 63) rfl rfl (one_of HT_.out (by kernel_rfl)) (by decide) (fun K hK => ?_); refine goes_ Tryd.func12 (by kernel_rfl) rfl #[.agg #[.string t279, .slice Ao30 t280.length co30, .string t283, .string t284, .string t285, .int .i64 t286, .int .i64 t287, .bool t288, .int .i64 t289, .int .i64 t290], .agg #[.string t295, .slice Ao34 t296.length co34, .string t299, .string t300, .string t301, .int .i64 t302, .int .i64 t303, .bool t304, .int .i64 t305, .int .i64 t306]] (by rfl) rfl rfl ap1 ?_; (with_reducible refine (order_Same.calls kj2 t279 _ _ t280 t283 t284 t285 t286 t287 t288 t289 t290 t295 _ _ t296 t299 t300 t301 t302 t303 t304 t305 t306 true _ ?side1 ?side2 ?side3 ?side4 A20.out).mono ?_)
       (case side1 => exact cu (Kd.R_reads' HO282.out).2.2)
       (case side2 => exact (Kd.R_reads' HO282.out).2.1)
       (case side3 => exact cu (Kd.R_reads' HO298.out).2.2)
       (case side4 => exact (Kd.R_reads' HO298.out).2.1)
       rintro e w35 ⟨rfl, hb⟩; refine ⟨_, rfl, ?_⟩; have n0_ := am (Kd.R_below (ru HO_1.out) hb); have n1_ := am (Kd.R_below (ru HO282.out) hb); have n2_ := am (Kd.R_below (ru HO298.out) hb); have n3_ := am (JS72.below (JS72.u HI278.out) hb); have n4_ := am (blk_below (bu BK294.out) hb); have n5_ := am (below_step (beg (JS72.ge HI278.out) HB.out) hb); clear HO_1 HO282 HO298 HI278 BK294 HB; have HO_1 := n0_; have HO282 := n1_; have HO298 := n2_; have HI278 := n3_; have BK294 := n4_; have HB := n5_; clear n0_ n1_ n2_ n3_ n4_ n5_
       (try clear hb)
       (try clear hb2)
       (try clear hk)
       (try clear hi)
       refine hK.out _ _ ⟨(blk_cell BK294.out 0).trans rfl, (blk_cell BK294.out 1).trans rfl, (blk_cell BK294.out 2).trans rfl, (blk_cell BK294.out 3).trans rfl, (blk_cell BK294.out 4).trans rfl, (blk_cell BK294.out 5).trans rfl, (blk_cell BK294.out 6).trans rfl, (blk_cell BK294.out 7).trans rfl, (blk_cell BK294.out 8).trans rfl, (blk_cell BK294.out 9).trans rfl⟩ (fun hHeld => ?_); clear hK K; refine norm_ (a' := ?_) ?_ ?_; rotate_left
       ·show Act.put _ (some 29) _ = _
        simp only [Act.put, sA, sB, sC, i64_w, i32_w]
        rfl
       refine pure_ (i := 6) (N := some 30) (v := ?_) (a' := ?_) (bs 12 127) rfl rfl (ak HT_.out) (fun _ _ _ h => h) (Or.inl ⟨by rfl, ?_⟩) ?_ ?_; rotate_left
       ·intro w'
        go_simp
        (with_reducible rfl)
       rotate_left
       ·simp only [Act.put, sA, sB, sC, i64_w, i32_w]
        rfl
       refine pure_ (i := 7) (N := some 31) (v := ?_) (a' := ?_) (bs 12 255) rfl rfl (ak HT_.out) (fun _ _ _ h => h) (Or.inl ⟨by rfl, ?_⟩) ?_ ?_; rotate_left
       ·intro w'
        go_simp
        (with_reducible rfl)
       rotate_left
       ·simp only [Act.put, sA, sB, sC, i64_w, i32_w]
        rfl
       refine take_ (i := 8) (N := some 32) (v := ?_) (a' := ?_) (bs 12 511) rfl rfl (take_ofW HT_.out HW_.out (by kernel_rfl)) (fun _ _ _ h => h) (Or.inl ⟨by rfl, ?_⟩) hHeld ?_ ?_; rotate_left
       ·rintro w' ⟨s0, s1, s2, s3, s4, s5, s6, s7, s8, s9⟩
        go_simp
        (with_reducible rfl)
       rotate_left
       ·simp only [Act.put, sA, sB, sC, i64_w, i32_w]
        rfl
       refine one_ (i := 9) (N := some 33) (bs 12 1023) rfl rfl (one_of HT_.out (by kernel_rfl)) (by decide) (fun K hK => ?_); refine goes_ Tryd.func10 (by kernel_rfl) rfl #[.agg #[.string t279, .slice Ao30 t280.length co30, .string t283, .string t284, .string t285, .int .i64 t286, .int .i64 t287, .bool t288, .int .i64 t289, .int .i64 t290]] (by rfl) rfl rfl ap1 ?_; (with_reducible refine (order_Right.calls kj2 t279 _ _ t280 t283 t284 t285 t286 t287 t288 t289 t290 t308 _ ?side1 ?side2 ?side3 A22.out).mono ?_)
       (case side1 => exact cu (Kd.R_reads' HO282.out).2.2)
       (case side2 => exact (Kd.R_reads' HO282.out).2.1)
       (case side3 => first | exact HT.out | exact Tabs.below HT.out (beg (JS72.ge HI278.out) HB.out))
       rintro e w36 ⟨rfl, hb⟩; refine ⟨_, rfl, ?_⟩; have n0_ := am (Kd.R_below (ru HO_1.out) hb); have n1_ := am (Kd.R_below (ru HO282.out) hb); have n2_ := am (Kd.R_below (ru HO298.out) hb); have n3_ := am (JS72.below (JS72.u HI278.out) hb); have n4_ := am (blk_below (bu BK294.out) hb); have n5_ := am (below_step (beg (JS72.ge HI278.out) HB.out) hb); clear HO_1 HO282 HO298 HI278 BK294 HB; have HO_1 := n0_; have HO282 := n1_; have HO298 := n2_; have HI278 := n3_; have BK294 := n4_; have HB := n5_; clear n0_ n1_ n2_ n3_ n4_ n5_
       (try clear hb)
       (try clear hb2)
       (try clear hk)
       (try clear hi)
       refine hK.out _ _ ⟨(blk_cell BK294.out 0).trans rfl, (blk_cell BK294.out 1).trans rfl, (blk_cell BK294.out 2).trans rfl, (blk_cell BK294.out 3).trans rfl, (blk_cell BK294.out 4).trans rfl, (blk_cell BK294.out 5).trans rfl, (blk_cell BK294.out 6).trans rfl, (blk_cell BK294.out 7).trans rfl, (blk_cell BK294.out 8).trans rfl, (blk_cell BK294.out 9).trans rfl⟩ (fun hHeld => ?_); clear hK K; refine norm_ (a' := ?_) ?_ ?_; rotate_left
       ·show Act.put _ (some 33) _ = _
        simp only [Act.put, sA, sB, sC, i64_w, i32_w]
        rfl
       refine pure_ (i := 10) (N := some 34) (v := ?_) (a' := ?_) (bs 12 2047) rfl rfl (ak HT_.out) (fun _ _ _ h => h) (Or.inl ⟨by rfl, ?_⟩) ?_ ?_; rotate_left
       ·intro w'
        go_simp
        (with_reducible rfl)
       rotate_left
       ·simp only [Act.put, sA, sB, sC, i64_w, i32_w]
        rfl
       refine pure_ (i := 11) (N := some 0) (v := ?_) (a' := ?_) (bs 12 4095) rfl rfl (ak HT_.out) (fun _ _ _ h => h) (Or.inl ⟨by rfl, ?_⟩) ?_ ?_; rotate_left
       ·intro w'
        go_simp
        (with_reducible rfl)
       rotate_left
       ·simp only [Act.put, sA, sB, sC, i64_w, i32_w]
        rfl
       refine done_ (done_of HT_.out (by kernel_rfl)) ?_
       try go_wp2
       go_ret
       exact ⟨ap4, beg (JS72.ge HI278.out) HB.out⟩
      ·replace c21 := Bool.eq_false_iff.mpr c21
       subst c21
       have H1 : (some false) = some r := by rw [if_neg (show ¬ (false = true) by decide)] at H; exact H
       clear H; have H := H1; clear H1; obtain rfl := Option.some.inj H; exact absurd HRT.out (by decide)
     ·rw [if_neg c18] at H
      have c18b0 : (t291 == 0) = false := beq_eq_false_iff_ne.mpr c18; have c18b1 : (t291 != 0) = true := bne_iff_ne.mpr c18; obtain rfl := Option.some.inj H; exact absurd HRT.out (by decide)
    ·rw [if_neg c15] at H
     exact absurd H (by simp)
def packet_Reader_Done.f (s0_0 : List Int) (s0_1 : Bool) : Option (Bool × List Int × Bool) := if s0_1 = true then (some (false, s0_0, s0_1)) else (some (((s0_0.length : Int) == 0), s0_0, s0_1))
set_option maxHeartbeats 8000000 in
set_option maxRecDepth 100000 in
theorem packet_Reader_Done.calls (g : Nat) (s0_0 : List Int) (s0_1 : Bool) (r1 : Bool) (r2 : List Int) (r3 : Bool) (w0 w : World) (hI : IsS72 w0 w g s0_0 s0_1) (hB : Below w0.heap.size w0 w) (h : packet_Reader_Done.f s0_0 s0_1 = some (r1, r2, r3)) :
  Calls Tryd.prog 17 #[.pointer (some ⟨g, 0, none⟩)] w fun e w' => e = .returned (.bool r1) ∧ IsS72 w0 w' g r2 r3 ∧ Below w0.heap.size w0 w' ∧ KeepBut w w' g none := by
 have HI0 := am hI; have HK := am (KeepBut.refl w g none); have HL := am hB.size; clear hI; have HW0 := am hB.size; have HB := am hB; clear hB; have H : (if s0_1 = true then (some (false, s0_0, s0_1)) else (some (((s0_0.length : Int) == 0), s0_0, s0_1))) = some (r1, r2, r3) := h; clear h
 by_cases c2 : s0_1 = true
 ·subst c2
  have H1 : (some (false, s0_0, true)) = some (r1, r2, r3) := by rw [if_pos rfl] at H; exact H
  clear H; have H := H1; clear H1; simp only [Option.some.injEq, Prod.mk.injEq] at H; obtain ⟨rfl, rfl, rfl⟩ := H; obtain ⟨ASz3_0, cSz3_0, HGz3, hgz3, HSz3_0⟩ := HI0.out; have hcz3_0 := cellS72_0 HGz3; have hcz3_1 := cellS72_1 HGz3; have hfz3_0 := blk_frozen HGz3 0; have hfz3_1 := blk_frozen HGz3 1; clear HGz3 hgz3
  go_enter Tryd.func17, Tryd.ntmps17
  go_wp2
  go_ret
  exact ⟨ap4, IsS72.u HI0.out, beg (IsS72.ge HI0.out) HB.out, ku HK.out⟩
 ·replace c2 := Bool.eq_false_iff.mpr c2
  subst c2
  have H1 : (some (((s0_0.length : Int) == 0), s0_0, false)) = some (r1, r2, r3) := by rw [if_neg (show ¬ (false = true) by decide)] at H; exact H
  clear H; have H := H1; clear H1; simp only [Option.some.injEq, Prod.mk.injEq] at H; obtain ⟨rfl, rfl, rfl⟩ := H; obtain ⟨ASz4_0, cSz4_0, HGz4, hgz4, HSz4_0⟩ := HI0.out; have hcz4_0 := cellS72_0 HGz4; have hcz4_1 := cellS72_1 HGz4; have hfz4_0 := blk_frozen HGz4 0; have hfz4_1 := blk_frozen HGz4 1; clear HGz4 hgz4
  go_enter Tryd.func17, Tryd.ntmps17
  go_wp2
  go_ret
  exact ⟨ap4, IsS72.u HI0.out, beg (IsS72.ge HI0.out) HB.out, ku HK.out⟩
theorem packet_Reader_Done.callsJ (g : Nat) (s0_0 : List Int) (s0_1 : Bool) (r1 : Bool) (r2 : List Int) (r3 : Bool) (w0 w : World) (hI : JS72 w0 w g s0_0 s0_1) (hB : Below w0.heap.size w0 w) (h : packet_Reader_Done.f s0_0 s0_1 = some (r1, r2, r3)) :
  Calls Tryd.prog 17 #[.pointer (some ⟨g, 0, none⟩)] w fun e w' => e = .returned (.bool r1) ∧ JS72 w0 w' g r2 r3 ∧ Below w0.heap.size w0 w' ∧ KeepBut w w' g none := by
 obtain ⟨wS, hIs, hBs, hle⟩ := hI
 exact (packet_Reader_Done.calls g s0_0 s0_1 r1 r2 r3 wS w hIs hBs h).mono fun e w' hp_ => by
  obtain ⟨p0_, hi_, hb_, hk_⟩ := hp_; exact ⟨p0_, ⟨wS, hi_, hb_, hle⟩, below_keepJ72 hB hBs hb_ hk_ (Nat.le_trans hle.size (IsS72.ge hIs)), hk_⟩
mutual
def packhorseref01_sign.j0 : Nat → ByteArray → Int → Int → Bool → Option (Int × Bool)
 | 0, _, _, _, _ => none
 | k + 1, x0, x1, x6, x16 => if x16 = true then (some (1, true)) else (if x6 ≥ 48 then (if x6 ≤ 57 then (packhorseref01_sign.j1 k x0 x1 x6 true) else (packhorseref01_sign.j1 k x0 x1 x6 (x6 == 45))) else (packhorseref01_sign.j1 k x0 x1 x6 (x6 == 45)))
def packhorseref01_sign.j1 : Nat → ByteArray → Int → Int → Bool → Option (Int × Bool)
 | 0, _, _, _, _ => none
 | k + 1, x0, x1, x6, x26 => if x26 = true then (some (1, false)) else (if (wrap64 (x1 + 1)) ≥ (x0.size : Int) then (some (0, false)) else (if 0 ≤ (wrap64 (x1 + 1)) then (if (wrap64 (x1 + 1)) < (x0.size : Int) then (if x6 = 206 then (if (bt x0 (wrap64 (x1 + 1))) ≥ 177 then (if (bt x0 (wrap64 (x1 + 1))) ≤ 191 then (some (2, true)) else (if x6 = 207 then (if (bt x0 (wrap64 (x1 + 1))) ≥ 128 then (if (bt x0 (wrap64 (x1 + 1))) ≤ 137 then (some (2, true)) else (some (0, false))) else (some (0, false))) else (some (0, false)))) else (if x6 = 207 then (if (bt x0 (wrap64 (x1 + 1))) ≥ 128 then (if (bt x0 (wrap64 (x1 + 1))) ≤ 137 then (some (2, true)) else (some (0, false))) else (some (0, false))) else (some (0, false)))) else (if x6 = 207 then (if (bt x0 (wrap64 (x1 + 1))) ≥ 128 then (if (bt x0 (wrap64 (x1 + 1))) ≤ 137 then (some (2, true)) else (some (0, false))) else (some (0, false))) else (some (0, false)))) else (none)) else (none)))
end
def packhorseref01_sign.f (k : Nat) (a0 : ByteArray) (a1 : Int) : Option (Int × Bool) := if 0 ≤ a1 then (if a1 < (a0.size : Int) then (if (bt a0 a1) ≥ 97 then (packhorseref01_sign.j0 k a0 a1 (bt a0 a1) (decide ((bt a0 a1) ≤ 122))) else (packhorseref01_sign.j0 k a0 a1 (bt a0 a1) false)) else (none)) else (none)
theorem packhorseref01_sign.mono_l : ∀ k, (∀ y0 y1 y2 y3, LeO (packhorseref01_sign.j0 k y0 y1 y2 y3) (packhorseref01_sign.j0 (k + 1) y0 y1 y2 y3)) ∧ (∀ y0 y1 y2 y3, LeO (packhorseref01_sign.j1 k y0 y1 y2 y3) (packhorseref01_sign.j1 (k + 1) y0 y1 y2 y3))
 | 0 => ⟨fun _ _ _ _ r h => by simp [packhorseref01_sign.j0] at h, fun _ _ _ _ r h => by simp [packhorseref01_sign.j1] at h⟩
 | k + 1 => by
  obtain ⟨ih0, ih1⟩ := packhorseref01_sign.mono_l k; refine ⟨?_, ?_⟩
  ·intro y0 y1 y2 y3
   unfold packhorseref01_sign.j0
   repeat' first
   | (with_reducible exact ih0 _ _ _ _)
   | (with_reducible exact ih1 _ _ _ _)
   | (with_reducible exact LeO.refl _)
   | (with_reducible exact LeO.none _)
   | (with_reducible refine LeO.ite ?_ ?_)
   | (with_reducible refine LeO.bind ?_ (fun _ => ?_))
   | exact ih0 _ _ _ _
   | exact ih1 _ _ _ _
   | exact LeO.none _
   | refine LeO.ite ?_ ?_
   | refine LeO.bind ?_ (fun _ => ?_)
  ·intro y0 y1 y2 y3
   unfold packhorseref01_sign.j1
   repeat' first
   | (with_reducible exact ih0 _ _ _ _)
   | (with_reducible exact ih1 _ _ _ _)
   | (with_reducible exact LeO.refl _)
   | (with_reducible exact LeO.none _)
   | (with_reducible refine LeO.ite ?_ ?_)
   | (with_reducible refine LeO.bind ?_ (fun _ => ?_))
   | exact ih0 _ _ _ _
   | exact ih1 _ _ _ _
   | exact LeO.none _
   | refine LeO.ite ?_ ?_
   | refine LeO.bind ?_ (fun _ => ?_)
set_option maxHeartbeats 8000000 in
set_option maxRecDepth 100000 in
theorem packhorseref01_sign.calls (k : Nat) (a0 : ByteArray) (a1 : Int) (r1 : Int) (r2 : Bool) (w : World) (h : packhorseref01_sign.f k a0 a1 = some (r1, r2)) :
  Calls Tryd.prog 60 #[.string a0, .int .i64 a1] w fun e w' => e = .returned (.tuple #[.int .i64 r1, .bool r2]) ∧ Drawn0 w w' := by
 have H : (if 0 ≤ a1 then (if a1 < (a0.size : Int) then (if (bt a0 a1) ≥ 97 then (packhorseref01_sign.j0 k a0 a1 (bt a0 a1) (decide ((bt a0 a1) ≤ 122))) else (packhorseref01_sign.j0 k a0 a1 (bt a0 a1) false)) else (none)) else (none)) = some (r1, r2) := h; clear h
 by_cases c3 : 0 ≤ a1
 ·rw [if_pos c3] at H
  have c3b0 : decide (0 ≤ a1) = true := decide_eq_true c3; clear c3
  by_cases c4 : a1 < (a0.size : Int)
  ·rw [if_pos c4] at H
   have c4b0 : decide (a1 < (a0.size : Int)) = true := decide_eq_true c4; clear c4; have HC6 := am H; clear H; have p5 : 0 ≤ (a1 : Int) := of_decide_eq_true ap2; have q5 : a1 < (a0.size : Int) := of_decide_eq_true ap2; have hx5 := bt_at a0 a1; replace p5 := eq_true p5; replace q5 := eq_true q5
   go_enter Tryd.func60, Tryd.ntmps60
   go_upto_region 2 with (fail)
   go_cut [16] (fun v16 wc => ∃ (kq : Nat) (x16_5 : Bool), v16 = .bool x16_5 ∧ Aside0 (packhorseref01_sign.j0 kq a0 a1 (bt a0 a1) x16_5 = some (r1, r2)) ∧ Aside0 (kq ≤ k) ∧ Drawn0 w wc)
   case first =>
    have H := HC6.out; clear HC6
    by_cases c7 : (bt a0 a1) ≥ 97
    ·rw [if_pos c7] at H
     have c7b0 : decide (97 ≤ (bt a0 a1)) = true := decide_eq_true c7; clear c7
     (first | rw [c7b0] | (simp only [i64_w, i32_w]; rw [c7b0]) | skip)
     have H' := am H; clear H
     go_wp2
     go_meet
     case rel => exact ⟨_, (decide ((bt a0 a1) ≤ 122)), ap3, H', ⟨by first | omega | exact Nat.le_refl _⟩, ap5⟩
    ·rw [if_neg c7] at H
     have c7b0 : decide (97 ≤ (bt a0 a1)) = false := decide_eq_false c7; clear c7
     (first | rw [c7b0] | (simp only [i64_w, i32_w]; rw [c7b0]) | skip)
     have H' := am H; clear H
     go_wp2
     go_meet
     case rel => exact ⟨_, (false), ap3, H', ⟨by first | omega | exact Nat.le_refl _⟩, ap5⟩
   case rest =>
    clear HC6; (try clear p2); (try clear c3); (try clear c3b0); (try clear c4); (try clear c4b0); (try clear p5); (try clear q5); (try clear hx5); (try clear c6); (try clear c7); (try clear c7b0); (try clear p5); (try clear q5); obtain ⟨kq, x16_5, rfl, HA, HJ5, ⟨mc5, rfl⟩⟩ := hcut
    cases kq with
    | zero => exact absurd HA.out (by simp [packhorseref01_sign.j0])
    | succ kj5 =>
     have H := HA.out; clear HA; simp only [packhorseref01_sign.j0] at H
     by_cases c8 : x16_5 = true
     ·subst c8
      have H1 : (some (1, true)) = some (r1, r2) := by rw [if_pos rfl] at H; exact H
      clear H; have H := H1; clear H1; simp only [Option.some.injEq, Prod.mk.injEq] at H; obtain ⟨rfl, rfl⟩ := H
      go_wp2
      go_ret2
      exact ⟨ap3, ap5⟩
     ·replace c8 := Bool.eq_false_iff.mpr c8
      subst c8
      have H1 : (if (bt a0 a1) ≥ 48 then (if (bt a0 a1) ≤ 57 then (packhorseref01_sign.j1 kj5 a0 a1 (bt a0 a1) true) else (packhorseref01_sign.j1 kj5 a0 a1 (bt a0 a1) ((bt a0 a1) == 45))) else (packhorseref01_sign.j1 kj5 a0 a1 (bt a0 a1) ((bt a0 a1) == 45))) = some (r1, r2) := by rw [if_neg (show ¬ (false = true) by decide)] at H; exact H
      clear H; have H := H1; clear H1; have HC9 := am H; clear H
      go_upto_region 4 with (fail)
      go_cut [26] (fun v26 wc => ∃ (kq : Nat) (x26_8 : Bool), v26 = .bool x26_8 ∧ Aside0 (packhorseref01_sign.j1 kq a0 a1 (bt a0 a1) x26_8 = some (r1, r2)) ∧ Aside0 (kq ≤ kj5) ∧ Drawn0 w wc)
      case first =>
       have H := HC9.out; clear HC9
       by_cases c10 : (bt a0 a1) ≥ 48
       ·rw [if_pos c10] at H
        have c10b0 : decide (48 ≤ (bt a0 a1)) = true := decide_eq_true c10; clear c10
        (first | rw [c10b0] | (simp only [i64_w, i32_w]; rw [c10b0]) | skip)
        by_cases c11 : (bt a0 a1) ≤ 57
        ·rw [if_pos c11] at H
         have c11b0 : decide ((bt a0 a1) ≤ 57) = true := decide_eq_true c11; clear c11; have H' := am H; clear H
         go_wp2
         go_meet
         case rel => exact ⟨_, (true), ap3, H', ⟨by have := HJ5.out; first | omega | exact Nat.le_refl _⟩, ap5⟩
        ·rw [if_neg c11] at H
         have c11b0 : decide ((bt a0 a1) ≤ 57) = false := decide_eq_false c11; clear c11; have H' := am H; clear H
         go_wp2
         go_meet
         case rel => exact ⟨_, (((bt a0 a1) == 45)), ap3, H', ⟨by have := HJ5.out; first | omega | exact Nat.le_refl _⟩, ap5⟩
       ·rw [if_neg c10] at H
        have c10b0 : decide (48 ≤ (bt a0 a1)) = false := decide_eq_false c10; clear c10
        (first | rw [c10b0] | (simp only [i64_w, i32_w]; rw [c10b0]) | skip)
        have H' := am H; clear H
        go_wp2
        go_meet
        case rel => exact ⟨_, (((bt a0 a1) == 45)), ap3, H', ⟨by have := HJ5.out; first | omega | exact Nat.le_refl _⟩, ap5⟩
      case rest =>
       clear HC9; (try clear c1); (try clear p2); (try clear c3); (try clear c3b0); (try clear c4); (try clear c4b0); (try clear c5); (try clear p5); (try clear q5); (try clear hx5); (try clear c6); (try clear c7); (try clear c7b0); (try clear c8); (try clear c10); (try clear c10b0); (try clear c11); (try clear c11b0); (try clear p2); (try clear p5); (try clear q5); obtain ⟨kq, x26_8, rfl, HA, HJ8, ⟨mc8, rfl⟩⟩ := hcut
       cases kq with
       | zero => exact absurd HA.out (by simp [packhorseref01_sign.j1])
       | succ kj8 =>
        have H := HA.out; clear HA; simp only [packhorseref01_sign.j1] at H
        by_cases c12 : x26_8 = true
        ·subst c12
         have H1 : (some (1, false)) = some (r1, r2) := by rw [if_pos rfl] at H; exact H
         clear H; have H := H1; clear H1; simp only [Option.some.injEq, Prod.mk.injEq] at H; obtain ⟨rfl, rfl⟩ := H
         go_wp2
         go_ret2
         exact ⟨ap3, ap5⟩
        ·replace c12 := Bool.eq_false_iff.mpr c12
         subst c12
         have H1 : (if (wrap64 (a1 + 1)) ≥ (a0.size : Int) then (some (0, false)) else (if 0 ≤ (wrap64 (a1 + 1)) then (if (wrap64 (a1 + 1)) < (a0.size : Int) then (if (bt a0 a1) = 206 then (if (bt a0 (wrap64 (a1 + 1))) ≥ 177 then (if (bt a0 (wrap64 (a1 + 1))) ≤ 191 then (some (2, true)) else (if (bt a0 a1) = 207 then (if (bt a0 (wrap64 (a1 + 1))) ≥ 128 then (if (bt a0 (wrap64 (a1 + 1))) ≤ 137 then (some (2, true)) else (some (0, false))) else (some (0, false))) else (some (0, false)))) else (if (bt a0 a1) = 207 then (if (bt a0 (wrap64 (a1 + 1))) ≥ 128 then (if (bt a0 (wrap64 (a1 + 1))) ≤ 137 then (some (2, true)) else (some (0, false))) else (some (0, false))) else (some (0, false)))) else (if (bt a0 a1) = 207 then (if (bt a0 (wrap64 (a1 + 1))) ≥ 128 then (if (bt a0 (wrap64 (a1 + 1))) ≤ 137 then (some (2, true)) else (some (0, false))) else (some (0, false))) else (some (0, false)))) else (none)) else (none))) = some (r1, r2) := by rw [if_neg (show ¬ (false = true) by decide)] at H; exact H
         clear H; have H := H1; clear H1
         by_cases c13 : (wrap64 (a1 + 1)) ≥ (a0.size : Int)
         ·rw [if_pos c13] at H
          have c13b0 : decide ((a0.size : Int) ≤ (wrap64 (a1 + 1))) = true := decide_eq_true c13; clear c13; simp only [Option.some.injEq, Prod.mk.injEq] at H; obtain ⟨rfl, rfl⟩ := H
          go_wp2
          go_ret2
          exact ⟨ap3, ap5⟩
         ·rw [if_neg c13] at H
          have c13b0 : decide ((a0.size : Int) ≤ (wrap64 (a1 + 1))) = false := decide_eq_false c13; clear c13; obtain ⟨ji14, hji14⟩ : ∃ j_ : Int, (wrap64 (a1 + 1)) = j_ := ⟨_, rfl⟩
          replace H : (if 0 ≤ (ji14) then (if (ji14) < (a0.size : Int) then (if (bt a0 a1) = 206 then (if (bt a0 (ji14)) ≥ 177 then (if (bt a0 (ji14)) ≤ 191 then (some (2, true)) else (if (bt a0 a1) = 207 then (if (bt a0 (ji14)) ≥ 128 then (if (bt a0 (ji14)) ≤ 137 then (some (2, true)) else (some (0, false))) else (some (0, false))) else (some (0, false)))) else (if (bt a0 a1) = 207 then (if (bt a0 (ji14)) ≥ 128 then (if (bt a0 (ji14)) ≤ 137 then (some (2, true)) else (some (0, false))) else (some (0, false))) else (some (0, false)))) else (if (bt a0 a1) = 207 then (if (bt a0 (ji14)) ≥ 128 then (if (bt a0 (ji14)) ≤ 137 then (some (2, true)) else (some (0, false))) else (some (0, false))) else (some (0, false)))) else (none)) else (none)) = some (r1, r2) := by first | (rw [hji14] at H; exact H) | (simp only [hji14] at H ⊢; exact H)
          (try rw [hji14] at c13b0)
          have hji14w : (IntKind.i64.wrap (a1 + 1)) = ji14 := (i64_w _).trans hji14
          by_cases c15 : 0 ≤ (ji14)
          ·rw [if_pos c15] at H
           have c15b0 : decide (0 ≤ (ji14)) = true := decide_eq_true c15; clear c15
           by_cases c16 : (ji14) < (a0.size : Int)
           ·rw [if_pos c16] at H
            have c16b0 : decide ((ji14) < (a0.size : Int)) = true := decide_eq_true c16; clear c16
            by_cases c18 : (bt a0 a1) = 206
            ·rw [if_pos c18] at H
             have c18b0 : ((bt a0 a1) == 206) = true := beq_iff_eq.mpr c18; have c18b1 : ((bt a0 a1) != 206) = false := bne_eq_false_iff_eq.mpr c18; clear c18
             by_cases c19 : (bt a0 (ji14)) ≥ 177
             ·rw [if_pos c19] at H
              have c19b0 : decide (177 ≤ (bt a0 (ji14))) = true := decide_eq_true c19; clear c19
              by_cases c20 : (bt a0 (ji14)) ≤ 191
              ·rw [if_pos c20] at H
               have c20b0 : decide ((bt a0 (ji14)) ≤ 191) = true := decide_eq_true c20; clear c20; simp only [Option.some.injEq, Prod.mk.injEq] at H; obtain ⟨rfl, rfl⟩ := H; have p17 : 0 ≤ ((ji14) : Int) := of_decide_eq_true ap2; have q17 : (ji14) < (a0.size : Int) := of_decide_eq_true ap2; have hx17 := bt_at a0 (ji14); replace p17 := eq_true p17; replace q17 := eq_true q17
               go_wp2
               go_ret2
               exact ⟨by first | rfl | (simp; done) | (simp only [← hji14] <;> (first | rfl | simp)) | (simp [*]; done), ap5⟩
              ·rw [if_neg c20] at H
               have c20b0 : decide ((bt a0 (ji14)) ≤ 191) = false := decide_eq_false c20; clear c20
               by_cases c21 : (bt a0 a1) = 207
               ·rw [if_pos c21] at H
                have c21b0 : ((bt a0 a1) == 207) = true := beq_iff_eq.mpr c21; have c21b1 : ((bt a0 a1) != 207) = false := bne_eq_false_iff_eq.mpr c21; clear c21
                by_cases c22 : (bt a0 (ji14)) ≥ 128
                ·rw [if_pos c22] at H
                 have c22b0 : decide (128 ≤ (bt a0 (ji14))) = true := decide_eq_true c22; clear c22
                 by_cases c23 : (bt a0 (ji14)) ≤ 137
                 ·rw [if_pos c23] at H
                  have c23b0 : decide ((bt a0 (ji14)) ≤ 137) = true := decide_eq_true c23; clear c23; simp only [Option.some.injEq, Prod.mk.injEq] at H; obtain ⟨rfl, rfl⟩ := H; have p17 : 0 ≤ ((ji14) : Int) := of_decide_eq_true ap2; have q17 : (ji14) < (a0.size : Int) := of_decide_eq_true ap2; have hx17 := bt_at a0 (ji14); replace p17 := eq_true p17; replace q17 := eq_true q17
                  go_wp2
                  go_ret2
                  exact ⟨by first | rfl | (simp; done) | (simp only [← hji14] <;> (first | rfl | simp)) | (simp [*]; done), ap5⟩
                 ·rw [if_neg c23] at H
                  have c23b0 : decide ((bt a0 (ji14)) ≤ 137) = false := decide_eq_false c23; clear c23; simp only [Option.some.injEq, Prod.mk.injEq] at H; obtain ⟨rfl, rfl⟩ := H; have p17 : 0 ≤ ((ji14) : Int) := of_decide_eq_true ap2; have q17 : (ji14) < (a0.size : Int) := of_decide_eq_true ap2; have hx17 := bt_at a0 (ji14); replace p17 := eq_true p17; replace q17 := eq_true q17
                  go_wp2
                  go_ret2
                  exact ⟨by first | rfl | (simp; done) | (simp only [← hji14] <;> (first | rfl | simp)) | (simp [*]; done), ap5⟩
                ·rw [if_neg c22] at H
                 have c22b0 : decide (128 ≤ (bt a0 (ji14))) = false := decide_eq_false c22; clear c22; simp only [Option.some.injEq, Prod.mk.injEq] at H; obtain ⟨rfl, rfl⟩ := H; have p17 : 0 ≤ ((ji14) : Int) := of_decide_eq_true ap2; have q17 : (ji14) < (a0.size : Int) := of_decide_eq_true ap2; have hx17 := bt_at a0 (ji14); replace p17 := eq_true p17; replace q17 := eq_true q17
                 go_wp2
                 go_ret2
                 exact ⟨by first | rfl | (simp; done) | (simp only [← hji14] <;> (first | rfl | simp)) | (simp [*]; done), ap5⟩
               ·rw [if_neg c21] at H
                have c21b0 : ((bt a0 a1) == 207) = false := beq_eq_false_iff_ne.mpr c21; have c21b1 : ((bt a0 a1) != 207) = true := bne_iff_ne.mpr c21; simp only [Option.some.injEq, Prod.mk.injEq] at H; obtain ⟨rfl, rfl⟩ := H; have p17 : 0 ≤ ((ji14) : Int) := of_decide_eq_true ap2; have q17 : (ji14) < (a0.size : Int) := of_decide_eq_true ap2; have hx17 := bt_at a0 (ji14); replace p17 := eq_true p17; replace q17 := eq_true q17
                go_wp2
                go_ret2
                exact ⟨by first | rfl | (simp; done) | (simp only [← hji14] <;> (first | rfl | simp)) | (simp [*]; done), ap5⟩
             ·rw [if_neg c19] at H
              have c19b0 : decide (177 ≤ (bt a0 (ji14))) = false := decide_eq_false c19; clear c19
              by_cases c24 : (bt a0 a1) = 207
              ·rw [if_pos c24] at H
               have c24b0 : ((bt a0 a1) == 207) = true := beq_iff_eq.mpr c24; have c24b1 : ((bt a0 a1) != 207) = false := bne_eq_false_iff_eq.mpr c24; clear c24
               by_cases c25 : (bt a0 (ji14)) ≥ 128
               ·rw [if_pos c25] at H
                have c25b0 : decide (128 ≤ (bt a0 (ji14))) = true := decide_eq_true c25; clear c25
                by_cases c26 : (bt a0 (ji14)) ≤ 137
                ·rw [if_pos c26] at H
                 have c26b0 : decide ((bt a0 (ji14)) ≤ 137) = true := decide_eq_true c26; clear c26; simp only [Option.some.injEq, Prod.mk.injEq] at H; obtain ⟨rfl, rfl⟩ := H; have p17 : 0 ≤ ((ji14) : Int) := of_decide_eq_true ap2; have q17 : (ji14) < (a0.size : Int) := of_decide_eq_true ap2; have hx17 := bt_at a0 (ji14); replace p17 := eq_true p17; replace q17 := eq_true q17
                 go_wp2
                 go_ret2
                 exact ⟨by first | rfl | (simp; done) | (simp only [← hji14] <;> (first | rfl | simp)) | (simp [*]; done), ap5⟩
                ·rw [if_neg c26] at H
                 have c26b0 : decide ((bt a0 (ji14)) ≤ 137) = false := decide_eq_false c26; clear c26; simp only [Option.some.injEq, Prod.mk.injEq] at H; obtain ⟨rfl, rfl⟩ := H; have p17 : 0 ≤ ((ji14) : Int) := of_decide_eq_true ap2; have q17 : (ji14) < (a0.size : Int) := of_decide_eq_true ap2; have hx17 := bt_at a0 (ji14); replace p17 := eq_true p17; replace q17 := eq_true q17
                 go_wp2
                 go_ret2
                 exact ⟨by first | rfl | (simp; done) | (simp only [← hji14] <;> (first | rfl | simp)) | (simp [*]; done), ap5⟩
               ·rw [if_neg c25] at H
                have c25b0 : decide (128 ≤ (bt a0 (ji14))) = false := decide_eq_false c25; clear c25; simp only [Option.some.injEq, Prod.mk.injEq] at H; obtain ⟨rfl, rfl⟩ := H; have p17 : 0 ≤ ((ji14) : Int) := of_decide_eq_true ap2; have q17 : (ji14) < (a0.size : Int) := of_decide_eq_true ap2; have hx17 := bt_at a0 (ji14); replace p17 := eq_true p17; replace q17 := eq_true q17
                go_wp2
                go_ret2
                exact ⟨by first | rfl | (simp; done) | (simp only [← hji14] <;> (first | rfl | simp)) | (simp [*]; done), ap5⟩
              ·rw [if_neg c24] at H
               have c24b0 : ((bt a0 a1) == 207) = false := beq_eq_false_iff_ne.mpr c24; have c24b1 : ((bt a0 a1) != 207) = true := bne_iff_ne.mpr c24; simp only [Option.some.injEq, Prod.mk.injEq] at H; obtain ⟨rfl, rfl⟩ := H; have p17 : 0 ≤ ((ji14) : Int) := of_decide_eq_true ap2; have q17 : (ji14) < (a0.size : Int) := of_decide_eq_true ap2; have hx17 := bt_at a0 (ji14); replace p17 := eq_true p17; replace q17 := eq_true q17
               go_wp2
               go_ret2
               exact ⟨by first | rfl | (simp; done) | (simp only [← hji14] <;> (first | rfl | simp)) | (simp [*]; done), ap5⟩
            ·rw [if_neg c18] at H
             have c18b0 : ((bt a0 a1) == 206) = false := beq_eq_false_iff_ne.mpr c18; have c18b1 : ((bt a0 a1) != 206) = true := bne_iff_ne.mpr c18
             by_cases c27 : (bt a0 a1) = 207
             ·rw [if_pos c27] at H
              have c27b0 : ((bt a0 a1) == 207) = true := beq_iff_eq.mpr c27; have c27b1 : ((bt a0 a1) != 207) = false := bne_eq_false_iff_eq.mpr c27; clear c27
              by_cases c28 : (bt a0 (ji14)) ≥ 128
              ·rw [if_pos c28] at H
               have c28b0 : decide (128 ≤ (bt a0 (ji14))) = true := decide_eq_true c28; clear c28
               by_cases c29 : (bt a0 (ji14)) ≤ 137
               ·rw [if_pos c29] at H
                have c29b0 : decide ((bt a0 (ji14)) ≤ 137) = true := decide_eq_true c29; clear c29; simp only [Option.some.injEq, Prod.mk.injEq] at H; obtain ⟨rfl, rfl⟩ := H; have p17 : 0 ≤ ((ji14) : Int) := of_decide_eq_true ap2; have q17 : (ji14) < (a0.size : Int) := of_decide_eq_true ap2; have hx17 := bt_at a0 (ji14); replace p17 := eq_true p17; replace q17 := eq_true q17
                go_wp2
                go_ret2
                exact ⟨by first | rfl | (simp; done) | (simp only [← hji14] <;> (first | rfl | simp)) | (simp [*]; done), ap5⟩
               ·rw [if_neg c29] at H
                have c29b0 : decide ((bt a0 (ji14)) ≤ 137) = false := decide_eq_false c29; clear c29; simp only [Option.some.injEq, Prod.mk.injEq] at H; obtain ⟨rfl, rfl⟩ := H; have p17 : 0 ≤ ((ji14) : Int) := of_decide_eq_true ap2; have q17 : (ji14) < (a0.size : Int) := of_decide_eq_true ap2; have hx17 := bt_at a0 (ji14); replace p17 := eq_true p17; replace q17 := eq_true q17
                go_wp2
                go_ret2
                exact ⟨by first | rfl | (simp; done) | (simp only [← hji14] <;> (first | rfl | simp)) | (simp [*]; done), ap5⟩
              ·rw [if_neg c28] at H
               have c28b0 : decide (128 ≤ (bt a0 (ji14))) = false := decide_eq_false c28; clear c28; simp only [Option.some.injEq, Prod.mk.injEq] at H; obtain ⟨rfl, rfl⟩ := H; have p17 : 0 ≤ ((ji14) : Int) := of_decide_eq_true ap2; have q17 : (ji14) < (a0.size : Int) := of_decide_eq_true ap2; have hx17 := bt_at a0 (ji14); replace p17 := eq_true p17; replace q17 := eq_true q17
               go_wp2
               go_ret2
               exact ⟨by first | rfl | (simp; done) | (simp only [← hji14] <;> (first | rfl | simp)) | (simp [*]; done), ap5⟩
             ·rw [if_neg c27] at H
              have c27b0 : ((bt a0 a1) == 207) = false := beq_eq_false_iff_ne.mpr c27; have c27b1 : ((bt a0 a1) != 207) = true := bne_iff_ne.mpr c27; simp only [Option.some.injEq, Prod.mk.injEq] at H; obtain ⟨rfl, rfl⟩ := H; have p17 : 0 ≤ ((ji14) : Int) := of_decide_eq_true ap2; have q17 : (ji14) < (a0.size : Int) := of_decide_eq_true ap2; have hx17 := bt_at a0 (ji14); replace p17 := eq_true p17; replace q17 := eq_true q17
              go_wp2
              go_ret2
              exact ⟨by first | rfl | (simp; done) | (simp only [← hji14] <;> (first | rfl | simp)) | (simp [*]; done), ap5⟩
           ·rw [if_neg c16] at H
            exact absurd H (by simp)
          ·rw [if_neg c15] at H
           exact absurd H (by simp)
  ·rw [if_neg c4] at H
   exact absurd H (by simp)
 ·rw [if_neg c3] at H
  exact absurd H (by simp)
def packhorseref01_Signs.l0 : Nat → ByteArray → List ByteArray → Int → Option (List ByteArray)
 | 0, _, _, _ => none
 | k + 1, x0, x3, x4 => if x4 < (x0.size : Int) then ((packhorseref01_sign.f k x0 x4).bind fun bt256 => (if bt256.1 = 0 then (some ([] : List ByteArray)) else (if (x3.length : Int) = 0 then (if bt256.2 = true then (if (x3.length : Int) = 16 then (some ([] : List ByteArray)) else (if 0 ≤ x4 then (if x4 ≤ (wrap64 (x4 + bt256.1)) then (if (wrap64 (x4 + bt256.1)) ≤ (x0.size : Int) then (if x3.length < 8796093022208 then (packhorseref01_Signs.l0 k x0 (x3 ++ [x0.extract (x4 : Int).toNat ((wrap64 (x4 + bt256.1)) : Int).toNat]) (wrap64 (x4 + bt256.1))) else (none)) else (none)) else (none)) else (none))) else (some ([] : List ByteArray))) else (if (x3.length : Int) = 16 then (some ([] : List ByteArray)) else (if 0 ≤ x4 then (if x4 ≤ (wrap64 (x4 + bt256.1)) then (if (wrap64 (x4 + bt256.1)) ≤ (x0.size : Int) then (if x3.length < 8796093022208 then (packhorseref01_Signs.l0 k x0 (x3 ++ [x0.extract (x4 : Int).toNat ((wrap64 (x4 + bt256.1)) : Int).toNat]) (wrap64 (x4 + bt256.1))) else (none)) else (none)) else (none)) else (none)))))) else (some x3)
def packhorseref01_Signs.f (k : Nat) (a0 : ByteArray) : Option (List ByteArray) := packhorseref01_Signs.l0 k a0 (([] : List ByteArray)) 0
set_option maxHeartbeats 8000000 in
set_option maxRecDepth 100000 in
theorem packhorseref01_Signs.calls (k : Nat) (a0 : ByteArray) (r : List ByteArray) (w : World) (h : packhorseref01_Signs.f k a0 = some r) :
  Calls Tryd.prog 53 #[.string a0] w fun e w' => ∃ v0_ : Value, e = .returned (v0_) ∧ Kd.R Kd.string 9 w' w.heap.size (fun _ => True) v0_ r ∧ Below w.heap.size w w' := by
 have HB := am (Below.refl w.heap.size w); have H : (packhorseref01_Signs.l0 k a0 (([] : List ByteArray)) 0) = some r := h; clear h; obtain ⟨y253, hy253⟩ : ∃ y_ : List ByteArray, y_ = (([] : List ByteArray)) := ⟨_, rfl⟩
 replace H : (packhorseref01_Signs.l0 k a0 y253 0) = some r := by first | (rw [hy253]; with_reducible exact H) | (have H2_ := (Option.bind_some _ _).symm.trans H; rw [hy253]; with_reducible exact H2_) | (have H2_ := (Option.bind_some _ _).symm.trans H; with_reducible exact H2_) | with_reducible exact H | (rw [hy253]; exact H) | exact H
 have Ny253 := am hy253; clear hy253; have H' := am H; clear H
 go_enter Tryd.func53, Tryd.ntmps53
 go_wp2_with (first | ((with_reducible refine gate_dst (N := 7) rfl ?_); (try (refine gate_guard (by rfl) ?_; dsimp only)); refine Kd.R_lit Kd.string _ 9 ?hg (N := 7) ?hd (xs := ([] : List ByteArray)) (inner := []) (ok := fun _ => True) (okp := fun _ => True) ?hr ?hp (fun _ hk => hk) trivial (Below.refl _ _) (Nat.le_refl _) (by simp) ?_; (case hd => rfl); (case hg => rfl); (case hr => first | (go_simp; done) | (go_simp; rfl)); (case hp => exact (Reps.none _ _)); intro v254 w2 ho3 hb hg_ hnew_; clear hg_ hnew_; (first | rw [← Ny253.out] at ho3 | (simp only [Int.reduceToNat] at ho3; rw [← Ny253.out] at ho3)); have _ := am (Kd.R_lower ho3 (below_size (beu HB.out))); have _ := am (below_step (beu HB.out) hb); clear HB; rename_i HO255 HB; clear hb ho3))
 go_loopg [3, 4] k (fun kq v3 v4 w' => ∃ (x3_1 : List ByteArray) (x4_1 : Int), v4 = .int .i64 x4_1 ∧ Aside0 (packhorseref01_Signs.l0 kq a0 x3_1 x4_1 = some r) ∧ Aside0 (kq ≤ k) ∧ Aside0 (Kd.R Kd.string 9 w' w.heap.size (fun _ => True) v3 x3_1) ∧ Aside0 (Below w.heap.size w w'))
 case atStart => exact ⟨(y253), (0), ap3, H', ⟨Nat.le_refl _⟩, ⟨ru HO255.out⟩, ⟨beu HB.out⟩⟩
 case round =>
  clear H'; (try clear p2); obtain ⟨x3_1, x4_1, rfl, HA, HK1, HO_3, HB⟩ := hrel
  cases gk with
  | zero => exact absurd HA.out (by simp [packhorseref01_Signs.l0])
  | succ k1 =>
   have H := HA.out; clear HA; simp only [packhorseref01_Signs.l0] at H
   by_cases c4 : x4_1 < (a0.size : Int)
   ·rw [if_pos c4] at H
    have c4b0 : decide (x4_1 < (a0.size : Int)) = true := decide_eq_true c4; clear c4; replace H := obm H; obtain ⟨⟨t256, t257⟩, A50, H⟩ := H; replace H : (if t256 = 0 then (some ([] : List ByteArray)) else (if (x3_1.length : Int) = 0 then (if t257 = true then (if (x3_1.length : Int) = 16 then (some ([] : List ByteArray)) else (if 0 ≤ x4_1 then (if x4_1 ≤ (wrap64 (x4_1 + t256)) then (if (wrap64 (x4_1 + t256)) ≤ (a0.size : Int) then (if x3_1.length < 8796093022208 then (packhorseref01_Signs.l0 k1 a0 (x3_1 ++ [a0.extract (x4_1 : Int).toNat ((wrap64 (x4_1 + t256)) : Int).toNat]) (wrap64 (x4_1 + t256))) else (none)) else (none)) else (none)) else (none))) else (some ([] : List ByteArray))) else (if (x3_1.length : Int) = 16 then (some ([] : List ByteArray)) else (if 0 ≤ x4_1 then (if x4_1 ≤ (wrap64 (x4_1 + t256)) then (if (wrap64 (x4_1 + t256)) ≤ (a0.size : Int) then (if x3_1.length < 8796093022208 then (packhorseref01_Signs.l0 k1 a0 (x3_1 ++ [a0.extract (x4_1 : Int).toNat ((wrap64 (x4_1 + t256)) : Int).toNat]) (wrap64 (x4_1 + t256))) else (none)) else (none)) else (none)) else (none))))) = some r := H; have A5 := am A50; clear A50
    by_cases c6 : t256 = 0
    ·rw [if_pos c6] at H
     have c6b0 : (t256 == 0) = true := beq_iff_eq.mpr c6; have c6b1 : (t256 != 0) = false := bne_eq_false_iff_eq.mpr c6; clear c6; obtain rfl := Option.some.inj H; simp only [Option.some.injEq, Prod.mk.injEq] at H; obtain ⟨rfl⟩ := H
     go_wp2_with (first | ((with_reducible refine gate_callee (f := 60) rfl ?_); refine goesL_ (some 15) rfl rfl Tryd.func60 (by kernel_rfl) rfl #[.string a0, .int .i64 x4_1] rfl ap1 ?_; (with_reducible refine (packhorseref01_sign.calls k1 a0 x4_1 t256 t257 _ A5.out).mono ?_); rintro e w' ⟨rfl, ⟨nd, rfl⟩⟩; refine ⟨_, rfl, ?_⟩))
     go_ret
     exact ⟨_, ap4, by first | exact Kd.R_nil _ _ _ _ _ | exact Kd.N_nil _ _ _ _ _ | exact Kd.V_nil _ _ _ _ _ | exact Kd.Q_nil _ _ _ _ _ | exact Kd.S_nil _ _ _ _ _, beu HB.out⟩
    ·rw [if_neg c6] at H
     have c6b0 : (t256 == 0) = false := beq_eq_false_iff_ne.mpr c6; have c6b1 : (t256 != 0) = true := bne_iff_ne.mpr c6
     by_cases c7 : (x3_1.length : Int) = 0
     ·rw [if_pos c7] at H
      have c7b0 : ((x3_1.length : Int) == 0) = true := beq_iff_eq.mpr c7; have c7b1 : ((x3_1.length : Int) != 0) = false := bne_eq_false_iff_eq.mpr c7; clear c7
      by_cases c8 : t257 = true
      ·subst c8
       have H1 : (if (x3_1.length : Int) = 16 then (some ([] : List ByteArray)) else (if 0 ≤ x4_1 then (if x4_1 ≤ (wrap64 (x4_1 + t256)) then (if (wrap64 (x4_1 + t256)) ≤ (a0.size : Int) then (if x3_1.length < 8796093022208 then (packhorseref01_Signs.l0 k1 a0 (x3_1 ++ [a0.extract (x4_1 : Int).toNat ((wrap64 (x4_1 + t256)) : Int).toNat]) (wrap64 (x4_1 + t256))) else (none)) else (none)) else (none)) else (none))) = some r := by rw [if_pos rfl] at H; exact H
       clear H; have H := H1; clear H1
       by_cases c9 : (x3_1.length : Int) = 16
       ·rw [if_pos c9] at H
        have c9b0 : ((x3_1.length : Int) == 16) = true := beq_iff_eq.mpr c9; have c9b1 : ((x3_1.length : Int) != 16) = false := bne_eq_false_iff_eq.mpr c9; clear c9; obtain rfl := Option.some.inj H; simp only [Option.some.injEq, Prod.mk.injEq] at H; obtain ⟨rfl⟩ := H
        go_wp2_with (first | ((with_reducible refine gate_callee (f := 60) rfl ?_); refine goesL_ (some 15) rfl rfl Tryd.func60 (by kernel_rfl) rfl #[.string a0, .int .i64 x4_1] rfl ap1 ?_; (with_reducible refine (packhorseref01_sign.calls k1 a0 x4_1 t256 true _ A5.out).mono ?_); rintro e w' ⟨rfl, ⟨nd, rfl⟩⟩; refine ⟨_, rfl, ?_⟩; obtain ⟨Ao10, co10, eo10⟩ := Kd.R_slice HO_3.out; subst eo10))
        go_ret
        exact ⟨_, ap4, by first | exact Kd.R_nil _ _ _ _ _ | exact Kd.N_nil _ _ _ _ _ | exact Kd.V_nil _ _ _ _ _ | exact Kd.Q_nil _ _ _ _ _ | exact Kd.S_nil _ _ _ _ _, beu HB.out⟩
       ·rw [if_neg c9] at H
        have c9b0 : ((x3_1.length : Int) == 16) = false := beq_eq_false_iff_ne.mpr c9; have c9b1 : ((x3_1.length : Int) != 16) = true := bne_iff_ne.mpr c9
        by_cases c11 : 0 ≤ x4_1
        ·rw [if_pos c11] at H
         have c11b0 := eq_true c11; have c11b1 : decide (0 ≤ x4_1) = true := decide_eq_true c11; clear c11
         by_cases c12 : x4_1 ≤ (wrap64 (x4_1 + t256))
         ·rw [if_pos c12] at H
          have c12b0 := eq_true c12; have c12b1 : decide (x4_1 ≤ (wrap64 (x4_1 + t256))) = true := decide_eq_true c12
          by_cases c13 : (wrap64 (x4_1 + t256)) ≤ (a0.size : Int)
          ·rw [if_pos c13] at H
           have c13b0 := eq_true c13; have c13b1 : decide ((wrap64 (x4_1 + t256)) ≤ (a0.size : Int)) = true := decide_eq_true c13
           by_cases c14 : x3_1.length < 8796093022208
           ·rw [if_pos c14] at H
            have LMc14 := am c14; clear c14; obtain ⟨y258, hy258⟩ : ∃ y_ : List ByteArray, y_ = (x3_1 ++ [a0.extract (x4_1 : Int).toNat ((wrap64 (x4_1 + t256)) : Int).toNat]) := ⟨_, rfl⟩
            replace H : (packhorseref01_Signs.l0 k1 a0 y258 (wrap64 (x4_1 + t256))) = some r := by first | (rw [hy258]; with_reducible exact H) | (have H2_ := (Option.bind_some _ _).symm.trans H; rw [hy258]; with_reducible exact H2_) | (have H2_ := (Option.bind_some _ _).symm.trans H; with_reducible exact H2_) | with_reducible exact H | (rw [hy258]; exact H) | exact H
            have Ny258 := am hy258; clear hy258; have H' := am H; clear H
            go_wp2_with (first | ((with_reducible refine gate_callee (f := 60) rfl ?_); refine goesL_ (some 15) rfl rfl Tryd.func60 (by kernel_rfl) rfl #[.string a0, .int .i64 x4_1] rfl ap1 ?_; (with_reducible refine (packhorseref01_sign.calls k1 a0 x4_1 t256 true _ A5.out).mono ?_); rintro e w' ⟨rfl, ⟨nd, rfl⟩⟩; refine ⟨_, rfl, ?_⟩; obtain ⟨Ao15, co15, eo15⟩ := Kd.R_slice HO_3.out; subst eo15) | ((with_reducible refine gate_builtin (b := .append) (xs := #[.tmp 34, .tmp 41]) rfl ?_); (try (refine gate_guard (by rfl) ?_; dsimp only)); at_builtin; refine Kd.R_append Kd.string (w0 := w) w.heap.size rfl (.tmp 34) (.tmp 41) 53 9 (.string ⟨#[]⟩) 16 rfl Tryd.underlying53 info9 rfl (by decide) (by omega) (.slice Ao15 x3_1.length co15) x3_1 (a0.extract (x4_1 : Int).toNat ((wrap64 (x4_1 + t256)) : Int).toNat) [.string (a0.extract (x4_1 : Int).toNat ((wrap64 (x4_1 + t256)) : Int).toNat)] (fun _ => True) (fun _ => False) rfl rfl ?aP (fun _ hk => hk.elim) ?aF ?aO ?aB ?aS ?aL ?_; (case aP => exact rfl); (case aB => exact (beu HB.out)); (case aF => exact (fun _ _ => trivial)); (case aO => exact (ru HO_3.out)); (case aS => exact (below_size (beu HB.out))); (case aL => have := LMc14.out; omega); intro v259 w16 ho hb hg hat; rw [← Ny258.out] at ho; have _ := am (hb); have _ := am (ho); clear HB HO_3; rename_i HB HO260; clear ho hb hg hat))
            go_roundg k1
            case measure => have := HK1.out; omega
            case rel => exact ⟨(y258), (wrap64 (x4_1 + t256)), ap3, H', ⟨by have := HK1.out; omega⟩, ⟨ru HO260.out⟩, ⟨beu HB.out⟩⟩
           ·rw [if_neg c14] at H
            exact absurd H (by simp)
          ·rw [if_neg c13] at H
           exact absurd H (by simp)
         ·rw [if_neg c12] at H
          exact absurd H (by simp)
        ·rw [if_neg c11] at H
         exact absurd H (by simp)
      ·replace c8 := Bool.eq_false_iff.mpr c8
       subst c8
       have H1 : (some ([] : List ByteArray)) = some r := by rw [if_neg (show ¬ (false = true) by decide)] at H; exact H
       clear H; have H := H1; clear H1; obtain rfl := Option.some.inj H; simp only [Option.some.injEq, Prod.mk.injEq] at H; obtain ⟨rfl⟩ := H
       go_wp2_with (first | ((with_reducible refine gate_callee (f := 60) rfl ?_); refine goesL_ (some 15) rfl rfl Tryd.func60 (by kernel_rfl) rfl #[.string a0, .int .i64 x4_1] rfl ap1 ?_; (with_reducible refine (packhorseref01_sign.calls k1 a0 x4_1 t256 false _ A5.out).mono ?_); rintro e w' ⟨rfl, ⟨nd, rfl⟩⟩; refine ⟨_, rfl, ?_⟩; obtain ⟨Ao17, co17, eo17⟩ := Kd.R_slice HO_3.out; subst eo17))
       go_ret
       exact ⟨_, ap4, by first | exact Kd.R_nil _ _ _ _ _ | exact Kd.N_nil _ _ _ _ _ | exact Kd.V_nil _ _ _ _ _ | exact Kd.Q_nil _ _ _ _ _ | exact Kd.S_nil _ _ _ _ _, beu HB.out⟩
     ·rw [if_neg c7] at H
      have c7b0 : ((x3_1.length : Int) == 0) = false := beq_eq_false_iff_ne.mpr c7; have c7b1 : ((x3_1.length : Int) != 0) = true := bne_iff_ne.mpr c7
      have c7b2 : ¬ (x3_1 = []) := fun h_ => c7 (by rw [h_]; rfl)
      by_cases c18 : (x3_1.length : Int) = 16
      ·rw [if_pos c18] at H
       have c18b0 : ((x3_1.length : Int) == 16) = true := beq_iff_eq.mpr c18; have c18b1 : ((x3_1.length : Int) != 16) = false := bne_eq_false_iff_eq.mpr c18; clear c18; obtain rfl := Option.some.inj H; simp only [Option.some.injEq, Prod.mk.injEq] at H; obtain ⟨rfl⟩ := H
       go_wp2_with (first | ((with_reducible refine gate_callee (f := 60) rfl ?_); refine goesL_ (some 15) rfl rfl Tryd.func60 (by kernel_rfl) rfl #[.string a0, .int .i64 x4_1] rfl ap1 ?_; (with_reducible refine (packhorseref01_sign.calls k1 a0 x4_1 t256 t257 _ A5.out).mono ?_); rintro e w' ⟨rfl, ⟨nd, rfl⟩⟩; refine ⟨_, rfl, ?_⟩; obtain ⟨Ao19, co19, eo19⟩ := Kd.R_slice HO_3.out; subst eo19))
       go_ret
       exact ⟨_, ap4, by first | exact Kd.R_nil _ _ _ _ _ | exact Kd.N_nil _ _ _ _ _ | exact Kd.V_nil _ _ _ _ _ | exact Kd.Q_nil _ _ _ _ _ | exact Kd.S_nil _ _ _ _ _, beu HB.out⟩
      ·rw [if_neg c18] at H
       have c18b0 : ((x3_1.length : Int) == 16) = false := beq_eq_false_iff_ne.mpr c18; have c18b1 : ((x3_1.length : Int) != 16) = true := bne_iff_ne.mpr c18
       by_cases c20 : 0 ≤ x4_1
       ·rw [if_pos c20] at H
        have c20b0 := eq_true c20; have c20b1 : decide (0 ≤ x4_1) = true := decide_eq_true c20; clear c20
        by_cases c21 : x4_1 ≤ (wrap64 (x4_1 + t256))
        ·rw [if_pos c21] at H
         have c21b0 := eq_true c21; have c21b1 : decide (x4_1 ≤ (wrap64 (x4_1 + t256))) = true := decide_eq_true c21
         by_cases c22 : (wrap64 (x4_1 + t256)) ≤ (a0.size : Int)
         ·rw [if_pos c22] at H
          have c22b0 := eq_true c22; have c22b1 : decide ((wrap64 (x4_1 + t256)) ≤ (a0.size : Int)) = true := decide_eq_true c22
          by_cases c23 : x3_1.length < 8796093022208
          ·rw [if_pos c23] at H
           have LMc23 := am c23; clear c23; obtain ⟨y261, hy261⟩ : ∃ y_ : List ByteArray, y_ = (x3_1 ++ [a0.extract (x4_1 : Int).toNat ((wrap64 (x4_1 + t256)) : Int).toNat]) := ⟨_, rfl⟩
           replace H : (packhorseref01_Signs.l0 k1 a0 y261 (wrap64 (x4_1 + t256))) = some r := by first | (rw [hy261]; with_reducible exact H) | (have H2_ := (Option.bind_some _ _).symm.trans H; rw [hy261]; with_reducible exact H2_) | (have H2_ := (Option.bind_some _ _).symm.trans H; with_reducible exact H2_) | with_reducible exact H | (rw [hy261]; exact H) | exact H
           have Ny261 := am hy261; clear hy261; have H' := am H; clear H
           go_wp2_with (first | ((with_reducible refine gate_callee (f := 60) rfl ?_); refine goesL_ (some 15) rfl rfl Tryd.func60 (by kernel_rfl) rfl #[.string a0, .int .i64 x4_1] rfl ap1 ?_; (with_reducible refine (packhorseref01_sign.calls k1 a0 x4_1 t256 t257 _ A5.out).mono ?_); rintro e w' ⟨rfl, ⟨nd, rfl⟩⟩; refine ⟨_, rfl, ?_⟩; obtain ⟨Ao24, co24, eo24⟩ := Kd.R_slice HO_3.out; subst eo24) | ((with_reducible refine gate_builtin (b := .append) (xs := #[.tmp 34, .tmp 41]) rfl ?_); (try (refine gate_guard (by rfl) ?_; dsimp only)); at_builtin; refine Kd.R_append Kd.string (w0 := w) w.heap.size rfl (.tmp 34) (.tmp 41) 53 9 (.string ⟨#[]⟩) 16 rfl Tryd.underlying53 info9 rfl (by decide) (by omega) (.slice Ao24 x3_1.length co24) x3_1 (a0.extract (x4_1 : Int).toNat ((wrap64 (x4_1 + t256)) : Int).toNat) [.string (a0.extract (x4_1 : Int).toNat ((wrap64 (x4_1 + t256)) : Int).toNat)] (fun _ => True) (fun _ => False) rfl rfl ?aP (fun _ hk => hk.elim) ?aF ?aO ?aB ?aS ?aL ?_; (case aP => exact rfl); (case aB => exact (beu HB.out)); (case aF => exact (fun _ _ => trivial)); (case aO => exact (ru HO_3.out)); (case aS => exact (below_size (beu HB.out))); (case aL => have := LMc23.out; omega); intro v262 w25 ho hb hg hat; rw [← Ny261.out] at ho; have _ := am (hb); have _ := am (ho); clear HB HO_3; rename_i HB HO263; clear ho hb hg hat))
           go_roundg k1
           case measure => have := HK1.out; omega
           case rel => exact ⟨(y261), (wrap64 (x4_1 + t256)), ap3, H', ⟨by have := HK1.out; omega⟩, ⟨ru HO263.out⟩, ⟨beu HB.out⟩⟩
          ·rw [if_neg c23] at H
           exact absurd H (by simp)
         ·rw [if_neg c22] at H
          exact absurd H (by simp)
        ·rw [if_neg c21] at H
         exact absurd H (by simp)
       ·rw [if_neg c20] at H
        exact absurd H (by simp)
   ·rw [if_neg c4] at H
    have c4b0 : decide (x4_1 < (a0.size : Int)) = false := decide_eq_false c4; clear c4; obtain rfl := Option.some.inj H; simp only [Option.some.injEq, Prod.mk.injEq] at H; obtain ⟨rfl⟩ := H
    go_wp2
    go_ret
    exact ⟨_, ap4, ru HO_3.out, beu HB.out⟩
def packhorseref01_Right.f (k : Nat) (a0 : ByteArray) : Option (Bool) := (packhorseref01_Signs.f k a0).bind fun t264 => (some (decide ((t264.length : Int) > 0)))
set_option maxHeartbeats 8000000 in
set_option maxRecDepth 100000 in
theorem packhorseref01_Right.calls (k : Nat) (a0 : ByteArray) (r : Bool) (w : World) (h : packhorseref01_Right.f k a0 = some r) :
  Calls Tryd.prog 36 #[.string a0] w fun e w' => e = .returned (.bool r) ∧ Below w.heap.size w w' := by
 have HB := am (Below.refl w.heap.size w); have H : ((packhorseref01_Signs.f k a0).bind fun t264 => (some (decide ((t264.length : Int) > 0)))) = some r := h; clear h; replace H := obm H; obtain ⟨t264, A20, H⟩ := H; replace H : (some (decide ((t264.length : Int) > 0))) = some r := H; have A2 := am A20; clear A20; obtain rfl := Option.some.inj H; simp only [Option.some.injEq, Prod.mk.injEq] at H; obtain ⟨rfl⟩ := H
 go_enter Tryd.func36, Tryd.ntmps36
 go_wp2_with (first | ((with_reducible refine gate_callee (f := 53) rfl ?_); refine goesL_ (some 4) rfl rfl Tryd.func53 (by kernel_rfl) rfl #[.string a0] rfl ap1 ?_; (with_reducible refine (packhorseref01_Signs.calls k a0 t264 _ A2.out).mono ?_); rintro e w3 ⟨v265, rfl, ho0, hb⟩; refine ⟨_, rfl, ?_⟩; have _ := am (Kd.R_lower ho0 (below_size (beu HB.out))); have _ := am (below_step (beu HB.out) hb); clear HB; rename_i HO266 HB; (try clear hb); (try clear ho0); obtain ⟨Ao4, co4, eo4⟩ := Kd.R_slice HO266.out; subst eo4))
 go_ret
 exact ⟨ap4, beu HB.out⟩
def packhorseref10_Group.f (k : Nat) (a0_0 : ByteArray) (a0_1 : ByteArray) (a0_2 : ByteArray) : Option (Bool) := (packhorseref01_Right.f k a0_0).bind fun t268 => (if t268 = true then ((packhorseref01_Right.f k a0_1).bind fun t269 => (if t269 = true then ((packhorseref01_Right.f k a0_2).bind fun t270 => (some t270)) else (some false))) else (some false))
set_option maxHeartbeats 8000000 in
set_option maxRecDepth 100000 in
theorem packhorseref10_Group.calls (k : Nat) (a0_0 : ByteArray) (a0_1 : ByteArray) (a0_2 : ByteArray) (r : Bool) (w : World) (h : packhorseref10_Group.f k a0_0 a0_1 a0_2 = some r) :
  Calls Tryd.prog 37 #[.agg #[.string a0_0, .string a0_1, .string a0_2]] w fun e w' => e = .returned (.bool r) ∧ Below w.heap.size w w' := by
 have hu24 := Tryd.underlying24; have HB := am (Below.refl w.heap.size w); have H : ((packhorseref01_Right.f k a0_0).bind fun t268 => (if t268 = true then ((packhorseref01_Right.f k a0_1).bind fun t269 => (if t269 = true then ((packhorseref01_Right.f k a0_2).bind fun t270 => (some t270)) else (some false))) else (some false))) = some r := h; clear h; replace H := obm H; obtain ⟨t268, A20, H⟩ := H; replace H : (if t268 = true then ((packhorseref01_Right.f k a0_1).bind fun t269 => (if t269 = true then ((packhorseref01_Right.f k a0_2).bind fun t270 => (some t270)) else (some false))) else (some false)) = some r := H; have A2 := am A20; clear A20
 by_cases c3 : t268 = true
 ·subst c3
  have H1 : ((packhorseref01_Right.f k a0_1).bind fun t269 => (if t269 = true then ((packhorseref01_Right.f k a0_2).bind fun t270 => (some t270)) else (some false))) = some r := by rw [if_pos rfl] at H; exact H
  clear H; have H := H1; clear H1; replace H := obm H; obtain ⟨t269, A40, H⟩ := H; replace H : (if t269 = true then ((packhorseref01_Right.f k a0_2).bind fun t270 => (some t270)) else (some false)) = some r := H; have A4 := am A40; clear A40
  by_cases c5 : t269 = true
  ·subst c5
   have H1 : ((packhorseref01_Right.f k a0_2).bind fun t270 => (some t270)) = some r := by rw [if_pos rfl] at H; exact H
   clear H; have H := H1; clear H1; replace H := obm H; obtain ⟨t270, A60, H⟩ := H; replace H : (some t270) = some r := H; have A6 := am A60; clear A60; obtain rfl := Option.some.inj H; simp only [Option.some.injEq, Prod.mk.injEq] at H; obtain ⟨rfl⟩ := H
   go_enter Tryd.func37, Tryd.ntmps37
   go_wp2_with (first | ((with_reducible refine gate_dst (N := 1) rfl ?_); refine box_event ?hg (N := 1) ?hd (cs := #[.string a0_0, .string a0_1, .string a0_2]) (t := 24) ?hr ?_; (case hd => rfl); (case hg => rfl); (case hr => first | (go_simp; done) | (go_simp; rfl)); intro gb267 hg w7 hbox hb; have _ := am (below_step (beu HB.out) hb); have _ := am (hbox); have _ := am ((by rw [hg]; exact (below_size (beu HB.out)) : w.heap.size ≤ gb267)); have _ := am ((by rw [hg]; exact (below_size (beu HB.out)) : w.heap.size ≤ gb267)); clear HB; rename_i HB BK267 GW267 GE267; clear hb hbox hg; obtain ⟨_, _, _⟩ := cells3 BK267.out; obtain ⟨_, _, _⟩ := frozens3 BK267.out) | ((with_reducible refine gate_callee (f := 36) rfl ?_); refine goesL_ (some 5) rfl rfl Tryd.func36 (by kernel_rfl) rfl #[.string a0_0] rfl ap1 ?_; (with_reducible refine (packhorseref01_Right.calls k a0_0 true _ A2.out).mono ?_); rintro e w9 ⟨rfl, hb⟩; refine ⟨_, rfl, ?_⟩; have _ := am (blk_below (bu BK267.out) hb); have _ := am (below_step (beu HB.out) hb); clear BK267 HB; rename_i BK267 HB; (try clear hb); obtain ⟨_, _, _⟩ := cells3 BK267.out; obtain ⟨_, _, _⟩ := frozens3 BK267.out) | (go_at_call 36; (with_reducible refine (packhorseref01_Right.calls k a0_1 true _ A4.out).mono ?_); rintro e w11 ⟨rfl, hb⟩; have _ := am (blk_below (bu BK267.out) hb); have _ := am (below_step (beu HB.out) hb); clear BK267 HB; rename_i BK267 HB; (try clear hb); obtain ⟨_, _, _⟩ := cells3 BK267.out; obtain ⟨_, _, _⟩ := frozens3 BK267.out) | (go_at_call 36; (with_reducible refine (packhorseref01_Right.calls k a0_2 t270 _ A6.out).mono ?_); rintro e w13 ⟨rfl, hb⟩; have _ := am (blk_below (bu BK267.out) hb); have _ := am (below_step (beu HB.out) hb); clear BK267 HB; rename_i BK267 HB; (try clear hb)))
   go_ret
   exact ⟨ap4, beu HB.out⟩
  ·replace c5 := Bool.eq_false_iff.mpr c5
   subst c5
   have H1 : (some false) = some r := by rw [if_neg (show ¬ (false = true) by decide)] at H; exact H
   clear H; have H := H1; clear H1; obtain rfl := Option.some.inj H; simp only [Option.some.injEq, Prod.mk.injEq] at H; obtain ⟨rfl⟩ := H
   go_enter Tryd.func37, Tryd.ntmps37
   go_wp2_with (first | ((with_reducible refine gate_dst (N := 1) rfl ?_); refine box_event ?hg (N := 1) ?hd (cs := #[.string a0_0, .string a0_1, .string a0_2]) (t := 24) ?hr ?_; (case hd => rfl); (case hg => rfl); (case hr => first | (go_simp; done) | (go_simp; rfl)); intro gb267 hg w14 hbox hb; have _ := am (below_step (beu HB.out) hb); have _ := am (hbox); have _ := am ((by rw [hg]; exact (below_size (beu HB.out)) : w.heap.size ≤ gb267)); have _ := am ((by rw [hg]; exact (below_size (beu HB.out)) : w.heap.size ≤ gb267)); clear HB; rename_i HB BK267 GW267 GE267; clear hb hbox hg; obtain ⟨_, _, _⟩ := cells3 BK267.out; obtain ⟨_, _, _⟩ := frozens3 BK267.out) | ((with_reducible refine gate_callee (f := 36) rfl ?_); refine goesL_ (some 5) rfl rfl Tryd.func36 (by kernel_rfl) rfl #[.string a0_0] rfl ap1 ?_; (with_reducible refine (packhorseref01_Right.calls k a0_0 true _ A2.out).mono ?_); rintro e w16 ⟨rfl, hb⟩; refine ⟨_, rfl, ?_⟩; have _ := am (blk_below (bu BK267.out) hb); have _ := am (below_step (beu HB.out) hb); clear BK267 HB; rename_i BK267 HB; (try clear hb); obtain ⟨_, _, _⟩ := cells3 BK267.out; obtain ⟨_, _, _⟩ := frozens3 BK267.out) | (go_at_call 36; (with_reducible refine (packhorseref01_Right.calls k a0_1 false _ A4.out).mono ?_); rintro e w18 ⟨rfl, hb⟩; have _ := am (blk_below (bu BK267.out) hb); have _ := am (below_step (beu HB.out) hb); clear BK267 HB; rename_i BK267 HB; (try clear hb)))
   go_ret
   exact ⟨ap4, beu HB.out⟩
 ·replace c3 := Bool.eq_false_iff.mpr c3
  subst c3
  have H1 : (some false) = some r := by rw [if_neg (show ¬ (false = true) by decide)] at H; exact H
  clear H; have H := H1; clear H1; obtain rfl := Option.some.inj H; simp only [Option.some.injEq, Prod.mk.injEq] at H; obtain ⟨rfl⟩ := H
  go_enter Tryd.func37, Tryd.ntmps37
  go_wp2_with (first | ((with_reducible refine gate_dst (N := 1) rfl ?_); refine box_event ?hg (N := 1) ?hd (cs := #[.string a0_0, .string a0_1, .string a0_2]) (t := 24) ?hr ?_; (case hd => rfl); (case hg => rfl); (case hr => first | (go_simp; done) | (go_simp; rfl)); intro gb267 hg w19 hbox hb; have _ := am (below_step (beu HB.out) hb); have _ := am (hbox); have _ := am ((by rw [hg]; exact (below_size (beu HB.out)) : w.heap.size ≤ gb267)); have _ := am ((by rw [hg]; exact (below_size (beu HB.out)) : w.heap.size ≤ gb267)); clear HB; rename_i HB BK267 GW267 GE267; clear hb hbox hg; obtain ⟨_, _, _⟩ := cells3 BK267.out; obtain ⟨_, _, _⟩ := frozens3 BK267.out) | ((with_reducible refine gate_callee (f := 36) rfl ?_); refine goesL_ (some 5) rfl rfl Tryd.func36 (by kernel_rfl) rfl #[.string a0_0] rfl ap1 ?_; (with_reducible refine (packhorseref01_Right.calls k a0_0 false _ A2.out).mono ?_); rintro e w21 ⟨rfl, hb⟩; refine ⟨_, rfl, ?_⟩; have _ := am (blk_below (bu BK267.out) hb); have _ := am (below_step (beu HB.out) hb); clear BK267 HB; rename_i BK267 HB; (try clear hb)))
  go_ret
  exact ⟨ap4, beu HB.out⟩
mutual
def packhorseref01_Compare.l0 : Nat → ByteArray → ByteArray → Int → Option (Int)
 | 0, _, _, _ => none
 | k + 1, x0, x1, x5 => if x5 < (x0.size : Int) then (packhorseref01_Compare.j1 k x0 x1 x5 (decide (x5 < (x1.size : Int)))) else (packhorseref01_Compare.j1 k x0 x1 x5 false)
def packhorseref01_Compare.j1 : Nat → ByteArray → ByteArray → Int → Bool → Option (Int)
 | 0, _, _, _, _ => none
 | k + 1, x0, x1, x5, x15 => if x15 = true then (if 0 ≤ x5 then (if x5 < (x0.size : Int) then (if x5 < (x1.size : Int) then (if (bt x0 x5) < (bt x1 x5) then (some (-1)) else (if (bt x0 x5) > (bt x1 x5) then (some 1) else (packhorseref01_Compare.l0 k x0 x1 (wrap64 (x5 + 1))))) else (none)) else (none)) else (none)) else (if (x0.size : Int) < (x1.size : Int) then (some (-1)) else (if (x0.size : Int) > (x1.size : Int) then (some 1) else (some 0)))
end
def packhorseref01_Compare.f (k : Nat) (a0 : ByteArray) (a1 : ByteArray) : Option (Int) := packhorseref01_Compare.l0 k a0 a1 0
set_option maxHeartbeats 8000000 in
set_option maxRecDepth 100000 in
theorem packhorseref01_Compare.calls (k : Nat) (a0 : ByteArray) (a1 : ByteArray) (r : Int) (w : World) (h : packhorseref01_Compare.f k a0 a1 = some r) :
  Calls Tryd.prog 54 #[.string a0, .string a1] w fun e w' => e = .returned (.int .i64 r) ∧ Drawn0 w w' := by
 have H : (packhorseref01_Compare.l0 k a0 a1 0) = some r := h; clear h; have H' := am H; clear H
 go_enter Tryd.func54, Tryd.ntmps54
 go_wp2
 repeat (go_quiet (fail); try go_wp2)
 go_loopg [5] k (fun kq v5 w' => ∃ (x5_1 : Int), v5 = .int .i64 x5_1 ∧ Aside0 (packhorseref01_Compare.l0 kq a0 a1 x5_1 = some r) ∧ Aside0 (kq ≤ k) ∧ Drawn0 w w')
 case atStart => exact ⟨(0), ap3, H', ⟨Nat.le_refl _⟩, ap5⟩
 case round =>
  clear H'; (try clear p2); obtain ⟨x5_1, rfl, HA, HK1, ⟨m1, rfl⟩⟩ := hrel
  cases gk with
  | zero => exact absurd HA.out (by simp [packhorseref01_Compare.l0])
  | succ k1 =>
   have H := HA.out; clear HA; simp only [packhorseref01_Compare.l0] at H; have HC3 := am H; clear H
   go_upto_region 2 with (fail)
   repeat (go_quiet (fail); go_upto_region 2 with (fail))
   go_cut [15] (fun v15 wc => ∃ (kq : Nat) (x15_2 : Bool), v15 = .bool x15_2 ∧ Aside0 (packhorseref01_Compare.j1 kq a0 a1 x5_1 x15_2 = some r) ∧ Aside0 (kq ≤ k1) ∧ Drawn0 w wc)
   case first =>
    have H := HC3.out; clear HC3
    by_cases c4 : x5_1 < (a0.size : Int)
    ·rw [if_pos c4] at H
     have c4b0 : decide (x5_1 < (a0.size : Int)) = true := decide_eq_true c4; clear c4
     (first | rw [c4b0] | (simp only [i64_w, i32_w]; rw [c4b0]) | skip)
     have H' := am H; clear H
     go_wp2
     repeat (go_quiet (fail); try go_wp2)
     go_meet
     case rel => exact ⟨_, (decide (x5_1 < (a1.size : Int))), ap3, H', ⟨by have := HK1.out; first | omega | exact Nat.le_refl _⟩, ap5⟩
    ·rw [if_neg c4] at H
     have c4b0 : decide (x5_1 < (a0.size : Int)) = false := decide_eq_false c4; clear c4
     (first | rw [c4b0] | (simp only [i64_w, i32_w]; rw [c4b0]) | skip)
     have H' := am H; clear H
     go_wp2
     repeat (go_quiet (fail); try go_wp2)
     go_meet
     case rel => exact ⟨_, (false), ap3, H', ⟨by have := HK1.out; first | omega | exact Nat.le_refl _⟩, ap5⟩
   case rest =>
    clear HC3; (try clear p2); (try clear c4); (try clear c4b0); (try clear p2); obtain ⟨kq, x15_2, rfl, HA, HJ2, ⟨mc2, rfl⟩⟩ := hcut
    cases kq with
    | zero => exact absurd HA.out (by simp [packhorseref01_Compare.j1])
    | succ kj2 =>
     have H := HA.out; clear HA; simp only [packhorseref01_Compare.j1] at H
     by_cases c5 : x15_2 = true
     ·subst c5
      have H1 : (if 0 ≤ x5_1 then (if x5_1 < (a0.size : Int) then (if x5_1 < (a1.size : Int) then (if (bt a0 x5_1) < (bt a1 x5_1) then (some (-1)) else (if (bt a0 x5_1) > (bt a1 x5_1) then (some 1) else (packhorseref01_Compare.l0 kj2 a0 a1 (wrap64 (x5_1 + 1))))) else (none)) else (none)) else (none)) = some r := by rw [if_pos rfl] at H; exact H
      clear H; have H := H1; clear H1
      by_cases c6 : 0 ≤ x5_1
      ·rw [if_pos c6] at H
       have c6b0 : decide (0 ≤ x5_1) = true := decide_eq_true c6; clear c6
       by_cases c7 : x5_1 < (a0.size : Int)
       ·rw [if_pos c7] at H
        have c7b0 : decide (x5_1 < (a0.size : Int)) = true := decide_eq_true c7; clear c7
        by_cases c9 : x5_1 < (a1.size : Int)
        ·rw [if_pos c9] at H
         have c9b0 : decide (x5_1 < (a1.size : Int)) = true := decide_eq_true c9; clear c9
         by_cases c11 : (bt a0 x5_1) < (bt a1 x5_1)
         ·rw [if_pos c11] at H
          have c11b0 : decide ((bt a0 x5_1) < (bt a1 x5_1)) = true := decide_eq_true c11; clear c11; obtain rfl := Option.some.inj H; simp only [Option.some.injEq, Prod.mk.injEq] at H; obtain ⟨rfl⟩ := H; have p8 : 0 ≤ (x5_1 : Int) := of_decide_eq_true ap2; have q8 : x5_1 < (a0.size : Int) := of_decide_eq_true ap2; have hx8 := bt_at a0 x5_1; replace p8 := eq_true p8; replace q8 := eq_true q8; have p10 : 0 ≤ (x5_1 : Int) := of_decide_eq_true ap2; have q10 : x5_1 < (a1.size : Int) := of_decide_eq_true ap2; have hx10 := bt_at a1 x5_1; replace p10 := eq_true p10; replace q10 := eq_true q10
          go_wp2
          repeat (go_quiet (fail); try go_wp2)
          go_ret
          exact ⟨ap3, ap5⟩
         ·rw [if_neg c11] at H
          have c11b0 : decide ((bt a0 x5_1) < (bt a1 x5_1)) = false := decide_eq_false c11; clear c11
          by_cases c14 : (bt a0 x5_1) > (bt a1 x5_1)
          ·rw [if_pos c14] at H
           have c14b0 : decide ((bt a1 x5_1) < (bt a0 x5_1)) = true := decide_eq_true c14; clear c14; obtain rfl := Option.some.inj H; simp only [Option.some.injEq, Prod.mk.injEq] at H; obtain ⟨rfl⟩ := H; have p8 : 0 ≤ (x5_1 : Int) := of_decide_eq_true ap2; have q8 : x5_1 < (a0.size : Int) := of_decide_eq_true ap2; have hx8 := bt_at a0 x5_1; replace p8 := eq_true p8; replace q8 := eq_true q8; have p10 : 0 ≤ (x5_1 : Int) := of_decide_eq_true ap2; have q10 : x5_1 < (a1.size : Int) := of_decide_eq_true ap2; have hx10 := bt_at a1 x5_1; replace p10 := eq_true p10; replace q10 := eq_true q10; have p12 : 0 ≤ (x5_1 : Int) := of_decide_eq_true ap2; have q12 : x5_1 < (a0.size : Int) := of_decide_eq_true ap2; have hx12 := bt_at a0 x5_1; replace p12 := eq_true p12; replace q12 := eq_true q12; have p13 : 0 ≤ (x5_1 : Int) := of_decide_eq_true ap2; have q13 : x5_1 < (a1.size : Int) := of_decide_eq_true ap2; have hx13 := bt_at a1 x5_1; replace p13 := eq_true p13; replace q13 := eq_true q13
           go_wp2
           repeat (go_quiet (fail); try go_wp2)
           go_ret
           exact ⟨ap3, ap5⟩
          ·rw [if_neg c14] at H
           have c14b0 : decide ((bt a1 x5_1) < (bt a0 x5_1)) = false := decide_eq_false c14; clear c14; have H' := am H; clear H; have p8 : 0 ≤ (x5_1 : Int) := of_decide_eq_true ap2; have q8 : x5_1 < (a0.size : Int) := of_decide_eq_true ap2; have hx8 := bt_at a0 x5_1; replace p8 := eq_true p8; replace q8 := eq_true q8; have p10 : 0 ≤ (x5_1 : Int) := of_decide_eq_true ap2; have q10 : x5_1 < (a1.size : Int) := of_decide_eq_true ap2; have hx10 := bt_at a1 x5_1; replace p10 := eq_true p10; replace q10 := eq_true q10; have p12 : 0 ≤ (x5_1 : Int) := of_decide_eq_true ap2; have q12 : x5_1 < (a0.size : Int) := of_decide_eq_true ap2; have hx12 := bt_at a0 x5_1; replace p12 := eq_true p12; replace q12 := eq_true q12; have p13 : 0 ≤ (x5_1 : Int) := of_decide_eq_true ap2; have q13 : x5_1 < (a1.size : Int) := of_decide_eq_true ap2; have hx13 := bt_at a1 x5_1; replace p13 := eq_true p13; replace q13 := eq_true q13
           go_wp2
           repeat (go_quiet (fail); try go_wp2)
           go_roundg kj2
           case measure => have := HK1.out; have := HJ2.out; omega
           case rel => exact ⟨(wrap64 (x5_1 + 1)), ap3, H', ⟨by have := HK1.out; have := HJ2.out; omega⟩, ap5⟩
        ·rw [if_neg c9] at H
         exact absurd H (by simp)
       ·rw [if_neg c7] at H
        exact absurd H (by simp)
      ·rw [if_neg c6] at H
       exact absurd H (by simp)
     ·replace c5 := Bool.eq_false_iff.mpr c5
      subst c5
      have H1 : (if (a0.size : Int) < (a1.size : Int) then (some (-1)) else (if (a0.size : Int) > (a1.size : Int) then (some 1) else (some 0))) = some r := by rw [if_neg (show ¬ (false = true) by decide)] at H; exact H
      clear H; have H := H1; clear H1
      by_cases c15 : (a0.size : Int) < (a1.size : Int)
      ·rw [if_pos c15] at H
       have c15b0 : decide ((a0.size : Int) < (a1.size : Int)) = true := decide_eq_true c15; have c15b1 : decide (a0.size < a1.size) = true := decide_eq_true (Int.ofNat_lt.mp c15); clear c15; obtain rfl := Option.some.inj H; simp only [Option.some.injEq, Prod.mk.injEq] at H; obtain ⟨rfl⟩ := H
       go_wp2
       repeat (go_quiet (fail); try go_wp2)
       go_ret
       exact ⟨ap3, ap5⟩
      ·rw [if_neg c15] at H
       have c15b0 : decide ((a0.size : Int) < (a1.size : Int)) = false := decide_eq_false c15; have c15b1 : decide (a0.size < a1.size) = false := decide_eq_false (fun h => c15 (Int.ofNat_lt.mpr h)); clear c15
       by_cases c16 : (a0.size : Int) > (a1.size : Int)
       ·rw [if_pos c16] at H
        have c16b0 : decide ((a1.size : Int) < (a0.size : Int)) = true := decide_eq_true c16; have c16b1 : decide (a1.size < a0.size) = true := decide_eq_true (Int.ofNat_lt.mp c16); clear c16; obtain rfl := Option.some.inj H; simp only [Option.some.injEq, Prod.mk.injEq] at H; obtain ⟨rfl⟩ := H
        go_wp2
        repeat (go_quiet (fail); try go_wp2)
        go_ret
        exact ⟨ap3, ap5⟩
       ·rw [if_neg c16] at H
        have c16b0 : decide ((a1.size : Int) < (a0.size : Int)) = false := decide_eq_false c16; have c16b1 : decide (a1.size < a0.size) = false := decide_eq_false (fun h => c16 (Int.ofNat_lt.mpr h)); clear c16; obtain rfl := Option.some.inj H; simp only [Option.some.injEq, Prod.mk.injEq] at H; obtain ⟨rfl⟩ := H
        go_wp2
        repeat (go_quiet (fail); try go_wp2)
        go_ret
        exact ⟨ap3, ap5⟩
end Go.Proofs.YtmcdbjcbfjnfoaaDoor.PAll
