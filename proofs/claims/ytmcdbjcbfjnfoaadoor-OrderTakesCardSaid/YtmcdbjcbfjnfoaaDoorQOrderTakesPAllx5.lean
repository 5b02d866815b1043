
import Derived.Test.YtmcdbjcbfjnfoaaDoorQOrderTakesPAllx0
import Derived.Test.YtmcdbjcbfjnfoaaDoorQOrderTakesPAllx1
import Derived.Test.YtmcdbjcbfjnfoaaDoorQOrderTakesPAllx2
import Derived.Test.YtmcdbjcbfjnfoaaDoorQOrderTakesPAllx3
import Derived.Test.YtmcdbjcbfjnfoaaDoorQOrderTakesPAllx4
namespace Go.Proofs.YtmcdbjcbfjnfoaaDoor.PAll
open Go.RowKit Go.Proofs.YtmcdbjcbfjnfoaaDoorW.PrintWords Go.Proofs.YtmcdbjcbfjnfoaaDoorW.PrintLast Go.Proofs.YtmcdbjcbfjnfoaaDoorW.PrintMore
attribute [local go_sem] max2_int max_two
set_option linter.unusedVariables false
set_option linter.unusedSimpArgs false
attribute [local go_sem high] eqA24 eqA26 eqA52
def order_Put.l0 : Nat → List Int → List (S52) → Int → Int → ByteArray → List (S52) → ByteArray → ByteArray → ByteArray → Int → Int → Bool → Int → Int → Option (List Int)
 | 0, _, _, _, _, _, _, _, _, _, _, _, _, _, _ => none
 | k + 1, x0, x19, x20, x21, X0, X1, X2, X3, X4, X5, X6, X7, X8, X9 => if x21 < x20 then (if 0 ≤ x21 then (if x21 < (x19.length : Int) then ((packet_Text.f k x0 (([(rd_T52 x19 x21).f0] : List ByteArray))).bind fun t173 => ((packet_Number.f k t173 (([IntKind.u64.wrap ((rd_T52 x19 x21).f1), IntKind.u64.wrap ((rd_T52 x19 x21).f2)] : List Int))).bind fun t179 => (order_Put.l0 k t179 x19 x20 (wrap64 (x21 + 1)) X0 X1 X2 X3 X4 X5 X6 X7 X8 X9))) else (none)) else (none)) else ((packet_Text.f k x0 (([X2, X3, X4] : List ByteArray))).bind fun t185 => ((order_truth.f X7).bind fun t188 => ((packet_Number.f k t185 (([IntKind.u64.wrap (X5), IntKind.u64.wrap (X6), t188, IntKind.u64.wrap (X8), IntKind.u64.wrap (X9)] : List Int))).bind fun t192 => (some t192))))
def order_Put.f (k : Nat) (l0 : List Int) (a1_0 : ByteArray) (l1_1 : List (S52)) (a1_2 : ByteArray) (a1_3 : ByteArray) (a1_4 : ByteArray) (a1_5 : Int) (a1_6 : Int) (a1_7 : Bool) (a1_8 : Int) (a1_9 : Int) : Option (List Int) := (packet_Text.f k l0 (([a1_0] : List ByteArray))).bind fun t159 => ((packet_Number.f k t159 (([IntKind.u64.wrap ((l1_1.length : Int))] : List Int))).bind fun t165 => (order_Put.l0 k t165 l1_1 (l1_1.length : Int) 0 a1_0 l1_1 a1_2 a1_3 a1_4 a1_5 a1_6 a1_7 a1_8 a1_9))
theorem order_Put.mono_l : ∀ k, (∀ y0 y1 y2 y3 y4 y5 y6 y7 y8 y9 y10 y11 y12 y13, LeO (order_Put.l0 k y0 y1 y2 y3 y4 y5 y6 y7 y8 y9 y10 y11 y12 y13) (order_Put.l0 (k + 1) y0 y1 y2 y3 y4 y5 y6 y7 y8 y9 y10 y11 y12 y13))
 | 0 => fun _ _ _ _ _ _ _ _ _ _ _ _ _ _ r h => by simp [order_Put.l0] at h
 | k + 1 => by
  have ih0 := order_Put.mono_l k
  ·intro y0 y1 y2 y3 y4 y5 y6 y7 y8 y9 y10 y11 y12 y13
   unfold order_Put.l0
   repeat' first
   | (with_reducible exact ih0 _ _ _ _ _ _ _ _ _ _ _ _ _ _)
   | (with_reducible exact packet_Number.mono _ _ _)
   | (with_reducible exact packet_Text.mono _ _ _)
   | (with_reducible exact LeO.refl _)
   | (with_reducible exact LeO.none _)
   | (with_reducible refine LeO.ite ?_ ?_)
   | (with_reducible refine LeO.bind ?_ (fun _ => ?_))
   | exact ih0 _ _ _ _ _ _ _ _ _ _ _ _ _ _
   | exact packet_Number.mono _ _ _
   | exact packet_Text.mono _ _ _
   | exact LeO.none _
   | refine LeO.ite ?_ ?_
   | refine LeO.bind ?_ (fun _ => ?_)
theorem order_Put.mono : ∀ a0 a1 a2 a3 a4 a5 a6 a7 a8 a9 a10 k, LeO (order_Put.f k a0 a1 a2 a3 a4 a5 a6 a7 a8 a9 a10) (order_Put.f (k + 1) a0 a1 a2 a3 a4 a5 a6 a7 a8 a9 a10) := by
 intro a0 a1 a2 a3 a4 a5 a6 a7 a8 a9 a10 k; have ih0 := order_Put.mono_l k
 unfold order_Put.f
 repeat' first
   | (with_reducible exact ih0 _ _ _ _ _ _ _ _ _ _ _ _ _ _)
   | (with_reducible exact packet_Number.mono _ _ _)
   | (with_reducible exact packet_Text.mono _ _ _)
   | (with_reducible exact LeO.refl _)
   | (with_reducible exact LeO.none _)
   | (with_reducible refine LeO.ite ?_ ?_)
   | (with_reducible refine LeO.bind ?_ (fun _ => ?_))
   | exact ih0 _ _ _ _ _ _ _ _ _ _ _ _ _ _
   | exact packet_Number.mono _ _ _
   | exact packet_Text.mono _ _ _
   | exact LeO.none _
   | refine LeO.ite ?_ ?_
   | refine LeO.bind ?_ (fun _ => ?_)
def order_Put.T1 : Bool × List (List Nat × List Nat) := (true, [([], []), ([], []), ([1], [1]), ([2], [2]), ([0, 3], [0, 3]), ([], []), ([5], [5]), ([6], [6]), ([7], [7]), ([8], [8]), ([4, 9, 4], [4, 9]), ([10, 10, 0, 1, 2, 3, 4, 5, 6, 7, 8, 9, 10], [0, 10])])
def order_Put.B1 : List Nat := [0, 0, 2, 6, 15, 0, 32, 96, 224, 480, 1023, 2047]
theorem order_Put.tab1 : rtab .any (opsOf Tryd.f11 1) = order_Put.T1 := by kernel_rfl
theorem order_Put.bits1 : waitsOk order_Put.T1.2 order_Put.B1 = true := by kernel_rfl
def order_Put.T5 : Bool × List (List Nat × List Nat) := (true, [([], []), ([], []), ([1], [1]), ([2], [2]), ([0, 3], [0, 3]), ([], []), ([5], [5]), ([6], [6]), ([], []), ([8], [8]), ([9], [9]), ([7, 10], [7, 10]), ([4, 11, 4], [4, 11]), ([12, 12, 0, 1, 2, 3, 4, 5, 6, 7, 8, 9, 10, 11, 12], [0, 12])])
def order_Put.B5 : List Nat := [0, 0, 2, 6, 15, 0, 32, 96, 0, 256, 768, 2016, 4095, 8191]
theorem order_Put.tab5 : rtab .any (opsOf Tryd.f11 5) = order_Put.T5 := by kernel_rfl
theorem order_Put.bits5 : waitsOk order_Put.T5.2 order_Put.B5 = true := by kernel_rfl
def order_Put.T8 : Bool × List (List Nat × List Nat) := (true, [([], []), ([], []), ([1], [1]), ([2], [2]), ([], []), ([4], [4]), ([5], [5]), ([6], [6]), ([], []), ([8], [8]), ([9], [9]), ([10], [10]), ([], []), ([12], [12]), ([13], [13]), ([14], [14]), ([], []), ([16], [16]), ([17], [17]), ([3, 7, 11, 15, 18], [3, 7, 11, 15, 18]), ([0, 19, 11], [0, 19]), ([20, 20, 0, 1, 2, 3, 4, 5, 6, 7, 8, 9, 10, 11, 12, 13, 14, 15, 16, 17, 18, 19, 20], [20])])
def order_Put.B8 : List Nat := [0, 0, 2, 6, 0, 16, 48, 112, 0, 256, 768, 1792, 0, 4096, 12288, 28672, 0, 65536, 196608, 524286, 1048575, 2097151]
theorem order_Put.tab8 : rtab .any (opsOf Tryd.f11 8) = order_Put.T8 := by kernel_rfl
theorem order_Put.bits8 : waitsOk order_Put.T8.2 order_Put.B8 = true := by kernel_rfl
set_option maxHeartbeats 8000000 in
set_option maxRecDepth 100000 in
theorem order_Put.calls (k : Nat) (A0 : Option Addr) (c0 : Nat) (l0 : List Int) (a1_0 : ByteArray) (A1_1 : Option Addr) (c1_1 : Nat) (l1_1 : List (S52)) (a1_2 : ByteArray) (a1_3 : ByteArray) (a1_4 : ByteArray) (a1_5 : Int) (a1_6 : Int) (a1_7 : Bool) (a1_8 : Int) (a1_9 : Int) (r : List Int) (w : World) (hr0 : Kd.C (Kd.int .u8) w A0 l0.length l0) (hc0 : l0.length ≤ c0) (hr1_1 : Kd.C k52 w A1_1 l1_1.length l1_1) (hc1_1 : l1_1.length ≤ c1_1) (h : order_Put.f k l0 a1_0 l1_1 a1_2 a1_3 a1_4 a1_5 a1_6 a1_7 a1_8 a1_9 = some r) :
  Calls Tryd.prog 11 #[.slice A0 l0.length c0, .agg #[.string a1_0, .slice A1_1 l1_1.length c1_1, .string a1_2, .string a1_3, .string a1_4, .int .i64 a1_5, .int .i64 a1_6, .bool a1_7, .int .i64 a1_8, .int .i64 a1_9]] w fun e w' => ∃ v0_ : Value, e = .returned (v0_) ∧ Kd.R (Kd.int .u8) 5 w' w.heap.size (fun _ => True) v0_ r ∧ Below w.heap.size w w' := by
 have hu28 := Tryd.underlying28; have hu52 := Tryd.underlying52; have HR0 := am hr0; have HC0 := am hc0; clear hr0 hc0; have HR1_1 := am hr1_1; have HC1_1 := am hc1_1; clear hr1_1 hc1_1; have HB := am (Below.refl w.heap.size w); have H : ((packet_Text.f k l0 (([a1_0] : List ByteArray))).bind fun t159 => ((packet_Number.f k t159 (([IntKind.u64.wrap ((l1_1.length : Int))] : List Int))).bind fun t165 => (order_Put.l0 k t165 l1_1 (l1_1.length : Int) 0 a1_0 l1_1 a1_2 a1_3 a1_4 a1_5 a1_6 a1_7 a1_8 a1_9))) = some r := h; clear h; obtain ⟨y156, hy156⟩ : ∃ y_ : List ByteArray, y_ = (([a1_0] : List ByteArray)) := ⟨_, rfl⟩
 replace H : ((packet_Text.f k l0 y156).bind fun t159 => ((packet_Number.f k t159 (([IntKind.u64.wrap ((l1_1.length : Int))] : List Int))).bind fun t165 => (order_Put.l0 k t165 l1_1 (l1_1.length : Int) 0 a1_0 l1_1 a1_2 a1_3 a1_4 a1_5 a1_6 a1_7 a1_8 a1_9))) = some r := by first | (rw [hy156]; with_reducible exact H) | (have H2_ := (Option.bind_some _ _).symm.trans H; rw [hy156]; with_reducible exact H2_) | (have H2_ := (Option.bind_some _ _).symm.trans H; with_reducible exact H2_) | with_reducible exact H | (rw [hy156]; exact H) | exact H
 have Ny156 := am hy156; clear hy156; replace H := obm H; obtain ⟨t159, A30, H⟩ := H; replace H : ((packet_Number.f k t159 (([IntKind.u64.wrap ((l1_1.length : Int))] : List Int))).bind fun t165 => (order_Put.l0 k t165 l1_1 (l1_1.length : Int) 0 a1_0 l1_1 a1_2 a1_3 a1_4 a1_5 a1_6 a1_7 a1_8 a1_9)) = some r := H; have A3 := am A30; clear A30; obtain ⟨y162, hy162⟩ : ∃ y_ : List Int, y_ = (([IntKind.u64.wrap ((l1_1.length : Int))] : List Int)) := ⟨_, rfl⟩
 replace H : ((packet_Number.f k t159 y162).bind fun t165 => (order_Put.l0 k t165 l1_1 (l1_1.length : Int) 0 a1_0 l1_1 a1_2 a1_3 a1_4 a1_5 a1_6 a1_7 a1_8 a1_9)) = some r := by first | (rw [hy162]; with_reducible exact H) | (have H2_ := (Option.bind_some _ _).symm.trans H; rw [hy162]; with_reducible exact H2_) | (have H2_ := (Option.bind_some _ _).symm.trans H; with_reducible exact H2_) | with_reducible exact H | (rw [hy162]; exact H) | exact H
 have Ny162 := am hy162; clear hy162; replace H := obm H; obtain ⟨t165, A40, H⟩ := H; replace H : (order_Put.l0 k t165 l1_1 (l1_1.length : Int) 0 a1_0 l1_1 a1_2 a1_3 a1_4 a1_5 a1_6 a1_7 a1_8 a1_9) = some r := H; have A4 := am A40; clear A40; have H' := am H; clear H
 go_enter Tryd.func11, Tryd.ntmps11
 try go_wp2_with (first | ((with_reducible refine gate_dst (N := 3) rfl ?_); refine box_event ?hg (N := 3) ?hd (cs := #[.string a1_0, .slice A1_1 l1_1.length c1_1, .string a1_2, .string a1_3, .string a1_4, .int .i64 a1_5, .int .i64 a1_6, .bool a1_7, .int .i64 a1_8, .int .i64 a1_9]) (t := 28) ?hr ?_; (case hd => rfl); (case hg => rfl); (case hr => first | (go_simp; done) | (go_simp; rfl)); intro gb155 hg w5 hbox hb; have _ := am (below_step (beu HB.out) hb); have _ := am (hbox); have _ := am ((by rw [hg]; exact (below_size (beu HB.out)) : w.heap.size ≤ gb155)); have _ := am ((by rw [hg]; exact (below_size (beu HB.out)) : w.heap.size ≤ gb155)); clear HB; rename_i HB BK155 GW155 GE155; clear hb hbox hg))
 (try (rw [drewN_self w5]; generalize hq_ : World.drewN w5 _ = w5; have _ := am (blk_at hq_ BK155.out); have _ := am (below_at hq_ HB.out); clear hq_ BK155 HB; rename_i BK155 HB))
 have n0_ := am (blk_drew BK155.out); have n1_ := am (below_drew1 HB.out); clear BK155 HB; have BK155 := n0_; have HB := n1_; clear n0_ n1_
 refine start_ (n := 12) (S := fun w' => True) (ds := []) #[false, false, false, false, false, false, false, false, false, false, false, false] (by kernel_rfl) rfl rfl trivial (fun hHeld => ?_); refine with_tabW order_Put.tab1 order_Put.bits1 (fun HT_ HW_ => ?_)
 generalize w5.drew = w6 at BK155 HB hHeld ⊢; refine pure_ (i := 0) (N := some 7) (v := ?_) (a' := ?_) (bs 12 1) rfl rfl (ak HT_.out) (fun _ _ _ h => h) (Or.inl ⟨by rfl, ?_⟩) ?_ ?_; rotate_left
 ·intro w'
  go_simp
  (with_reducible rfl)
 rotate_left
 ·simp only [Act.put, sA, sB, sC, i64_w, i32_w]
  rfl
 refine pure_ (i := 1) (N := some 8) (v := ?_) (a' := ?_) (bs 12 3) rfl rfl (ak HT_.out) (fun _ _ _ h => h) (Or.inl ⟨by rfl, ?_⟩) ?_ ?_; rotate_left
 ·intro w'
  go_simp
  (with_reducible rfl)
 rotate_left
 ·simp only [Act.put, sA, sB, sC, i64_w, i32_w]
  rfl
 refine pure_ (i := 5) (N := some 12) (v := ?_) (a' := ?_) (bs 12 35) rfl rfl (ak HT_.out) (fun _ _ _ h => h) (Or.inl ⟨by rfl, ?_⟩) ?_ ?_; rotate_left
 ·intro w'
  go_simp
  (with_reducible rfl)
 rotate_left
 ·simp only [Act.put, sA, sB, sC, i64_w, i32_w]
  rfl
 refine inv_at [2, 3, 4, 6, 7, 8, 9, 10, 11] (fun a0_ b a w' => ∃ (v157 : Value) (v160 : Value) (v163 : Value) (v166 : Value) (m11_ : Value), a = putSel a0_ b [(2, 9, .string a1_0), (3, 10, v157), (4, 11, v160), (6, 13, .slice A1_1 l1_1.length c1_1), (7, 14, .int .i64 (l1_1.length : Int)), (8, 15, .int .u64 (IntKind.u64.wrap ((l1_1.length : Int)))), (9, 16, v163), (10, 17, v166), (11, 0, m11_)] ∧ (w'.heap[gb155]? = some (.cells #[.string a1_0, .slice A1_1 l1_1.length c1_1, .string a1_2, .string a1_3, .string a1_4, .int .i64 a1_5, .int .i64 a1_6, .bool a1_7, .int .i64 a1_8, .int .i64 a1_9] 28 (0, 0))) ∧ (Below w.heap.size w w') ∧ (b 3 = true → Kd.R Kd.string 9 w' w.heap.size (fun _ => True) v157 y156) ∧ (b 4 = true → Kd.R (Kd.int .u8) 5 w' w.heap.size (fun _ => True) v160 t159) ∧ (b 9 = true → Kd.R (Kd.int .u64) 47 w' w.heap.size (fun _ => True) v163 y162) ∧ (b 10 = true → Kd.R (Kd.int .u8) 5 w' w.heap.size (fun _ => True) v166 t165) ∧ (b 11 = true → (m11_ : Value) = v166)) HT_.out HW_.out (by kernel_rfl) (by kernel_rfl) ?_ ?_ ?_
 ·exact ⟨.bool false, .bool false, .bool false, .bool false, .bool false, by simp only [putSel, Bool.false_eq_true, if_false], BK155.out, HB.out, fun h_ => absurd h_ (by decide), fun h_ => absurd h_ (by decide), fun h_ => absurd h_ (by decide), fun h_ => absurd h_ (by decide), fun h_ => absurd h_ (by decide)⟩
 ·skip
  clear BK155 HB; refine steps_cons ?_ ?_
  ·rintro b a w' ⟨v157, v160, v163, v166, m11_, ha, Q_BK155, Q_HB, Q_HO158, Q_HO161, Q_HO164, Q_HO167, Q_X11_⟩ hb_ hon hoff
   refine ⟨_, rfl, fun K hK => ?_⟩
   have e8 : a.tmps[8]? = some (.pointer (some ⟨gb155, 0, none⟩)) := by rw [ha]; exact (putSel_off rfl).trans rfl
   replace ha := am ha; have BK155 := am Q_BK155; have HB := am Q_HB; have hc0_ : w'.cell? ⟨gb155, 0, none⟩ = some (.string a1_0) := (blk_cell BK155.out 0).trans rfl; have hc1_ : w'.cell? ⟨gb155, 1, none⟩ = some (.slice A1_1 l1_1.length c1_1) := (blk_cell BK155.out 1).trans rfl; have hc2_ : w'.cell? ⟨gb155, 2, none⟩ = some (.string a1_2) := (blk_cell BK155.out 2).trans rfl; have hc3_ : w'.cell? ⟨gb155, 3, none⟩ = some (.string a1_3) := (blk_cell BK155.out 3).trans rfl; have hc4_ : w'.cell? ⟨gb155, 4, none⟩ = some (.string a1_4) := (blk_cell BK155.out 4).trans rfl; have hc5_ : w'.cell? ⟨gb155, 5, none⟩ = some (.int .i64 a1_5) := (blk_cell BK155.out 5).trans rfl; have hc6_ : w'.cell? ⟨gb155, 6, none⟩ = some (.int .i64 a1_6) := (blk_cell BK155.out 6).trans rfl; have hc7_ : w'.cell? ⟨gb155, 7, none⟩ = some (.bool a1_7) := (blk_cell BK155.out 7).trans rfl; have hc8_ : w'.cell? ⟨gb155, 8, none⟩ = some (.int .i64 a1_8) := (blk_cell BK155.out 8).trans rfl; have hc9_ : w'.cell? ⟨gb155, 9, none⟩ = some (.int .i64 a1_9) := (blk_cell BK155.out 9).trans rfl; refine value_ (w1 := w') (v := .string a1_0) (by rfl) rfl ?_ ?_
   ·go_simp
    (try simp only [i64_w])
    try rfl
   refine hK.out _ _ ⟨v157, v160, v163, v166, m11_, (by rw [ha.out]; exact putSel_upk 0 hb_ rfl rfl rfl), Q_BK155, Q_HB, fun h0_ => absurd ((hoff 3 (by kernel_rfl)).symm.trans h0_) (by decide), fun h0_ => absurd ((hoff 4 (by kernel_rfl)).symm.trans h0_) (by decide), Q_HO164, fun h0_ => absurd ((hoff 10 (by kernel_rfl)).symm.trans h0_) (by decide), fun h0_ => absurd ((hoff 11 (by kernel_rfl)).symm.trans h0_) (by decide)⟩
  refine steps_cons ?_ ?_
  ·rintro b a w' ⟨v157, v160, v163, v166, m11_, ha, Q_BK155, Q_HB, Q_HO158, Q_HO161, Q_HO164, Q_HO167, Q_X11_⟩ hb_ hon hoff
   refine ⟨_, rfl, fun K hK => ?_⟩
   have e9 : a.tmps[9]? = some (.string a1_0) := by rw [ha]; exact putSel_on (e := (2, 9, .string a1_0)) 0 rfl rfl (hon 2 (by kernel_rfl)) rfl
   replace ha := am ha; have BK155 := am Q_BK155; have HB := am Q_HB
   refine Kd.R_lit_step Kd.string _ 9 ?hg (N := 10) ?hd (xs := ([a1_0] : List ByteArray)) (inner := [.string a1_0]) (ok := fun _ => True) (okp := fun _ => True) ?hr ?hp (fun _ hk => hk) trivial (Below.refl _ _) (Nat.le_refl _) (by simp) ?_; (case hd => rfl); (case hg => rfl); (case hr => first | (go_simp; done) | (go_simp; rfl)); (case hp => exact (Reps.one (show Kd.M Kd.string _ _ _ a1_0 [.string a1_0] from rfl) (Reps.none _ _)))
   intro v157 w7 ho8 hb hg_ hnew_; clear hg_ hnew_
   (first | rw [← Ny156.out] at ho8 | (simp only [Int.reduceToNat] at ho8; rw [← Ny156.out] at ho8))
   have n0_ := am (Kd.R_lower ho8 (below_size (beu HB.out))); have n1_ := am (blk_below (bu BK155.out) hb); have n2_ := am (below_step (beu HB.out) hb)
   have z_HO164 := fun (h0_ : b 9 = true) => (show Kd.R (Kd.int .u64) 47 w7 w.heap.size (fun _ => True) v163 y162 from by first | exact (Kd.R_below (ru (Q_HO164 h0_)) hb) | exact Kd.R_mono (Kd.R_below (ru (Q_HO164 h0_)) hb) (fun _ h_ => by first | trivial | exact h_ | exact h_.1))
   clear BK155 HB; have HO158 := n0_; have BK155 := n1_; have HB := n2_; clear n0_ n1_ n2_ hb ho8; refine hK.out _ _ ⟨v157, v160, v163, v166, m11_, (by rw [ha.out]; exact putSel_upk 1 hb_ rfl rfl rfl), (bu BK155.out), (beu HB.out), fun _ => (ru HO158.out), fun h0_ => absurd ((hoff 4 (by kernel_rfl)).symm.trans h0_) (by decide), z_HO164, fun h0_ => absurd ((hoff 10 (by kernel_rfl)).symm.trans h0_) (by decide), fun h0_ => absurd ((hoff 11 (by kernel_rfl)).symm.trans h0_) (by decide)⟩
  refine steps_cons ?_ ?_
  ·rintro b a w' ⟨v157, v160, v163, v166, m11_, ha, Q_BK155, Q_HB, Q_HO158, Q_HO161, Q_HO164, Q_HO167, Q_X11_⟩ hb_ hon hoff
   refine ⟨_, rfl, fun K hK => ?_⟩
   have e7 : a.tmps[7]? = some (.slice A0 l0.length c0) := by rw [ha]; exact (putSel_off rfl).trans rfl
   have e10 : a.tmps[10]? = some (v157) := by rw [ha]; exact putSel_on (e := (3, 10, v157)) 1 rfl rfl (hon 3 (by kernel_rfl)) rfl
   replace ha := am ha; have BK155 := am Q_BK155; have HB := am Q_HB; have HO158 := am (Q_HO158 (hon 3 (by kernel_rfl))); obtain ⟨Ao10, co10, eo10⟩ := Kd.R_slice HO158.out
   (first | subst eo10 | (injection eo10 with f1_ f2_ f3_; have f4_ := f1_.symm; have f5_ := f3_.symm; clear f1_ f2_ f3_; subst f4_; subst f5_))
   refine goes_ Tryd.func33 (by kernel_rfl) rfl #[.slice A0 l0.length c0, .slice Ao10 y156.length co10] (by rfl) rfl rfl (by first | (simp only [List.map_toArray, List.map_cons, List.map_nil, Act.eval, Array.getD_eq_getD_getElem?, Option.getD_some, e7, e10]; done) | (simp only [List.map_toArray, List.map_cons, List.map_nil, Act.eval, Array.getD_eq_getD_getElem?, Option.getD_some, e7, e10]; rfl)) ?_; (with_reducible refine (packet_Text.calls k _ _ l0 _ _ y156 t159 _ ?side1 ?side2 ?side3 ?side4 A3.out).mono ?_)
   (case side1 => exact cu (Kd.C_below HR0.out HB.out))
   (case side2 => exact HC0.out)
   (case side3 => exact cu (Kd.R_reads' HO158.out).2.2)
   (case side4 => exact (Kd.R_reads' HO158.out).2.1)
   rintro e w11 ⟨v160, rfl, ho0, hb⟩; refine ⟨_, rfl, ?_⟩; have n0_ := am (Kd.R_below (ru HO158.out) hb); have n1_ := am (Kd.R_lower ho0 (below_size (beu HB.out))); have n2_ := am (blk_below (bu BK155.out) hb); have n3_ := am (below_step (beu HB.out) hb)
   have z_HO164 := fun (h0_ : b 9 = true) => (show Kd.R (Kd.int .u64) 47 w11 w.heap.size (fun _ => True) v163 y162 from by first | exact (Kd.R_below (ru (Q_HO164 h0_)) hb) | exact Kd.R_mono (Kd.R_below (ru (Q_HO164 h0_)) hb) (fun _ h_ => by first | trivial | exact h_ | exact h_.1))
   clear HO158 BK155 HB; have HO158 := n0_; have HO161 := n1_; have BK155 := n2_; have HB := n3_; clear n0_ n1_ n2_ n3_
   (try clear hb)
   (try clear hb2)
   (try clear hk)
   (try clear hi)
   (try clear ho0)
   refine hK.out _ _ ⟨.slice Ao10 y156.length co10, v160, v163, v166, m11_, (by rw [ha.out]; exact putSel_upk 2 hb_ rfl rfl rfl), (bu BK155.out), (beu HB.out), fun _ => (ru HO158.out), fun _ => (ru HO161.out), z_HO164, fun h0_ => absurd ((hoff 10 (by kernel_rfl)).symm.trans h0_) (by decide), fun h0_ => absurd ((hoff 11 (by kernel_rfl)).symm.trans h0_) (by decide)⟩
  refine steps_cons ?_ ?_
  ·rintro b a w' ⟨v157, v160, v163, v166, m11_, ha, Q_BK155, Q_HB, Q_HO158, Q_HO161, Q_HO164, Q_HO167, Q_X11_⟩ hb_ hon hoff
   refine ⟨_, rfl, fun K hK => ?_⟩
   have e12 : a.tmps[12]? = some (.pointer (some ⟨gb155, 1, none⟩)) := by rw [ha]; exact (putSel_off rfl).trans rfl
   replace ha := am ha; have BK155 := am Q_BK155; have HB := am Q_HB; have hc0_ : w'.cell? ⟨gb155, 0, none⟩ = some (.string a1_0) := (blk_cell BK155.out 0).trans rfl; have hc1_ : w'.cell? ⟨gb155, 1, none⟩ = some (.slice A1_1 l1_1.length c1_1) := (blk_cell BK155.out 1).trans rfl; have hc2_ : w'.cell? ⟨gb155, 2, none⟩ = some (.string a1_2) := (blk_cell BK155.out 2).trans rfl; have hc3_ : w'.cell? ⟨gb155, 3, none⟩ = some (.string a1_3) := (blk_cell BK155.out 3).trans rfl; have hc4_ : w'.cell? ⟨gb155, 4, none⟩ = some (.string a1_4) := (blk_cell BK155.out 4).trans rfl; have hc5_ : w'.cell? ⟨gb155, 5, none⟩ = some (.int .i64 a1_5) := (blk_cell BK155.out 5).trans rfl; have hc6_ : w'.cell? ⟨gb155, 6, none⟩ = some (.int .i64 a1_6) := (blk_cell BK155.out 6).trans rfl; have hc7_ : w'.cell? ⟨gb155, 7, none⟩ = some (.bool a1_7) := (blk_cell BK155.out 7).trans rfl; have hc8_ : w'.cell? ⟨gb155, 8, none⟩ = some (.int .i64 a1_8) := (blk_cell BK155.out 8).trans rfl; have hc9_ : w'.cell? ⟨gb155, 9, none⟩ = some (.int .i64 a1_9) := (blk_cell BK155.out 9).trans rfl; refine value_ (w1 := w') (v := .slice A1_1 l1_1.length c1_1) (by rfl) rfl ?_ ?_
   ·go_simp
    (try simp only [i64_w])
    try rfl
   refine hK.out _ _ ⟨v157, v160, v163, v166, m11_, (by rw [ha.out]; exact putSel_upk 3 hb_ rfl rfl rfl), Q_BK155, Q_HB, Q_HO158, Q_HO161, fun h0_ => absurd ((hoff 9 (by kernel_rfl)).symm.trans h0_) (by decide), fun h0_ => absurd ((hoff 10 (by kernel_rfl)).symm.trans h0_) (by decide), fun h0_ => absurd ((hoff 11 (by kernel_rfl)).symm.trans h0_) (by decide)⟩
  refine steps_cons ?_ ?_
  ·rintro b a w' ⟨v157, v160, v163, v166, m11_, ha, Q_BK155, Q_HB, Q_HO158, Q_HO161, Q_HO164, Q_HO167, Q_X11_⟩ hb_ hon hoff
   refine ⟨_, rfl, fun K hK => ?_⟩
   have e13 : a.tmps[13]? = some (.slice A1_1 l1_1.length c1_1) := by rw [ha]; exact putSel_on (e := (6, 13, .slice A1_1 l1_1.length c1_1)) 3 rfl rfl (hon 6 (by kernel_rfl)) rfl
   replace ha := am ha; have BK155 := am Q_BK155; have HB := am Q_HB; refine value_ (w1 := w') (v := .int .i64 (l1_1.length : Int)) (by rfl) rfl ?_ ?_
   ·go_simp
    (try simp only [i64_w])
    try rfl
   refine hK.out _ _ ⟨v157, v160, v163, v166, m11_, (by rw [ha.out]; exact putSel_upk 4 hb_ rfl rfl rfl), Q_BK155, Q_HB, Q_HO158, Q_HO161, fun h0_ => absurd ((hoff 9 (by kernel_rfl)).symm.trans h0_) (by decide), fun h0_ => absurd ((hoff 10 (by kernel_rfl)).symm.trans h0_) (by decide), fun h0_ => absurd ((hoff 11 (by kernel_rfl)).symm.trans h0_) (by decide)⟩
  refine steps_cons ?_ ?_
  ·rintro b a w' ⟨v157, v160, v163, v166, m11_, ha, Q_BK155, Q_HB, Q_HO158, Q_HO161, Q_HO164, Q_HO167, Q_X11_⟩ hb_ hon hoff
   refine ⟨_, rfl, fun K hK => ?_⟩
   have e14 : a.tmps[14]? = some (.int .i64 (l1_1.length : Int)) := by rw [ha]; exact putSel_on (e := (7, 14, .int .i64 (l1_1.length : Int))) 4 rfl rfl (hon 7 (by kernel_rfl)) rfl
   replace ha := am ha; have BK155 := am Q_BK155; have HB := am Q_HB; refine value_ (w1 := w') (v := .int .u64 (IntKind.u64.wrap ((l1_1.length : Int)))) (by rfl) rfl ?_ ?_
   ·go_simp
    (try simp only [i64_w])
    try rfl
   refine hK.out _ _ ⟨v157, v160, v163, v166, m11_, (by rw [ha.out]; exact putSel_upk 5 hb_ rfl rfl rfl), Q_BK155, Q_HB, Q_HO158, Q_HO161, fun h0_ => absurd ((hoff 9 (by kernel_rfl)).symm.trans h0_) (by decide), fun h0_ => absurd ((hoff 10 (by kernel_rfl)).symm.trans h0_) (by decide), fun h0_ => absurd ((hoff 11 (by kernel_rfl)).symm.trans h0_) (by decide)⟩
  refine steps_cons ?_ ?_
  ·rintro b a w' ⟨v157, v160, v163, v166, m11_, ha, Q_BK155, Q_HB, Q_HO158, Q_HO161, Q_HO164, Q_HO167, Q_X11_⟩ hb_ hon hoff
   refine ⟨_, rfl, fun K hK => ?_⟩
   have e15 : a.tmps[15]? = some (.int .u64 (IntKind.u64.wrap ((l1_1.length : Int)))) := by rw [ha]; exact putSel_on (e := (8, 15, .int .u64 (IntKind.u64.wrap ((l1_1.length : Int))))) 5 rfl rfl (hon 8 (by kernel_rfl)) rfl
   replace ha := am ha; have BK155 := am Q_BK155; have HB := am Q_HB
   refine Kd.R_lit_step (Kd.int .u64) _ 47 ?hg (N := 16) ?hd (xs := ([IntKind.u64.wrap ((l1_1.length : Int))] : List Int)) (inner := [.int .u64 (IntKind.u64.wrap ((l1_1.length : Int)))]) (ok := fun _ => True) (okp := fun _ => True) ?hr ?hp (fun _ hk => hk) trivial (Below.refl _ _) (Nat.le_refl _) (by simp) ?_; (case hd => rfl); (case hg => rfl); (case hr => first | (go_simp; done) | (go_simp; rfl)); (case hp => exact (Reps.one (show Kd.M (Kd.int .u64) _ _ _ (IntKind.u64.wrap ((l1_1.length : Int))) [.int .u64 (IntKind.u64.wrap ((l1_1.length : Int)))] from rfl) (Reps.none _ _)))
   intro v163 w7 ho8 hb hg_ hnew_; clear hg_ hnew_
   (first | rw [← Ny162.out] at ho8 | (simp only [Int.reduceToNat] at ho8; rw [← Ny162.out] at ho8))
   have n0_ := am (Kd.R_lower ho8 (below_size (beu HB.out))); have n1_ := am (blk_below (bu BK155.out) hb); have n2_ := am (below_step (beu HB.out) hb)
   have z_HO158 := fun (h0_ : b 3 = true) => (show Kd.R Kd.string 9 w7 w.heap.size (fun _ => True) v157 y156 from by first | exact (Kd.R_below (ru (Q_HO158 h0_)) hb) | exact Kd.R_mono (Kd.R_below (ru (Q_HO158 h0_)) hb) (fun _ h_ => by first | trivial | exact h_ | exact h_.1))
   have z_HO161 := fun (h0_ : b 4 = true) => (show Kd.R (Kd.int .u8) 5 w7 w.heap.size (fun _ => True) v160 t159 from by first | exact (Kd.R_below (ru (Q_HO161 h0_)) hb) | exact Kd.R_mono (Kd.R_below (ru (Q_HO161 h0_)) hb) (fun _ h_ => by first | trivial | exact h_ | exact h_.1))
   clear BK155 HB; have HO164 := n0_; have BK155 := n1_; have HB := n2_; clear n0_ n1_ n2_ hb ho8; refine hK.out _ _ ⟨v157, v160, v163, v166, m11_, (by rw [ha.out]; exact putSel_upk 6 hb_ rfl rfl rfl), (bu BK155.out), (beu HB.out), z_HO158, z_HO161, fun _ => (ru HO164.out), fun h0_ => absurd ((hoff 10 (by kernel_rfl)).symm.trans h0_) (by decide), fun h0_ => absurd ((hoff 11 (by kernel_rfl)).symm.trans h0_) (by decide)⟩
  refine steps_cons ?_ ?_
  ·rintro b a w' ⟨v157, v160, v163, v166, m11_, ha, Q_BK155, Q_HB, Q_HO158, Q_HO161, Q_HO164, Q_HO167, Q_X11_⟩ hb_ hon hoff
   refine ⟨_, rfl, fun K hK => ?_⟩
   have e11 : a.tmps[11]? = some (v160) := by rw [ha]; exact putSel_on (e := (4, 11, v160)) 2 rfl rfl (hon 4 (by kernel_rfl)) rfl
   have e16 : a.tmps[16]? = some (v163) := by rw [ha]; exact putSel_on (e := (9, 16, v163)) 6 rfl rfl (hon 9 (by kernel_rfl)) rfl
   replace ha := am ha; have BK155 := am Q_BK155; have HB := am Q_HB; have HO158 := am (Q_HO158 (hon 3 (by kernel_rfl))); have HO161 := am (Q_HO161 (hon 4 (by kernel_rfl))); have HO164 := am (Q_HO164 (hon 9 (by kernel_rfl))); obtain ⟨Ao14, co14, eo14⟩ := Kd.R_slice HO161.out
   (first | subst eo14 | (injection eo14 with f1_ f2_ f3_; have f4_ := f1_.symm; have f5_ := f3_.symm; clear f1_ f2_ f3_; subst f4_; subst f5_))
   obtain ⟨Ao15, co15, eo15⟩ := Kd.R_slice HO164.out
   (first | subst eo15 | (injection eo15 with f1_ f2_ f3_; have f4_ := f1_.symm; have f5_ := f3_.symm; clear f1_ f2_ f3_; subst f4_; subst f5_))
   refine goes_ Tryd.func32 (by kernel_rfl) rfl #[.slice Ao14 t159.length co14, .slice Ao15 y162.length co15] (by rfl) rfl rfl (by first | (simp only [List.map_toArray, List.map_cons, List.map_nil, Act.eval, Array.getD_eq_getD_getElem?, Option.getD_some, e11, e16]; done) | (simp only [List.map_toArray, List.map_cons, List.map_nil, Act.eval, Array.getD_eq_getD_getElem?, Option.getD_some, e11, e16]; rfl)) ?_; (with_reducible refine (packet_Number.calls k _ _ t159 _ _ y162 t165 _ ?side1 ?side2 ?side3 ?side4 A4.out).mono ?_)
   (case side1 => exact cu (Kd.R_reads' HO161.out).2.2)
   (case side2 => exact (Kd.R_reads' HO161.out).2.1)
   (case side3 => exact cu (Kd.R_reads' HO164.out).2.2)
   (case side4 => exact (Kd.R_reads' HO164.out).2.1)
   rintro e w16 ⟨v166, rfl, ho0, hb⟩; refine ⟨_, rfl, ?_⟩; have n0_ := am (Kd.R_below (ru HO158.out) hb); have n1_ := am (Kd.R_elder' (ru HO161.out) (Kd.R_base ho0) hb); have n2_ := am (Kd.R_below (ru HO164.out) hb); have n3_ := am (Kd.R_lower (Kd.R_new' ho0 (Kd.R_lt (ru HO161.out))) (below_size (beu HB.out))); have n4_ := am (blk_below (bu BK155.out) hb); have n5_ := am (below_step (beu HB.out) hb); clear HO158 HO161 HO164 BK155 HB; have HO158 := n0_; have HO161 := n1_; have HO164 := n2_; have HO167 := n3_; have BK155 := n4_; have HB := n5_; clear n0_ n1_ n2_ n3_ n4_ n5_
   (try clear hb)
   (try clear hb2)
   (try clear hk)
   (try clear hi)
   (try clear ho0)
   refine hK.out _ _ ⟨v157, .slice Ao14 t159.length co14, .slice Ao15 y162.length co15, v166, m11_, (by rw [ha.out]; exact putSel_upk 7 hb_ rfl rfl rfl), (bu BK155.out), (beu HB.out), fun _ => (ru HO158.out), fun _ => (ru (Kd.R_mono HO161.out (fun _ hk => by first | exact hk.2 | exact trivial))), fun _ => (ru HO164.out), fun _ => (ru (Kd.R_mono HO167.out (fun _ hk => by first | exact hk.2 | exact trivial))), fun h0_ => absurd ((hoff 11 (by kernel_rfl)).symm.trans h0_) (by decide)⟩
  refine steps_cons ?_ ?_
  ·rintro b a w' ⟨v157, v160, v163, v166, m11_, ha, Q_BK155, Q_HB, Q_HO158, Q_HO161, Q_HO164, Q_HO167, Q_X11_⟩ hb_ hon hoff
   refine ⟨_, rfl, fun K hK => ?_⟩
   have e17 : a.tmps[17]? = some (v166) := by rw [ha]; exact putSel_on (e := (10, 17, v166)) 7 rfl rfl (hon 10 (by kernel_rfl)) rfl
   replace ha := am ha; have BK155 := am Q_BK155; have HB := am Q_HB; have HO158 := am (Q_HO158 (hon 3 (by kernel_rfl))); have HO161 := am (Q_HO161 (hon 4 (by kernel_rfl))); have HO164 := am (Q_HO164 (hon 9 (by kernel_rfl))); have HO167 := am (Q_HO167 (hon 10 (by kernel_rfl))); refine value_ (w1 := w') (v := v166) (by rfl) rfl ?_ ?_
   ·go_simp
    (try simp only [i64_w])
    try rfl
   refine hK.out _ _ ⟨v157, v160, v163, v166, (v166), (by rw [ha.out]; exact putSel_upk 8 hb_ rfl rfl rfl), Q_BK155, Q_HB, Q_HO158, Q_HO161, Q_HO164, Q_HO167, fun _ => rfl⟩
  exact steps_nil
 rintro b a w16 hall ⟨v157, v160, v163, v166, m11_, ha, Q_BK155, Q_HB, Q_HO158, Q_HO161, Q_HO164, Q_HO167, Q_X11_⟩; clear BK155 HB; have hb2_ := hall 2 (by kernel_rfl); have hb3_ := hall 3 (by kernel_rfl); have hb4_ := hall 4 (by kernel_rfl); have hb6_ := hall 6 (by kernel_rfl); have hb7_ := hall 7 (by kernel_rfl); have hb8_ := hall 8 (by kernel_rfl); have hb9_ := hall 9 (by kernel_rfl); have hb10_ := hall 10 (by kernel_rfl); have hb11_ := hall 11 (by kernel_rfl); subst ha; obtain rfl := Q_X11_ hb11_; simp only [putSel, hb2_, hb3_, hb4_, hb6_, hb7_, hb8_, hb9_, hb10_, hb11_, if_true, Act.put, sA, sB, sC]; have BK155 := am Q_BK155; clear Q_BK155; have HB := am Q_HB; clear Q_HB; have HO158 := am (Q_HO158 hb3_); clear Q_HO158; have HO161 := am (Q_HO161 hb4_); clear Q_HO161; have HO164 := am (Q_HO164 hb9_); clear Q_HO164; have HO167 := am (Q_HO167 hb10_); clear Q_HO167 hall hb2_ hb3_ hb4_ hb6_ hb7_ hb8_ hb9_ hb10_ hb11_; obtain ⟨hcz17_0, hcz17_1, hcz17_2, hcz17_3, hcz17_4, hcz17_5, hcz17_6, hcz17_7, hcz17_8, hcz17_9⟩ := cells10 BK155.out; obtain ⟨hfz17_0, hfz17_1, hfz17_2, hfz17_3, hfz17_4, hfz17_5, hfz17_6, hfz17_7, hfz17_8, hfz17_9⟩ := frozens10 BK155.out
 try go_wp2
 go_loopg [0, 21] k (fun kq v0 v21 w' => ∃ (x0_1 : List Int) (x21_1 : Int), v21 = .int .i64 x21_1 ∧ Aside0 (order_Put.l0 kq x0_1 l1_1 (l1_1.length : Int) x21_1 a1_0 l1_1 a1_2 a1_3 a1_4 a1_5 a1_6 a1_7 a1_8 a1_9 = some r) ∧ Aside0 (kq ≤ k) ∧ Aside0 (Kd.R (Kd.int .u8) 5 w' w.heap.size (fun _ => True) v0 x0_1) ∧ Aside0 (w'.heap[gb155]? = some (.cells #[.string a1_0, (.slice A1_1 l1_1.length c1_1), .string a1_2, .string a1_3, .string a1_4, .int .i64 a1_5, .int .i64 a1_6, .bool a1_7, .int .i64 a1_8, .int .i64 a1_9] 28 (0, 0))) ∧ Aside0 (Below w.heap.size w w'))
 case atStart => exact ⟨(t165), (0), ap3, H', ⟨Nat.le_refl _⟩, ⟨ru (Kd.R_mono HO167.out (fun _ hk => trivial))⟩, ⟨by refine bu ?_; exact BK155.out⟩, ⟨beu HB.out⟩⟩
 case round =>
  clear H'; (try clear c1); (try clear c2); (try clear p2); (try clear c3); (try clear c4); (try clear c5); (try clear c6); (try clear c7); (try clear c8); (try clear c9); (try clear c11); (try clear hcz17_0); (try clear hcz17_1); (try clear hcz17_2); (try clear hcz17_3); (try clear hcz17_4); (try clear hcz17_5); (try clear hcz17_6); (try clear hcz17_7); (try clear hcz17_8); (try clear hcz17_9); (try clear hfz17_0); (try clear hfz17_1); (try clear hfz17_2); (try clear hfz17_3); (try clear hfz17_4); (try clear hfz17_5); (try clear hfz17_6); (try clear hfz17_7); (try clear hfz17_8); (try clear hfz17_9); obtain ⟨x0_1, x21_1, rfl, HA, HK1, HO_0, BK155, HB⟩ := hrel
  cases gk with
  | zero => exact absurd HA.out (by simp [order_Put.l0])
  | succ k1 =>
   have H := HA.out; clear HA; simp only [order_Put.l0] at H
   by_cases c18 : x21_1 < (l1_1.length : Int)
   ·rw [if_pos c18] at H
    have c18b0 : decide (x21_1 < (l1_1.length : Int)) = true := decide_eq_true c18; clear c18
    by_cases c19 : 0 ≤ x21_1
    ·rw [if_pos c19] at H
     have c19b0 : decide (0 ≤ x21_1) = true := decide_eq_true c19; clear c19
     by_cases c20 : x21_1 < (l1_1.length : Int)
     ·rw [if_pos c20] at H
      have c20b0 : decide (x21_1 < (l1_1.length : Int)) = true := decide_eq_true c20; clear c20; obtain ⟨y170, hy170⟩ : ∃ y_ : List ByteArray, y_ = (([(rd_T52 l1_1 x21_1).f0] : List ByteArray)) := ⟨_, rfl⟩
      replace H : ((packet_Text.f k1 x0_1 y170).bind fun t173 => ((packet_Number.f k1 t173 (([IntKind.u64.wrap ((rd_T52 l1_1 x21_1).f1), IntKind.u64.wrap ((rd_T52 l1_1 x21_1).f2)] : List Int))).bind fun t179 => (order_Put.l0 k1 t179 l1_1 (l1_1.length : Int) (wrap64 (x21_1 + 1)) a1_0 l1_1 a1_2 a1_3 a1_4 a1_5 a1_6 a1_7 a1_8 a1_9))) = some r := by first | (rw [hy170]; with_reducible exact H) | (have H2_ := (Option.bind_some _ _).symm.trans H; rw [hy170]; with_reducible exact H2_) | (have H2_ := (Option.bind_some _ _).symm.trans H; with_reducible exact H2_) | with_reducible exact H | (rw [hy170]; exact H) | exact H
      have Ny170 := am hy170; clear hy170; replace H := obm H; obtain ⟨t173, A210, H⟩ := H; replace H : ((packet_Number.f k1 t173 (([IntKind.u64.wrap ((rd_T52 l1_1 x21_1).f1), IntKind.u64.wrap ((rd_T52 l1_1 x21_1).f2)] : List Int))).bind fun t179 => (order_Put.l0 k1 t179 l1_1 (l1_1.length : Int) (wrap64 (x21_1 + 1)) a1_0 l1_1 a1_2 a1_3 a1_4 a1_5 a1_6 a1_7 a1_8 a1_9)) = some r := H; have A21 := am A210; clear A210; obtain ⟨y176, hy176⟩ : ∃ y_ : List Int, y_ = (([IntKind.u64.wrap ((rd_T52 l1_1 x21_1).f1), IntKind.u64.wrap ((rd_T52 l1_1 x21_1).f2)] : List Int)) := ⟨_, rfl⟩
      replace H : ((packet_Number.f k1 t173 y176).bind fun t179 => (order_Put.l0 k1 t179 l1_1 (l1_1.length : Int) (wrap64 (x21_1 + 1)) a1_0 l1_1 a1_2 a1_3 a1_4 a1_5 a1_6 a1_7 a1_8 a1_9)) = some r := by first | (rw [hy176]; with_reducible exact H) | (have H2_ := (Option.bind_some _ _).symm.trans H; rw [hy176]; with_reducible exact H2_) | (have H2_ := (Option.bind_some _ _).symm.trans H; with_reducible exact H2_) | with_reducible exact H | (rw [hy176]; exact H) | exact H
      have Ny176 := am hy176; clear hy176; replace H := obm H; obtain ⟨t179, A220, H⟩ := H; replace H : (order_Put.l0 k1 t179 l1_1 (l1_1.length : Int) (wrap64 (x21_1 + 1)) a1_0 l1_1 a1_2 a1_3 a1_4 a1_5 a1_6 a1_7 a1_8 a1_9) = some r := H; have A22 := am A220; clear A220; have H' := am H; clear H; have p168 : 0 ≤ (x21_1 : Int) := of_decide_eq_true ap2; have q168 : x21_1 < (l1_1.length : Int) := of_decide_eq_true ap2; obtain ⟨ad168, e168, hx168_0, hx168_1, hx168_2⟩ := at_T52 HR1_1.out x21_1 p168 q168
      cases e168
      replace hx168_0 := (HB.out.cell (World.block_lt_of_cell? w _ hx168_0)).trans hx168_0; replace hx168_1 := (HB.out.cell (World.block_lt_of_cell? w _ hx168_1)).trans hx168_1; replace hx168_2 := (HB.out.cell (World.block_lt_of_cell? w _ hx168_2)).trans hx168_2; replace p168 := eq_true p168; replace q168 := eq_true q168
      try go_wp2_with (first | ((with_reducible refine gate_dst (N := 6) rfl ?_); refine box_event ?hg (N := 6) ?hd (cs := #[.string ⟨#[]⟩, .int .i64 0, .int .i64 0]) (t := 52) ?hr ?_; (case hd => rfl); (case hg => rfl); (case hr => first | (go_simp; done) | (go_simp; rfl)); intro gb169 hg w23 hbox hb; have _ := am (Kd.R_below (ru HO_0.out) hb); have _ := am (blk_below (bu BK155.out) hb); have _ := am (below_step (beu HB.out) hb); have _ := am (hbox); have _ := am ((by rw [hg]; exact (below_size (beu HB.out)) : w.heap.size ≤ gb169)); have _ := am ((by rw [hg]; exact (below_size (beu HB.out)) : w.heap.size ≤ gb169)); have _ := am (nb1 hg BK155.out : gb155 ≠ gb169); have _ := am (nb2 hg BK155.out : gb169 ≠ gb155); clear HO_0 BK155 HB; rename_i HO_0 BK155 HB BK169 GW169 GE169 NB155_169 NB169_155; clear hb hbox hg; have := NB169_155.out; have := NB155_169.out; obtain ⟨_, _, _⟩ := cells3 BK169.out; obtain ⟨_, _, _⟩ := frozens3 BK169.out; obtain ⟨Ao26, co26, eo26⟩ := Kd.R_slice HO_0.out; subst eo26))
      have n0_ : Aside0 (Kd.R (Kd.int .u8) 5 (((w23.setCell ⟨gb169, 0, none⟩ (.string ((rd_T52 l1_1 x21_1).f0))).setCell ⟨gb169, 1, none⟩ (.int .i64 ((rd_T52 l1_1 x21_1).f1))).setCell ⟨gb169, 2, none⟩ (.int .i64 ((rd_T52 l1_1 x21_1).f2))) w.heap.size (fun _ => True) (.slice Ao26 x0_1.length co26) x0_1) := ⟨ru (Kd.R_mono (rf gb169 2 (rf gb169 1 (rf gb169 0 (Kd.R_types HO_0.out BK169.out (by decide)) (.string ((rd_T52 l1_1 x21_1).f0))) (.int .i64 ((rd_T52 l1_1 x21_1).f1))) (.int .i64 ((rd_T52 l1_1 x21_1).f2))) (fun _ hk => trivial))⟩; have n1_ : Aside0 ((((w23.setCell ⟨gb169, 0, none⟩ (.string ((rd_T52 l1_1 x21_1).f0))).setCell ⟨gb169, 1, none⟩ (.int .i64 ((rd_T52 l1_1 x21_1).f1))).setCell ⟨gb169, 2, none⟩ (.int .i64 ((rd_T52 l1_1 x21_1).f2))).heap[gb155]? = some (.cells #[.string a1_0, .slice (some ad168) l1_1.length c1_1, .string a1_2, .string a1_3, .string a1_4, .int .i64 a1_5, .int .i64 a1_6, .bool a1_7, .int .i64 a1_8, .int .i64 a1_9] 28 (0, 0))) := ⟨by refine bu ?_; refine blk_far ?_ NB155_169.out _; refine bu ?_; refine blk_far ?_ NB155_169.out _; refine bu ?_; refine blk_far ?_ NB155_169.out _; refine bu ?_; exact BK155.out⟩; have n2_ : Aside0 ((((w23.setCell ⟨gb169, 0, none⟩ (.string ((rd_T52 l1_1 x21_1).f0))).setCell ⟨gb169, 1, none⟩ (.int .i64 ((rd_T52 l1_1 x21_1).f1))).setCell ⟨gb169, 2, none⟩ (.int .i64 ((rd_T52 l1_1 x21_1).f2))).heap[gb169]? = some (.cells #[.string ((rd_T52 l1_1 x21_1).f0), .int .i64 ((rd_T52 l1_1 x21_1).f1), .int .i64 ((rd_T52 l1_1 x21_1).f2)] 52 (0, 0))) := ⟨by refine bu ?_; refine blk_put (cs := #[.string ((rd_T52 l1_1 x21_1).f0), .int .i64 ((rd_T52 l1_1 x21_1).f1), .int .i64 0]) ?_ 2 _ rfl; refine bu ?_; refine blk_put (cs := #[.string ((rd_T52 l1_1 x21_1).f0), .int .i64 0, .int .i64 0]) ?_ 1 _ rfl; refine bu ?_; refine blk_put (cs := #[.string ⟨#[]⟩, .int .i64 0, .int .i64 0]) ?_ 0 _ rfl; refine bu ?_; exact BK169.out⟩; have n3_ : Aside0 (Below w.heap.size w (((w23.setCell ⟨gb169, 0, none⟩ (.string ((rd_T52 l1_1 x21_1).f0))).setCell ⟨gb169, 1, none⟩ (.int .i64 ((rd_T52 l1_1 x21_1).f1))).setCell ⟨gb169, 2, none⟩ (.int .i64 ((rd_T52 l1_1 x21_1).f2)))) := ⟨beu HB.out⟩
      (try clear HO_0)
      (try clear BK155)
      (try clear BK169)
      (try clear HB)
      generalize (((w23.setCell ⟨gb169, 0, none⟩ (.string ((rd_T52 l1_1 x21_1).f0))).setCell ⟨gb169, 1, none⟩ (.int .i64 ((rd_T52 l1_1 x21_1).f1))).setCell ⟨gb169, 2, none⟩ (.int .i64 ((rd_T52 l1_1 x21_1).f2))) = w27 at n0_ n1_ n2_ n3_ ⊢; have HO_0 := n0_; have BK155 := n1_; have BK169 := n2_; have HB := n3_; clear n0_ n1_ n2_ n3_
      (try (rw [drewN_self w27]; generalize hq_ : World.drewN w27 _ = w27; have _ := am (show Kd.R _ _ w27 _ _ _ _ from by rw [← hq_]; exact Kd.R_drewN HO_0.out _); have _ := am (blk_at hq_ BK155.out); have _ := am (blk_at hq_ BK169.out); have _ := am (below_at hq_ HB.out); clear hq_ HO_0 BK155 BK169 HB; rename_i HO_0 BK155 BK169 HB))
      have n0_ := am (Kd.R_drew HO_0.out); have n1_ := am (blk_drew BK155.out); have n2_ := am (blk_drew BK169.out); have n3_ := am (below_drew1 HB.out); clear HO_0 BK155 BK169 HB; have HO_0 := n0_; have BK155 := n1_; have BK169 := n2_; have HB := n3_; clear n0_ n1_ n2_ n3_
      refine start_ (n := 14) (S := fun w' => w'.cell? ⟨gb169, 0, none⟩ = some (.string ((rd_T52 l1_1 x21_1).f0)) ∧ w'.cell? ⟨gb169, 1, none⟩ = some (.int .i64 ((rd_T52 l1_1 x21_1).f1)) ∧ w'.cell? ⟨gb169, 2, none⟩ = some (.int .i64 ((rd_T52 l1_1 x21_1).f2))) (ds := []) #[false, false, false, false, false, false, false, false, false, false, false, false, false, false] (by kernel_rfl) rfl rfl ⟨(blk_cell BK169.out 0).trans rfl, (blk_cell BK169.out 1).trans rfl, (blk_cell BK169.out 2).trans rfl⟩ (fun hHeld => ?_); refine with_tabW order_Put.tab5 order_Put.bits5 (fun HT_ HW_ => ?_)
      generalize w27.drew = w28 at HO_0 BK155 BK169 HB hHeld ⊢; refine pure_ (i := 0) (N := some 25) (v := ?_) (a' := ?_) (bs 14 1) rfl rfl (ak HT_.out) (fun _ _ _ h => h) (Or.inl ⟨by rfl, ?_⟩) ?_ ?_; rotate_left
      ·intro w'
       go_simp
       (with_reducible rfl)
      rotate_left
      ·simp only [Act.put, sA, sB, sC, i64_w, i32_w]
       rfl
      refine pure_ (i := 1) (N := some 26) (v := ?_) (a' := ?_) (bs 14 3) rfl rfl (ak HT_.out) (fun _ _ _ h => h) (Or.inl ⟨by rfl, ?_⟩) ?_ ?_; rotate_left
      ·intro w'
       go_simp
       (with_reducible rfl)
      rotate_left
      ·simp only [Act.put, sA, sB, sC, i64_w, i32_w]
       rfl
      refine pure_ (i := 5) (N := some 30) (v := ?_) (a' := ?_) (bs 14 35) rfl rfl (ak HT_.out) (fun _ _ _ h => h) (Or.inl ⟨by rfl, ?_⟩) ?_ ?_; rotate_left
      ·intro w'
       go_simp
       (with_reducible rfl)
      rotate_left
      ·simp only [Act.put, sA, sB, sC, i64_w, i32_w]
       rfl
      refine pure_ (i := 8) (N := some 33) (v := ?_) (a' := ?_) (bs 14 291) rfl rfl (ak HT_.out) (fun _ _ _ h => h) (Or.inl ⟨by rfl, ?_⟩) ?_ ?_; rotate_left
      ·intro w'
       go_simp
       (with_reducible rfl)
      rotate_left
      ·simp only [Act.put, sA, sB, sC, i64_w, i32_w]
       rfl
      refine take_ (i := 2) (N := some 27) (v := ?_) (a' := ?_) (bs 14 295) rfl rfl (take_ofW HT_.out HW_.out (by kernel_rfl)) (fun _ _ _ h => h) (Or.inl ⟨by rfl, ?_⟩) hHeld ?_ ?_; rotate_left
      ·rintro w' ⟨s0, s1, s2⟩
       go_simp
       (with_reducible rfl)
      rotate_left
      ·simp only [Act.put, sA, sB, sC, i64_w, i32_w]
       rfl
      refine take_ (i := 6) (N := some 31) (v := ?_) (a' := ?_) (bs 14 359) rfl rfl (take_ofW HT_.out HW_.out (by kernel_rfl)) (fun _ _ _ h => h) (Or.inl ⟨by rfl, ?_⟩) hHeld ?_ ?_; rotate_left
      ·rintro w' ⟨s0, s1, s2⟩
       go_simp
       (with_reducible rfl)
      rotate_left
      ·simp only [Act.put, sA, sB, sC, i64_w, i32_w]
       rfl
      refine pure_ (i := 7) (N := some 32) (v := ?_) (a' := ?_) (bs 14 487) rfl rfl (ak HT_.out) (fun _ _ _ h => h) (Or.inl ⟨by rfl, ?_⟩) ?_ ?_; rotate_left
      ·intro w'
       go_simp
       (with_reducible rfl)
      rotate_left
      ·simp only [Act.put, sA, sB, sC, i64_w, i32_w]
       rfl
      refine take_ (i := 9) (N := some 34) (v := ?_) (a' := ?_) (bs 14 999) rfl rfl (take_ofW HT_.out HW_.out (by kernel_rfl)) (fun _ _ _ h => h) (Or.inl ⟨by rfl, ?_⟩) hHeld ?_ ?_; rotate_left
      ·rintro w' ⟨s0, s1, s2⟩
       go_simp
       (with_reducible rfl)
      rotate_left
      ·simp only [Act.put, sA, sB, sC, i64_w, i32_w]
       rfl
      refine pure_ (i := 10) (N := some 35) (v := ?_) (a' := ?_) (bs 14 2023) rfl rfl (ak HT_.out) (fun _ _ _ h => h) (Or.inl ⟨by rfl, ?_⟩) ?_ ?_; rotate_left
      ·intro w'
       go_simp
       (with_reducible rfl)
      rotate_left
      ·simp only [Act.put, sA, sB, sC, i64_w, i32_w]
       rfl
      refine join_ (σ := Value × Value × Value) 2 #[true, true, true, true, true, true, true, true, true, true, true, true, false, false] (fun s_ => [(28, s_.1), (29, s_.2.1), (36, s_.2.2)]) (fun s_ w' => (w'.cell? ⟨gb169, 0, none⟩ = some (.string ((rd_T52 l1_1 x21_1).f0)) ∧ w'.cell? ⟨gb169, 1, none⟩ = some (.int .i64 ((rd_T52 l1_1 x21_1).f1)) ∧ w'.cell? ⟨gb169, 2, none⟩ = some (.int .i64 ((rd_T52 l1_1 x21_1).f2))) ∧ (Kd.R Kd.string 9 w' w.heap.size (fun _ => True) s_.1 y170) ∧ (Kd.R (Kd.int .u8) 5 w' w.heap.size (fun k_ => some k_ ≠ (.slice Ao26 x0_1.length co26 : Value).ownBlock) s_.2.1 t173) ∧ (Kd.R (Kd.int .u64) 47 w' w.heap.size (fun _ => True) s_.2.2 y176) ∧ (Kd.R (Kd.int .u8) 5 w' w.heap.size (fun k_ => some k_ ≠ (s_.2.1 : Value).ownBlock) (.slice Ao26 x0_1.length co26) x0_1) ∧ (w'.heap[gb155]? = some (.cells #[.string a1_0, .slice (some ad168) l1_1.length c1_1, .string a1_2, .string a1_3, .string a1_4, .int .i64 a1_5, .int .i64 a1_6, .bool a1_7, .int .i64 a1_8, .int .i64 a1_9] 28 (0, 0))) ∧ (w'.heap[gb169]? = some (.cells #[.string ((rd_T52 l1_1 x21_1).f0), .int .i64 ((rd_T52 l1_1 x21_1).f1), .int .i64 ((rd_T52 l1_1 x21_1).f2)] 52 (0, 0))) ∧ (Below w.heap.size w w')) ?_ ?_; rotate_left
      ·intro hCont
       refine two_ (i := 3) (j := 11) (Ni := some 28) (Nj := some 36) #[true, true, true, true, false, true, true, true, true, true, true, false, false, false] #[true, true, true, false, false, true, true, true, true, true, true, true, false, false] rfl rfl rfl rfl (two_of HT_.out (by kernel_rfl)) (by decide) (by decide) (fun K hK => ?_) (fun K hK => ?_)
       ·skip
        refine Kd.R_lit_step Kd.string _ 9 ?hg (N := 28) ?hd (xs := ([(rd_T52 l1_1 x21_1).f0] : List ByteArray)) (inner := [.string ((rd_T52 l1_1 x21_1).f0)]) (ok := fun _ => True) (okp := fun _ => True) ?hr ?hp (fun _ hk => hk) trivial (Below.refl _ _) (Nat.le_refl _) (by simp) ?_; (case hd => rfl); (case hg => rfl); (case hr => first | (go_simp; done) | (go_simp; rfl)); (case hp => exact (Reps.one (show Kd.M Kd.string _ _ _ ((rd_T52 l1_1 x21_1).f0) [.string ((rd_T52 l1_1 x21_1).f0)] from rfl) (Reps.none _ _)))
        intro v171 w29 ho30 hb hg_ hnew_; clear hg_ hnew_
        (first | rw [← Ny170.out] at ho30 | (simp only [Int.reduceToNat] at ho30; rw [← Ny170.out] at ho30))
        have n0_ := am (Kd.R_below (ru HO_0.out) hb); have n1_ := am (Kd.R_lower ho30 (below_size (beu HB.out))); have n2_ := am (blk_below (bu BK155.out) hb); have n3_ := am (blk_below (bu BK169.out) hb); have n4_ := am (below_step (beu HB.out) hb); clear HO_0 BK155 BK169 HB; have HO_0 := n0_; have HO172 := n1_; have BK155 := n2_; have BK169 := n3_; have HB := n4_; clear n0_ n1_ n2_ n3_ n4_ hb ho30; obtain ⟨Ao31, co31, eo31⟩ := Kd.R_slice HO172.out
        (first | subst eo31 | (injection eo31 with f1_ f2_ f3_; have f4_ := f1_.symm; have f5_ := f3_.symm; clear f1_ f2_ f3_; subst f4_; subst f5_))
        refine hK.out _ _ ⟨(blk_cell BK169.out 0).trans rfl, (blk_cell BK169.out 1).trans rfl, (blk_cell BK169.out 2).trans rfl⟩ (fun hHeld => ?_); clear hK K; refine norm_ (a' := ?_) ?_ ?_; rotate_left
        ·show Act.put _ (some 28) _ = _
         simp only [Act.put, sA, sB, sC, i64_w, i32_w]
         rfl
        refine two_ (i := 4) (j := 11) (Ni := some 29) (Nj := some 36) #[true, true, true, true, true, true, true, true, true, true, true, false, false, false] #[true, true, true, true, false, true, true, true, true, true, true, true, false, false] rfl rfl rfl rfl (two_of HT_.out (by kernel_rfl)) (by decide) (by decide) (fun K hK => ?_) (fun K hK => ?_)
        ·skip
         refine goes_ Tryd.func33 (by kernel_rfl) rfl #[.slice Ao26 x0_1.length co26, .slice Ao31 y170.length co31] (by rfl) rfl rfl ap1 ?_; (with_reducible refine (packet_Text.calls k1 _ _ x0_1 _ _ y170 t173 _ ?side1 ?side2 ?side3 ?side4 A21.out).mono ?_)
         (case side1 => exact cu (Kd.R_reads' HO_0.out).2.2)
         (case side2 => exact (Kd.R_reads' HO_0.out).2.1)
         (case side3 => exact cu (Kd.R_reads' HO172.out).2.2)
         (case side4 => exact (Kd.R_reads' HO172.out).2.1)
         rintro e w32 ⟨v174, rfl, ho0, hb⟩; refine ⟨_, rfl, ?_⟩; have n0_ := am (Kd.R_elder' (ru HO_0.out) (Kd.R_base ho0) hb); have n1_ := am (Kd.R_below (ru HO172.out) hb); have n2_ := am (Kd.R_lower (Kd.R_new' ho0 (Kd.R_lt (ru HO_0.out))) (below_size (beu HB.out))); have n3_ := am (blk_below (bu BK155.out) hb); have n4_ := am (blk_below (bu BK169.out) hb); have n5_ := am (below_step (beu HB.out) hb); clear HO_0 HO172 BK155 BK169 HB; have HO_0 := n0_; have HO172 := n1_; have HO175 := n2_; have BK155 := n3_; have BK169 := n4_; have HB := n5_; clear n0_ n1_ n2_ n3_ n4_ n5_
         (try clear hb)
         (try clear hb2)
         (try clear hk)
         (try clear hi)
         (try clear ho0)
         refine hK.out _ _ ⟨(blk_cell BK169.out 0).trans rfl, (blk_cell BK169.out 1).trans rfl, (blk_cell BK169.out 2).trans rfl⟩ (fun hHeld => ?_); clear hK K; refine norm_ (a' := ?_) ?_ ?_; rotate_left
         ·show Act.put _ (some 29) _ = _
          simp only [Act.put, sA, sB, sC, i64_w, i32_w]
          rfl
         refine one_ (i := 11) (N := some 36) (bs 14 4095) rfl rfl (one_of HT_.out (by kernel_rfl)) (by decide) (fun K hK => ?_)
         refine Kd.R_lit_step (Kd.int .u64) _ 47 ?hg (N := 36) ?hd (xs := ([IntKind.u64.wrap ((rd_T52 l1_1 x21_1).f1), IntKind.u64.wrap ((rd_T52 l1_1 x21_1).f2)] : List Int)) (inner := [.int .u64 (IntKind.u64.wrap ((rd_T52 l1_1 x21_1).f1)), .int .u64 (IntKind.u64.wrap ((rd_T52 l1_1 x21_1).f2))]) (ok := fun _ => True) (okp := fun _ => True) ?hr ?hp (fun _ hk => hk) trivial (Below.refl _ _) (Nat.le_refl _) (by simp) ?_; (case hd => rfl); (case hg => rfl); (case hr => first | (go_simp; done) | (go_simp; rfl)); (case hp => exact (Reps.one (show Kd.M (Kd.int .u64) _ _ _ (IntKind.u64.wrap ((rd_T52 l1_1 x21_1).f1)) [.int .u64 (IntKind.u64.wrap ((rd_T52 l1_1 x21_1).f1))] from rfl) (Reps.one (show Kd.M (Kd.int .u64) _ _ _ (IntKind.u64.wrap ((rd_T52 l1_1 x21_1).f2)) [.int .u64 (IntKind.u64.wrap ((rd_T52 l1_1 x21_1).f2))] from rfl) (Reps.none _ _))))
         intro v177 w33 ho34 hb hg_ hnew_; clear hg_ hnew_
         (first | rw [← Ny176.out] at ho34 | (simp only [Int.reduceToNat] at ho34; rw [← Ny176.out] at ho34))
         have n0_ := am (Kd.R_below (ru HO_0.out) hb); have n1_ := am (Kd.R_below (ru HO172.out) hb); have n2_ := am (Kd.R_below (ru HO175.out) hb); have n3_ := am (Kd.R_lower ho34 (below_size (beu HB.out))); have n4_ := am (blk_below (bu BK155.out) hb); have n5_ := am (blk_below (bu BK169.out) hb); have n6_ := am (below_step (beu HB.out) hb); clear HO_0 HO172 HO175 BK155 BK169 HB; have HO_0 := n0_; have HO172 := n1_; have HO175 := n2_; have HO178 := n3_; have BK155 := n4_; have BK169 := n5_; have HB := n6_; clear n0_ n1_ n2_ n3_ n4_ n5_ n6_ hb ho34; refine hK.out _ _ ⟨(blk_cell BK169.out 0).trans rfl, (blk_cell BK169.out 1).trans rfl, (blk_cell BK169.out 2).trans rfl⟩ (fun hHeld => ?_); clear hK K; refine norm_ (a' := ?_) ?_ ?_; rotate_left
         ·show Act.put _ (some 36) _ = _
          simp only [Act.put, sA, sB, sC, i64_w, i32_w]
          rfl
         exact norm_ (by simp only [putAll, Act.put, sA, sB, sC]) (hCont (.slice Ao31 y170.length co31, v174, v177) _ ⟨hHeld, (ru HO172.out), (ru (Kd.R_mono HO175.out (fun _ hk => by first | exact hk.2 | exact trivial))), (ru HO178.out), (ru (Kd.R_mono HO_0.out (fun _ hk => by first | exact hk.2 | exact trivial))), (bu BK155.out), (bu BK169.out), (beu HB.out)⟩)
        ·skip
         refine Kd.R_lit_step (Kd.int .u64) _ 47 ?hg (N := 36) ?hd (xs := ([IntKind.u64.wrap ((rd_T52 l1_1 x21_1).f1), IntKind.u64.wrap ((rd_T52 l1_1 x21_1).f2)] : List Int)) (inner := [.int .u64 (IntKind.u64.wrap ((rd_T52 l1_1 x21_1).f1)), .int .u64 (IntKind.u64.wrap ((rd_T52 l1_1 x21_1).f2))]) (ok := fun _ => True) (okp := fun _ => True) ?hr ?hp (fun _ hk => hk) trivial (Below.refl _ _) (Nat.le_refl _) (by simp) ?_; (case hd => rfl); (case hg => rfl); (case hr => first | (go_simp; done) | (go_simp; rfl)); (case hp => exact (Reps.one (show Kd.M (Kd.int .u64) _ _ _ (IntKind.u64.wrap ((rd_T52 l1_1 x21_1).f1)) [.int .u64 (IntKind.u64.wrap ((rd_T52 l1_1 x21_1).f1))] from rfl) (Reps.one (show Kd.M (Kd.int .u64) _ _ _ (IntKind.u64.wrap ((rd_T52 l1_1 x21_1).f2)) [.int .u64 (IntKind.u64.wrap ((rd_T52 l1_1 x21_1).f2))] from rfl) (Reps.none _ _))))
         intro v177 w31 ho32 hb hg_ hnew_; clear hg_ hnew_
         (first | rw [← Ny176.out] at ho32 | (simp only [Int.reduceToNat] at ho32; rw [← Ny176.out] at ho32))
         have n0_ := am (Kd.R_below (ru HO_0.out) hb); have n1_ := am (Kd.R_below (ru HO172.out) hb); have n2_ := am (Kd.R_lower ho32 (below_size (beu HB.out))); have n3_ := am (blk_below (bu BK155.out) hb); have n4_ := am (blk_below (bu BK169.out) hb); have n5_ := am (below_step (beu HB.out) hb); clear HO_0 HO172 BK155 BK169 HB; have HO_0 := n0_; have HO172 := n1_; have HO178 := n2_; have BK155 := n3_; have BK169 := n4_; have HB := n5_; clear n0_ n1_ n2_ n3_ n4_ n5_ hb ho32; obtain ⟨Ao33, co33, eo33⟩ := Kd.R_slice HO172.out
         (first | subst eo33 | (injection eo33 with f1_ f2_ f3_; have f4_ := f1_.symm; have f5_ := f3_.symm; clear f1_ f2_ f3_; subst f4_; subst f5_))
         refine hK.out _ _ ⟨(blk_cell BK169.out 0).trans rfl, (blk_cell BK169.out 1).trans rfl, (blk_cell BK169.out 2).trans rfl⟩ (fun hHeld => ?_); clear hK K; refine norm_ (a' := ?_) ?_ ?_; rotate_left
         ·show Act.put _ (some 36) _ = _
          simp only [Act.put, sA, sB, sC, i64_w, i32_w]
          rfl
         refine one_ (i := 4) (N := some 29) (bs 14 4095) rfl rfl (one_of HT_.out (by kernel_rfl)) (by decide) (fun K hK => ?_); refine goes_ Tryd.func33 (by kernel_rfl) rfl #[.slice Ao26 x0_1.length co26, .slice Ao33 y170.length co33] (by rfl) rfl rfl ap1 ?_; (with_reducible refine (packet_Text.calls k1 _ _ x0_1 _ _ y170 t173 _ ?side1 ?side2 ?side3 ?side4 A21.out).mono ?_)
         (case side1 => exact cu (Kd.R_reads' HO_0.out).2.2)
         (case side2 => exact (Kd.R_reads' HO_0.out).2.1)
         (case side3 => exact cu (Kd.R_reads' HO172.out).2.2)
         (case side4 => exact (Kd.R_reads' HO172.out).2.1)
         rintro e w34 ⟨v174, rfl, ho0, hb⟩; refine ⟨_, rfl, ?_⟩; have n0_ := am (Kd.R_elder' (ru HO_0.out) (Kd.R_base ho0) hb); have n1_ := am (Kd.R_below (ru HO172.out) hb); have n2_ := am (Kd.R_below (ru HO178.out) hb); have n3_ := am (Kd.R_lower (Kd.R_new' ho0 (Kd.R_lt (ru HO_0.out))) (below_size (beu HB.out))); have n4_ := am (blk_below (bu BK155.out) hb); have n5_ := am (blk_below (bu BK169.out) hb); have n6_ := am (below_step (beu HB.out) hb); clear HO_0 HO172 HO178 BK155 BK169 HB; have HO_0 := n0_; have HO172 := n1_; have HO178 := n2_; have HO175 := n3_; have BK155 := n4_; have BK169 := n5_; have HB := n6_; clear n0_ n1_ n2_ n3_ n4_ n5_ n6_
         (try clear hb)
         (try clear hb2)
         (try clear hk)
         (try clear hi)
         (try clear ho0)
         refine hK.out _ _ ⟨(blk_cell BK169.out 0).trans rfl, (blk_cell BK169.out 1).trans rfl, (blk_cell BK169.out 2).trans rfl⟩ (fun hHeld => ?_); clear hK K; refine norm_ (a' := ?_) ?_ ?_; rotate_left
         ·show Act.put _ (some 29) _ = _
          simp only [Act.put, sA, sB, sC, i64_w, i32_w]
          rfl
         exact norm_ (by simp only [putAll, Act.put, sA, sB, sC]) (hCont (.slice Ao33 y170.length co33, v174, v177) _ ⟨hHeld, (ru HO172.out), (ru (Kd.R_mono HO175.out (fun _ hk => by first | exact hk.2 | exact trivial))), (ru HO178.out), (ru (Kd.R_mono HO_0.out (fun _ hk => by first | exact hk.2 | exact trivial))), (bu BK155.out), (bu BK169.out), (beu HB.out)⟩)
       ·skip
        refine Kd.R_lit_step (Kd.int .u64) _ 47 ?hg (N := 36) ?hd (xs := ([IntKind.u64.wrap ((rd_T52 l1_1 x21_1).f1), IntKind.u64.wrap ((rd_T52 l1_1 x21_1).f2)] : List Int)) (inner := [.int .u64 (IntKind.u64.wrap ((rd_T52 l1_1 x21_1).f1)), .int .u64 (IntKind.u64.wrap ((rd_T52 l1_1 x21_1).f2))]) (ok := fun _ => True) (okp := fun _ => True) ?hr ?hp (fun _ hk => hk) trivial (Below.refl _ _) (Nat.le_refl _) (by simp) ?_; (case hd => rfl); (case hg => rfl); (case hr => first | (go_simp; done) | (go_simp; rfl)); (case hp => exact (Reps.one (show Kd.M (Kd.int .u64) _ _ _ (IntKind.u64.wrap ((rd_T52 l1_1 x21_1).f1)) [.int .u64 (IntKind.u64.wrap ((rd_T52 l1_1 x21_1).f1))] from rfl) (Reps.one (show Kd.M (Kd.int .u64) _ _ _ (IntKind.u64.wrap ((rd_T52 l1_1 x21_1).f2)) [.int .u64 (IntKind.u64.wrap ((rd_T52 l1_1 x21_1).f2))] from rfl) (Reps.none _ _))))
        intro v177 w29 ho30 hb hg_ hnew_; clear hg_ hnew_
        (first | rw [← Ny176.out] at ho30 | (simp only [Int.reduceToNat] at ho30; rw [← Ny176.out] at ho30))
        have n0_ := am (Kd.R_below (ru HO_0.out) hb); have n1_ := am (Kd.R_lower ho30 (below_size (beu HB.out))); have n2_ := am (blk_below (bu BK155.out) hb); have n3_ := am (blk_below (bu BK169.out) hb); have n4_ := am (below_step (beu HB.out) hb); clear HO_0 BK155 BK169 HB; have HO_0 := n0_; have HO178 := n1_; have BK155 := n2_; have BK169 := n3_; have HB := n4_; clear n0_ n1_ n2_ n3_ n4_ hb ho30; refine hK.out _ _ ⟨(blk_cell BK169.out 0).trans rfl, (blk_cell BK169.out 1).trans rfl, (blk_cell BK169.out 2).trans rfl⟩ (fun hHeld => ?_); clear hK K; refine norm_ (a' := ?_) ?_ ?_; rotate_left
        ·show Act.put _ (some 36) _ = _
         simp only [Act.put, sA, sB, sC, i64_w, i32_w]
         rfl
        refine one_ (i := 3) (N := some 28) (bs 14 4079) rfl rfl (one_of HT_.out (by kernel_rfl)) (by decide) (fun K hK => ?_)
        refine Kd.R_lit_step Kd.string _ 9 ?hg (N := 28) ?hd (xs := ([(rd_T52 l1_1 x21_1).f0] : List ByteArray)) (inner := [.string ((rd_T52 l1_1 x21_1).f0)]) (ok := fun _ => True) (okp := fun _ => True) ?hr ?hp (fun _ hk => hk) trivial (Below.refl _ _) (Nat.le_refl _) (by simp) ?_; (case hd => rfl); (case hg => rfl); (case hr => first | (go_simp; done) | (go_simp; rfl)); (case hp => exact (Reps.one (show Kd.M Kd.string _ _ _ ((rd_T52 l1_1 x21_1).f0) [.string ((rd_T52 l1_1 x21_1).f0)] from rfl) (Reps.none _ _)))
        intro v171 w31 ho32 hb hg_ hnew_; clear hg_ hnew_
        (first | rw [← Ny170.out] at ho32 | (simp only [Int.reduceToNat] at ho32; rw [← Ny170.out] at ho32))
        have n0_ := am (Kd.R_below (ru HO_0.out) hb); have n1_ := am (Kd.R_below (ru HO178.out) hb); have n2_ := am (Kd.R_lower ho32 (below_size (beu HB.out))); have n3_ := am (blk_below (bu BK155.out) hb); have n4_ := am (blk_below (bu BK169.out) hb); have n5_ := am (below_step (beu HB.out) hb); clear HO_0 HO178 BK155 BK169 HB; have HO_0 := n0_; have HO178 := n1_; have HO172 := n2_; have BK155 := n3_; have BK169 := n4_; have HB := n5_; clear n0_ n1_ n2_ n3_ n4_ n5_ hb ho32; obtain ⟨Ao33, co33, eo33⟩ := Kd.R_slice HO172.out
        (first | subst eo33 | (injection eo33 with f1_ f2_ f3_; have f4_ := f1_.symm; have f5_ := f3_.symm; clear f1_ f2_ f3_; subst f4_; subst f5_))
        refine hK.out _ _ ⟨(blk_cell BK169.out 0).trans rfl, (blk_cell BK169.out 1).trans rfl, (blk_cell BK169.out 2).trans rfl⟩ (fun hHeld => ?_); clear hK K; refine norm_ (a' := ?_) ?_ ?_; rotate_left
        ·show Act.put _ (some 28) _ = _
         simp only [Act.put, sA, sB, sC, i64_w, i32_w]
         rfl
        refine one_ (i := 4) (N := some 29) (bs 14 4095) rfl rfl (one_of HT_.out (by kernel_rfl)) (by decide) (fun K hK => ?_); refine goes_ Tryd.func33 (by kernel_rfl) rfl #[.slice Ao26 x0_1.length co26, .slice Ao33 y170.length co33] (by rfl) rfl rfl ap1 ?_; (with_reducible refine (packet_Text.calls k1 _ _ x0_1 _ _ y170 t173 _ ?side1 ?side2 ?side3 ?side4 A21.out).mono ?_)
        (case side1 => exact cu (Kd.R_reads' HO_0.out).2.2)
        (case side2 => exact (Kd.R_reads' HO_0.out).2.1)
        (case side3 => exact cu (Kd.R_reads' HO172.out).2.2)
        (case side4 => exact (Kd.R_reads' HO172.out).2.1)
        rintro e w34 ⟨v174, rfl, ho0, hb⟩; refine ⟨_, rfl, ?_⟩; have n0_ := am (Kd.R_elder' (ru HO_0.out) (Kd.R_base ho0) hb); have n1_ := am (Kd.R_below (ru HO178.out) hb); have n2_ := am (Kd.R_below (ru HO172.out) hb); have n3_ := am (Kd.R_lower (Kd.R_new' ho0 (Kd.R_lt (ru HO_0.out))) (below_size (beu HB.out))); have n4_ := am (blk_below (bu BK155.out) hb); have n5_ := am (blk_below (bu BK169.out) hb); have n6_ := am (below_step (beu HB.out) hb); clear HO_0 HO178 HO172 BK155 BK169 HB; have HO_0 := n0_; have HO178 := n1_; have HO172 := n2_; have HO175 := n3_; have BK155 := n4_; have BK169 := n5_; have HB := n6_; clear n0_ n1_ n2_ n3_ n4_ n5_ n6_
        (try clear hb)
        (try clear hb2)
        (try clear hk)
        (try clear hi)
        (try clear ho0)
        refine hK.out _ _ ⟨(blk_cell BK169.out 0).trans rfl, (blk_cell BK169.out 1).trans rfl, (blk_cell BK169.out 2).trans rfl⟩ (fun hHeld => ?_); clear hK K; refine norm_ (a' := ?_) ?_ ?_; rotate_left
        ·show Act.put _ (some 29) _ = _
         simp only [Act.put, sA, sB, sC, i64_w, i32_w]
         rfl
        exact norm_ (by simp only [putAll, Act.put, sA, sB, sC]) (hCont (.slice Ao33 y170.length co33, v174, v177) _ ⟨hHeld, (ru HO172.out), (ru (Kd.R_mono HO175.out (fun _ hk => by first | exact hk.2 | exact trivial))), (ru HO178.out), (ru (Kd.R_mono HO_0.out (fun _ hk => by first | exact hk.2 | exact trivial))), (bu BK155.out), (bu BK169.out), (beu HB.out)⟩)
      rintro ⟨v171, v174, v177⟩ w35 ⟨hS_, h0_, h1_, h2_, h3_, h4_, h5_, h6_⟩; have n0_ : Aside0 (Kd.R Kd.string 9 w35 w.heap.size (fun _ => True) v171 y170) := ⟨h0_⟩; have n1_ : Aside0 (Kd.R (Kd.int .u8) 5 w35 w.heap.size (fun k_ => some k_ ≠ (.slice Ao26 x0_1.length co26 : Value).ownBlock) v174 t173) := ⟨h1_⟩; have n2_ : Aside0 (Kd.R (Kd.int .u64) 47 w35 w.heap.size (fun _ => True) v177 y176) := ⟨h2_⟩; have n3_ : Aside0 (Kd.R (Kd.int .u8) 5 w35 w.heap.size (fun k_ => some k_ ≠ (v174 : Value).ownBlock) (.slice Ao26 x0_1.length co26) x0_1) := ⟨h3_⟩; have n4_ : Aside0 (w35.heap[gb155]? = some (.cells #[.string a1_0, .slice (some ad168) l1_1.length c1_1, .string a1_2, .string a1_3, .string a1_4, .int .i64 a1_5, .int .i64 a1_6, .bool a1_7, .int .i64 a1_8, .int .i64 a1_9] 28 (0, 0))) := ⟨h4_⟩; have n5_ : Aside0 (w35.heap[gb169]? = some (.cells #[.string ((rd_T52 l1_1 x21_1).f0), .int .i64 ((rd_T52 l1_1 x21_1).f1), .int .i64 ((rd_T52 l1_1 x21_1).f2)] 52 (0, 0))) := ⟨h5_⟩; have n6_ : Aside0 (Below w.heap.size w w35) := ⟨h6_⟩; clear HO_0 BK155 BK169 HB h0_ h1_ h2_ h3_ h4_ h5_ h6_; have HO172 := n0_; have HO175 := n1_; have HO178 := n2_; have HO_0 := n3_; have BK155 := n4_; have BK169 := n5_; have HB := n6_; clear n0_ n1_ n2_ n3_ n4_ n5_ n6_; have hHeld : w35.cell? ⟨gb169, 0, none⟩ = some (.string ((rd_T52 l1_1 x21_1).f0)) ∧ w35.cell? ⟨gb169, 1, none⟩ = some (.int .i64 ((rd_T52 l1_1 x21_1).f1)) ∧ w35.cell? ⟨gb169, 2, none⟩ = some (.int .i64 ((rd_T52 l1_1 x21_1).f2)) := hS_; obtain ⟨Ao36, co36, eo36⟩ := Kd.R_slice HO175.out
      (first | subst eo36 | (injection eo36 with f1_ f2_ f3_; have f4_ := f1_.symm; have f5_ := f3_.symm; clear f1_ f2_ f3_; subst f4_; subst f5_))
      obtain ⟨Ao37, co37, eo37⟩ := Kd.R_slice HO178.out
      (first | subst eo37 | (injection eo37 with f1_ f2_ f3_; have f4_ := f1_.symm; have f5_ := f3_.symm; clear f1_ f2_ f3_; subst f4_; subst f5_))
      refine norm_ (a' := ?_) ?_ ?_; rotate_left
      ·simp only [putAll, Act.put, sA, sB, sC]
       rfl
      refine one_ (i := 12) (N := some 37) (bs 14 8191) rfl rfl (one_of HT_.out (by kernel_rfl)) (by decide) (fun K hK => ?_); refine goes_ Tryd.func32 (by kernel_rfl) rfl #[.slice Ao36 t173.length co36, .slice Ao37 y176.length co37] (by rfl) rfl rfl ap1 ?_; (with_reducible refine (packet_Number.calls k1 _ _ t173 _ _ y176 t179 _ ?side1 ?side2 ?side3 ?side4 A22.out).mono ?_)
      (case side1 => exact cu (Kd.R_reads' HO175.out).2.2)
      (case side2 => exact (Kd.R_reads' HO175.out).2.1)
      (case side3 => exact cu (Kd.R_reads' HO178.out).2.2)
      (case side4 => exact (Kd.R_reads' HO178.out).2.1)
      rintro e w38 ⟨v180, rfl, ho0, hb⟩; refine ⟨_, rfl, ?_⟩; have n0_ := am (Kd.R_elder' (ru HO_0.out) (Kd.R_base ho0) hb); have n1_ := am (Kd.R_below (ru HO172.out) hb); have n2_ := am (Kd.R_elder' (ru HO175.out) (Kd.R_base ho0) hb); have n3_ := am (Kd.R_below (ru HO178.out) hb); have n4_ := am (Kd.R_lower (Kd.R_new' (Kd.R_new' ho0 (Kd.R_lt (ru HO_0.out))) (Kd.R_lt (ru HO175.out))) (below_size (beu HB.out))); have n5_ := am (blk_below (bu BK155.out) hb); have n6_ := am (blk_below (bu BK169.out) hb); have n7_ := am (below_step (beu HB.out) hb); clear HO_0 HO172 HO175 HO178 BK155 BK169 HB; have HO_0 := n0_; have HO172 := n1_; have HO175 := n2_; have HO178 := n3_; have HO181 := n4_; have BK155 := n5_; have BK169 := n6_; have HB := n7_; clear n0_ n1_ n2_ n3_ n4_ n5_ n6_ n7_
      (try clear hb)
      (try clear hb2)
      (try clear hk)
      (try clear hi)
      (try clear ho0)
      refine hK.out _ _ ⟨(blk_cell BK169.out 0).trans rfl, (blk_cell BK169.out 1).trans rfl, (blk_cell BK169.out 2).trans rfl⟩ (fun hHeld => ?_); clear hK K; refine norm_ (a' := ?_) ?_ ?_; rotate_left
      ·show Act.put _ (some 37) _ = _
       simp only [Act.put, sA, sB, sC, i64_w, i32_w]
       rfl
      refine pure_ (i := 13) (N := some 0) (v := ?_) (a' := ?_) (bs 14 16383) rfl rfl (ak HT_.out) (fun _ _ _ h => h) (Or.inl ⟨by rfl, ?_⟩) ?_ ?_; rotate_left
      ·intro w'
       go_simp
       (with_reducible rfl)
      rotate_left
      ·simp only [Act.put, sA, sB, sC, i64_w, i32_w]
       rfl
      refine done_ (done_of HT_.out (by kernel_rfl)) ?_
      try go_wp2
      go_roundg k1
      case measure => have := HK1.out; omega
      case rel => exact ⟨(t179), (wrap64 (x21_1 + 1)), ap3, H', ⟨by have := HK1.out; omega⟩, ⟨ru (Kd.R_mono HO181.out (fun _ hk => trivial))⟩, ⟨by refine bu ?_; exact BK155.out⟩, ⟨beu HB.out⟩⟩
     ·rw [if_neg c20] at H
      exact absurd H (by simp)
    ·rw [if_neg c19] at H
     exact absurd H (by simp)
   ·rw [if_neg c18] at H
    have c18b0 : decide (x21_1 < (l1_1.length : Int)) = false := decide_eq_false c18; clear c18; obtain ⟨y182, hy182⟩ : ∃ y_ : List ByteArray, y_ = (([a1_2, a1_3, a1_4] : List ByteArray)) := ⟨_, rfl⟩
    replace H : ((packet_Text.f k1 x0_1 y182).bind fun t185 => ((order_truth.f a1_7).bind fun t188 => ((packet_Number.f k1 t185 (([IntKind.u64.wrap (a1_5), IntKind.u64.wrap (a1_6), t188, IntKind.u64.wrap (a1_8), IntKind.u64.wrap (a1_9)] : List Int))).bind fun t192 => (some t192)))) = some r := by first | (rw [hy182]; with_reducible exact H) | (have H2_ := (Option.bind_some _ _).symm.trans H; rw [hy182]; with_reducible exact H2_) | (have H2_ := (Option.bind_some _ _).symm.trans H; with_reducible exact H2_) | with_reducible exact H | (rw [hy182]; exact H) | exact H
    have Ny182 := am hy182; clear hy182; replace H := obm H; obtain ⟨t185, A390, H⟩ := H; replace H : ((order_truth.f a1_7).bind fun t188 => ((packet_Number.f k1 t185 (([IntKind.u64.wrap (a1_5), IntKind.u64.wrap (a1_6), t188, IntKind.u64.wrap (a1_8), IntKind.u64.wrap (a1_9)] : List Int))).bind fun t192 => (some t192))) = some r := H; have A39 := am A390; clear A390; replace H := obm H; obtain ⟨t188, A400, H⟩ := H; replace H : ((packet_Number.f k1 t185 (([IntKind.u64.wrap (a1_5), IntKind.u64.wrap (a1_6), t188, IntKind.u64.wrap (a1_8), IntKind.u64.wrap (a1_9)] : List Int))).bind fun t192 => (some t192)) = some r := H; have A40 := am A400; clear A400; obtain ⟨y189, hy189⟩ : ∃ y_ : List Int, y_ = (([IntKind.u64.wrap (a1_5), IntKind.u64.wrap (a1_6), t188, IntKind.u64.wrap (a1_8), IntKind.u64.wrap (a1_9)] : List Int)) := ⟨_, rfl⟩
    replace H : ((packet_Number.f k1 t185 y189).bind fun t192 => (some t192)) = some r := by first | (rw [hy189]; with_reducible exact H) | (have H2_ := (Option.bind_some _ _).symm.trans H; rw [hy189]; with_reducible exact H2_) | (have H2_ := (Option.bind_some _ _).symm.trans H; with_reducible exact H2_) | with_reducible exact H | (rw [hy189]; exact H) | exact H
    have Ny189 := am hy189; clear hy189; replace H := obm H; obtain ⟨t192, A410, H⟩ := H; replace H : (some t192) = some r := H; have A41 := am A410; clear A410; obtain rfl := Option.some.inj H; simp only [Option.some.injEq, Prod.mk.injEq] at H; obtain ⟨rfl⟩ := H; obtain ⟨_, _, _, _, _, _, _, _, _, _⟩ := cells10 BK155.out; obtain ⟨_, _, _, _, _, _, _, _, _, _⟩ := frozens10 BK155.out
    try go_wp2_with (first | ((with_reducible refine gate_dst (N := 49) rfl ?_); refine Kd.R_lit Kd.string _ 9 ?hg (N := 49) ?hd (xs := ([a1_2, a1_3, a1_4] : List ByteArray)) (inner := [.string a1_2, .string a1_3, .string a1_4]) (ok := fun _ => True) (okp := fun _ => True) ?hr ?hp (fun _ hk => hk) trivial (Below.refl _ _) (Nat.le_refl _) (by simp) ?_; (case hd => rfl); (case hg => rfl); (case hr => first | (go_simp; done) | (go_simp; rfl)); (case hp => exact (Reps.one (show Kd.M Kd.string _ _ _ a1_2 [.string a1_2] from rfl) (Reps.one (show Kd.M Kd.string _ _ _ a1_3 [.string a1_3] from rfl) (Reps.one (show Kd.M Kd.string _ _ _ a1_4 [.string a1_4] from rfl) (Reps.none _ _))))); intro v183 w43 ho44 hb hg_ hnew_; clear hg_ hnew_; (first | rw [← Ny182.out] at ho44 | (simp only [Int.reduceToNat] at ho44; rw [← Ny182.out] at ho44)); have _ := am (Kd.R_below (ru HO_0.out) hb); have _ := am (Kd.R_lower ho44 (below_size (beu HB.out))); have _ := am (blk_below (bu BK155.out) hb); have _ := am (below_step (beu HB.out) hb); clear HO_0 BK155 HB; rename_i HO_0 HO184 BK155 HB; clear hb ho44; obtain ⟨Ao45, co45, eo45⟩ := Kd.R_slice HO_0.out; subst eo45; obtain ⟨Ao46, co46, eo46⟩ := Kd.R_slice HO184.out; subst eo46) | ((with_reducible refine gate_callee (f := 33) rfl ?_); refine goesL_ (some 50) rfl rfl Tryd.func33 (by kernel_rfl) rfl #[.slice Ao45 x0_1.length co45, .slice Ao46 y182.length co46] rfl ap1 ?_; (with_reducible refine (packet_Text.calls k1 _ _ x0_1 _ _ y182 t185 _ ?side1 ?side2 ?side3 ?side4 A39.out).mono ?_); (case side1 => exact cu (Kd.R_reads' HO_0.out).2.2); (case side2 => exact (Kd.R_reads' HO_0.out).2.1); (case side3 => exact cu (Kd.R_reads' HO184.out).2.2); (case side4 => exact (Kd.R_reads' HO184.out).2.1); rintro e w47 ⟨v186, rfl, ho0, hb⟩; refine ⟨_, rfl, ?_⟩; have _ := am (Kd.R_elder' (ru HO_0.out) (Kd.R_base ho0) hb); have _ := am (Kd.R_below (ru HO184.out) hb); have _ := am (Kd.R_lower (Kd.R_new' ho0 (Kd.R_lt (ru HO_0.out))) (below_size (beu HB.out))); have _ := am (blk_below (bu BK155.out) hb); have _ := am (below_step (beu HB.out) hb); clear HO_0 HO184 BK155 HB; rename_i HO_0 HO184 HO187 BK155 HB; (try clear hb); (try clear ho0)))
    (try (rw [drewN_self w47]; generalize hq_ : World.drewN w47 _ = w47; have _ := am (show Kd.R _ _ w47 _ _ _ _ from by rw [← hq_]; exact Kd.R_drewN HO_0.out _); have _ := am (show Kd.R _ _ w47 _ _ _ _ from by rw [← hq_]; exact Kd.R_drewN HO184.out _); have _ := am (show Kd.R _ _ w47 _ _ _ _ from by rw [← hq_]; exact Kd.R_drewN HO187.out _); have _ := am (blk_at hq_ BK155.out); have _ := am (below_at hq_ HB.out); clear hq_ HO_0 HO184 HO187 BK155 HB; rename_i HO_0 HO184 HO187 BK155 HB))
    have n0_ := am (Kd.R_drew HO_0.out); have n1_ := am (Kd.R_drew HO184.out); have n2_ := am (Kd.R_drew HO187.out); have n3_ := am (blk_drew BK155.out); have n4_ := am (below_drew1 HB.out); clear HO_0 HO184 HO187 BK155 HB; have HO_0 := n0_; have HO184 := n1_; have HO187 := n2_; have BK155 := n3_; have HB := n4_; clear n0_ n1_ n2_ n3_ n4_
    refine start_ (n := 22) (S := fun w' => w'.cell? ⟨gb155, 0, none⟩ = some (.string a1_0) ∧ w'.cell? ⟨gb155, 1, none⟩ = some (.slice A1_1 l1_1.length c1_1) ∧ w'.cell? ⟨gb155, 2, none⟩ = some (.string a1_2) ∧ w'.cell? ⟨gb155, 3, none⟩ = some (.string a1_3) ∧ w'.cell? ⟨gb155, 4, none⟩ = some (.string a1_4) ∧ w'.cell? ⟨gb155, 5, none⟩ = some (.int .i64 a1_5) ∧ w'.cell? ⟨gb155, 6, none⟩ = some (.int .i64 a1_6) ∧ w'.cell? ⟨gb155, 7, none⟩ = some (.bool a1_7) ∧ w'.cell? ⟨gb155, 8, none⟩ = some (.int .i64 a1_8) ∧ w'.cell? ⟨gb155, 9, none⟩ = some (.int .i64 a1_9)) (ds := []) #[false, false, false, false, false, false, false, false, false, false, false, false, false, false, false, false, false, false, false, false, false, false] (by kernel_rfl) rfl rfl ⟨(blk_cell BK155.out 0).trans rfl, (blk_cell BK155.out 1).trans rfl, (blk_cell BK155.out 2).trans rfl, (blk_cell BK155.out 3).trans rfl, (blk_cell BK155.out 4).trans rfl, (blk_cell BK155.out 5).trans rfl, (blk_cell BK155.out 6).trans rfl, (blk_cell BK155.out 7).trans rfl, (blk_cell BK155.out 8).trans rfl, (blk_cell BK155.out 9).trans rfl⟩ (fun hHeld => ?_); refine with_tabW order_Put.tab8 order_Put.bits8 (fun HT_ HW_ => ?_)
    generalize w47.drew = w48 at HO_0 HO184 HO187 BK155 HB hHeld ⊢; refine pure_ (i := 0) (N := some 51) (v := ?_) (a' := ?_) (bs 22 1) rfl rfl (ak HT_.out) (fun _ _ _ h => h) (Or.inl ⟨by rfl, ?_⟩) ?_ ?_; rotate_left
    ·intro w'
     go_simp
     (with_reducible rfl)
    rotate_left
    ·simp only [Act.put, sA, sB, sC, i64_w, i32_w]
     rfl
    refine pure_ (i := 1) (N := some 52) (v := ?_) (a' := ?_) (bs 22 3) rfl rfl (ak HT_.out) (fun _ _ _ h => h) (Or.inl ⟨by rfl, ?_⟩) ?_ ?_; rotate_left
    ·intro w'
     go_simp
     (with_reducible rfl)
    rotate_left
    ·simp only [Act.put, sA, sB, sC, i64_w, i32_w]
     rfl
    refine pure_ (i := 4) (N := some 55) (v := ?_) (a' := ?_) (bs 22 19) rfl rfl (ak HT_.out) (fun _ _ _ h => h) (Or.inl ⟨by rfl, ?_⟩) ?_ ?_; rotate_left
    ·intro w'
     go_simp
     (with_reducible rfl)
    rotate_left
    ·simp only [Act.put, sA, sB, sC, i64_w, i32_w]
     rfl
    refine pure_ (i := 5) (N := some 56) (v := ?_) (a' := ?_) (bs 22 51) rfl rfl (ak HT_.out) (fun _ _ _ h => h) (Or.inl ⟨by rfl, ?_⟩) ?_ ?_; rotate_left
    ·intro w'
     go_simp
     (with_reducible rfl)
    rotate_left
    ·simp only [Act.put, sA, sB, sC, i64_w, i32_w]
     rfl
    refine pure_ (i := 8) (N := some 59) (v := ?_) (a' := ?_) (bs 22 307) rfl rfl (ak HT_.out) (fun _ _ _ h => h) (Or.inl ⟨by rfl, ?_⟩) ?_ ?_; rotate_left
    ·intro w'
     go_simp
     (with_reducible rfl)
    rotate_left
    ·simp only [Act.put, sA, sB, sC, i64_w, i32_w]
     rfl
    refine pure_ (i := 9) (N := some 60) (v := ?_) (a' := ?_) (bs 22 819) rfl rfl (ak HT_.out) (fun _ _ _ h => h) (Or.inl ⟨by rfl, ?_⟩) ?_ ?_; rotate_left
    ·intro w'
     go_simp
     (with_reducible rfl)
    rotate_left
    ·simp only [Act.put, sA, sB, sC, i64_w, i32_w]
     rfl
    refine pure_ (i := 12) (N := some 63) (v := ?_) (a' := ?_) (bs 22 4915) rfl rfl (ak HT_.out) (fun _ _ _ h => h) (Or.inl ⟨by rfl, ?_⟩) ?_ ?_; rotate_left
    ·intro w'
     go_simp
     (with_reducible rfl)
    rotate_left
    ·simp only [Act.put, sA, sB, sC, i64_w, i32_w]
     rfl
    refine pure_ (i := 13) (N := some 64) (v := ?_) (a' := ?_) (bs 22 13107) rfl rfl (ak HT_.out) (fun _ _ _ h => h) (Or.inl ⟨by rfl, ?_⟩) ?_ ?_; rotate_left
    ·intro w'
     go_simp
     (with_reducible rfl)
    rotate_left
    ·simp only [Act.put, sA, sB, sC, i64_w, i32_w]
     rfl
    refine pure_ (i := 16) (N := some 67) (v := ?_) (a' := ?_) (bs 22 78643) rfl rfl (ak HT_.out) (fun _ _ _ h => h) (Or.inl ⟨by rfl, ?_⟩) ?_ ?_; rotate_left
    ·intro w'
     go_simp
     (with_reducible rfl)
    rotate_left
    ·simp only [Act.put, sA, sB, sC, i64_w, i32_w]
     rfl
    refine take_ (i := 2) (N := some 53) (v := ?_) (a' := ?_) (bs 22 78647) rfl rfl (take_ofW HT_.out HW_.out (by kernel_rfl)) (fun _ _ _ h => h) (Or.inl ⟨by rfl, ?_⟩) hHeld ?_ ?_; rotate_left
    ·rintro w' ⟨s0, s1, s2, s3, s4, s5, s6, s7, s8, s9⟩
     go_simp
     (with_reducible rfl)
    rotate_left
    ·simp only [Act.put, sA, sB, sC, i64_w, i32_w]
     rfl
    refine pure_ (i := 3) (N := some 54) (v := ?_) (a' := ?_) (bs 22 78655) rfl rfl (ak HT_.out) (fun _ _ _ h => h) (Or.inl ⟨by rfl, ?_⟩) ?_ ?_; rotate_left
    ·intro w'
     go_simp
     (with_reducible rfl)
    rotate_left
    ·simp only [Act.put, sA, sB, sC, i64_w, i32_w]
     rfl
    refine take_ (i := 6) (N := some 57) (v := ?_) (a' := ?_) (bs 22 78719) rfl rfl (take_ofW HT_.out HW_.out (by kernel_rfl)) (fun _ _ _ h => h) (Or.inl ⟨by rfl, ?_⟩) hHeld ?_ ?_; rotate_left
    ·rintro w' ⟨s0, s1, s2, s3, s4, s5, s6, s7, s8, s9⟩
     go_simp
     (with_reducible rfl)
    rotate_left
    ·simp only [Act.put, sA, sB, sC, i64_w, i32_w]
     rfl
    refine pure_ (i := 7) (N := some 58) (v := ?_) (a' := ?_) (bs 22 78847) rfl rfl (ak HT_.out) (fun _ _ _ h => h) (Or.inl ⟨by rfl, ?_⟩) ?_ ?_; rotate_left
    ·intro w'
     go_simp
     (with_reducible rfl)
    rotate_left
    ·simp only [Act.put, sA, sB, sC, i64_w, i32_w]
     rfl
    refine take_ (i := 10) (N := some 61) (v := ?_) (a' := ?_) (bs 22 79871) rfl rfl (take_ofW HT_.out HW_.out (by kernel_rfl)) (fun _ _ _ h => h) (Or.inl ⟨by rfl, ?_⟩) hHeld ?_ ?_; rotate_left
    ·rintro w' ⟨s0, s1, s2, s3, s4, s5, s6, s7, s8, s9⟩
     go_simp
     (with_reducible rfl)
    rotate_left
    ·simp only [Act.put, sA, sB, sC, i64_w, i32_w]
     rfl
    refine take_ (i := 14) (N := some 65) (v := ?_) (a' := ?_) (bs 22 96255) rfl rfl (take_ofW HT_.out HW_.out (by kernel_rfl)) (fun _ _ _ h => h) (Or.inl ⟨by rfl, ?_⟩) hHeld ?_ ?_; rotate_left
    ·rintro w' ⟨s0, s1, s2, s3, s4, s5, s6, s7, s8, s9⟩
     go_simp
     (with_reducible rfl)
    rotate_left
    ·simp only [Act.put, sA, sB, sC, i64_w, i32_w]
     rfl
    refine pure_ (i := 15) (N := some 66) (v := ?_) (a' := ?_) (bs 22 129023) rfl rfl (ak HT_.out) (fun _ _ _ h => h) (Or.inl ⟨by rfl, ?_⟩) ?_ ?_; rotate_left
    ·intro w'
     go_simp
     (with_reducible rfl)
    rotate_left
    ·simp only [Act.put, sA, sB, sC, i64_w, i32_w]
     rfl
    refine take_ (i := 17) (N := some 68) (v := ?_) (a' := ?_) (bs 22 260095) rfl rfl (take_ofW HT_.out HW_.out (by kernel_rfl)) (fun _ _ _ h => h) (Or.inl ⟨by rfl, ?_⟩) hHeld ?_ ?_; rotate_left
    ·rintro w' ⟨s0, s1, s2, s3, s4, s5, s6, s7, s8, s9⟩
     go_simp
     (with_reducible rfl)
    rotate_left
    ·simp only [Act.put, sA, sB, sC, i64_w, i32_w]
     rfl
    refine pure_ (i := 18) (N := some 69) (v := ?_) (a' := ?_) (bs 22 522239) rfl rfl (ak HT_.out) (fun _ _ _ h => h) (Or.inl ⟨by rfl, ?_⟩) ?_ ?_; rotate_left
    ·intro w'
     go_simp
     (with_reducible rfl)
    rotate_left
    ·simp only [Act.put, sA, sB, sC, i64_w, i32_w]
     rfl
    refine one_ (i := 11) (N := some 62) (bs 22 524287) rfl rfl (one_of HT_.out (by kernel_rfl)) (by decide) (fun K hK => ?_); refine goes_ Tryd.func34 (by kernel_rfl) rfl #[.bool a1_7] (by rfl) rfl rfl ap1 ?_; (with_reducible refine (order_truth.calls a1_7 t188 _ A40.out).mono ?_); rintro e w' ⟨rfl, ⟨nd, rfl⟩⟩; refine ⟨_, rfl, ?_⟩; refine hK.out _ _ ⟨(blk_cell BK155.out 0).trans rfl, (blk_cell BK155.out 1).trans rfl, (blk_cell BK155.out 2).trans rfl, (blk_cell BK155.out 3).trans rfl, (blk_cell BK155.out 4).trans rfl, (blk_cell BK155.out 5).trans rfl, (blk_cell BK155.out 6).trans rfl, (blk_cell BK155.out 7).trans rfl, (blk_cell BK155.out 8).trans rfl, (blk_cell BK155.out 9).trans rfl⟩ (fun hHeld => ?_); clear hK K; refine norm_ (a' := ?_) ?_ ?_; rotate_left
    ·show Act.put _ (some 62) _ = _
     simp only [Act.put, sA, sB, sC, i64_w, i32_w]
     rfl
    refine one_ (i := 19) (N := some 70) (bs 22 1048575) rfl rfl (one_of HT_.out (by kernel_rfl)) (by decide) (fun K hK => ?_)
    refine Kd.R_lit_step (Kd.int .u64) _ 47 ?hg (N := 70) ?hd (xs := ([IntKind.u64.wrap (a1_5), IntKind.u64.wrap (a1_6), t188, IntKind.u64.wrap (a1_8), IntKind.u64.wrap (a1_9)] : List Int)) (inner := [.int .u64 (IntKind.u64.wrap (a1_5)), .int .u64 (IntKind.u64.wrap (a1_6)), .int .u64 t188, .int .u64 (IntKind.u64.wrap (a1_8)), .int .u64 (IntKind.u64.wrap (a1_9))]) (ok := fun _ => True) (okp := fun _ => True) ?hr ?hp (fun _ hk => hk) trivial (Below.refl _ _) (Nat.le_refl _) (by simp) ?_; (case hd => rfl); (case hg => rfl); (case hr => first | (go_simp; done) | (go_simp; rfl)); (case hp => exact (Reps.one (show Kd.M (Kd.int .u64) _ _ _ (IntKind.u64.wrap (a1_5)) [.int .u64 (IntKind.u64.wrap (a1_5))] from rfl) (Reps.one (show Kd.M (Kd.int .u64) _ _ _ (IntKind.u64.wrap (a1_6)) [.int .u64 (IntKind.u64.wrap (a1_6))] from rfl) (Reps.one (show Kd.M (Kd.int .u64) _ _ _ t188 [.int .u64 t188] from rfl) (Reps.one (show Kd.M (Kd.int .u64) _ _ _ (IntKind.u64.wrap (a1_8)) [.int .u64 (IntKind.u64.wrap (a1_8))] from rfl) (Reps.one (show Kd.M (Kd.int .u64) _ _ _ (IntKind.u64.wrap (a1_9)) [.int .u64 (IntKind.u64.wrap (a1_9))] from rfl) (Reps.none _ _)))))))
    intro v190 w49 ho50 hb hg_ hnew_; clear hg_ hnew_
    (first | rw [← Ny189.out] at ho50 | (simp only [Int.reduceToNat] at ho50; rw [← Ny189.out] at ho50))
    have n0_ := am (Kd.R_below (ru HO_0.out) hb); have n1_ := am (Kd.R_below (ru HO184.out) hb); have n2_ := am (Kd.R_below (ru HO187.out) hb); have n3_ := am (Kd.R_lower ho50 (below_size (beu HB.out))); have n4_ := am (blk_below (bu BK155.out) hb); have n5_ := am (below_step (beu HB.out) hb); clear HO_0 HO184 HO187 BK155 HB; have HO_0 := n0_; have HO184 := n1_; have HO187 := n2_; have HO191 := n3_; have BK155 := n4_; have HB := n5_; clear n0_ n1_ n2_ n3_ n4_ n5_ hb ho50; obtain ⟨Ao51, co51, eo51⟩ := Kd.R_slice HO187.out
    (first | subst eo51 | (injection eo51 with f1_ f2_ f3_; have f4_ := f1_.symm; have f5_ := f3_.symm; clear f1_ f2_ f3_; subst f4_; subst f5_))
    obtain ⟨Ao52, co52, eo52⟩ := Kd.R_slice HO191.out
    (first | subst eo52 | (injection eo52 with f1_ f2_ f3_; have f4_ := f1_.symm; have f5_ := f3_.symm; clear f1_ f2_ f3_; subst f4_; subst f5_))
    refine hK.out _ _ ⟨(blk_cell BK155.out 0).trans rfl, (blk_cell BK155.out 1).trans rfl, (blk_cell BK155.out 2).trans rfl, (blk_cell BK155.out 3).trans rfl, (blk_cell BK155.out 4).trans rfl, (blk_cell BK155.out 5).trans rfl, (blk_cell BK155.out 6).trans rfl, (blk_cell BK155.out 7).trans rfl, (blk_cell BK155.out 8).trans rfl, (blk_cell BK155.out 9).trans rfl⟩ (fun hHeld => ?_); clear hK K; refine norm_ (a' := ?_) ?_ ?_; rotate_left
    ·show Act.put _ (some 70) _ = _
     simp only [Act.put, sA, sB, sC, i64_w, i32_w]
     rfl
    refine one_ (i := 20) (N := some 71) (bs 22 2097151) rfl rfl (one_of HT_.out (by kernel_rfl)) (by decide) (fun K hK => ?_); refine goes_ Tryd.func32 (by kernel_rfl) rfl #[.slice Ao51 t185.length co51, .slice Ao52 y189.length co52] (by rfl) rfl rfl ap1 ?_; (with_reducible refine (packet_Number.calls k1 _ _ t185 _ _ y189 t192 _ ?side1 ?side2 ?side3 ?side4 A41.out).mono ?_)
    (case side1 => exact cu (Kd.R_reads' HO187.out).2.2)
    (case side2 => exact (Kd.R_reads' HO187.out).2.1)
    (case side3 => exact cu (Kd.R_reads' HO191.out).2.2)
    (case side4 => exact (Kd.R_reads' HO191.out).2.1)
    rintro e w53 ⟨v193, rfl, ho0, hb⟩; refine ⟨_, rfl, ?_⟩; have n0_ := am (Kd.R_elder' (ru HO_0.out) (Kd.R_base ho0) hb); have n1_ := am (Kd.R_below (ru HO184.out) hb); have n2_ := am (Kd.R_elder' (ru HO187.out) (Kd.R_base ho0) hb); have n3_ := am (Kd.R_below (ru HO191.out) hb); have n4_ := am (Kd.R_lower (Kd.R_new' (Kd.R_new' ho0 (Kd.R_lt (ru HO_0.out))) (Kd.R_lt (ru HO187.out))) (below_size (beu HB.out))); have n5_ := am (blk_below (bu BK155.out) hb); have n6_ := am (below_step (beu HB.out) hb); clear HO_0 HO184 HO187 HO191 BK155 HB; have HO_0 := n0_; have HO184 := n1_; have HO187 := n2_; have HO191 := n3_; have HO194 := n4_; have BK155 := n5_; have HB := n6_; clear n0_ n1_ n2_ n3_ n4_ n5_ n6_
    (try clear hb)
    (try clear hb2)
    (try clear hk)
    (try clear hi)
    (try clear ho0)
    refine hK.out _ _ ⟨(blk_cell BK155.out 0).trans rfl, (blk_cell BK155.out 1).trans rfl, (blk_cell BK155.out 2).trans rfl, (blk_cell BK155.out 3).trans rfl, (blk_cell BK155.out 4).trans rfl, (blk_cell BK155.out 5).trans rfl, (blk_cell BK155.out 6).trans rfl, (blk_cell BK155.out 7).trans rfl, (blk_cell BK155.out 8).trans rfl, (blk_cell BK155.out 9).trans rfl⟩ (fun hHeld => ?_); clear hK K; refine norm_ (a' := ?_) ?_ ?_; rotate_left
    ·show Act.put _ (some 71) _ = _
     simp only [Act.put, sA, sB, sC, i64_w, i32_w]
     rfl
    refine pure_ (i := 21) (N := some 4) (v := ?_) (a' := ?_) (bs 22 4194303) rfl rfl (ak HT_.out) (fun _ _ _ h => h) (Or.inl ⟨by rfl, ?_⟩) ?_ ?_; rotate_left
    ·intro w'
     go_simp
     (with_reducible rfl)
    rotate_left
    ·simp only [Act.put, sA, sB, sC, i64_w, i32_w]
     rfl
    refine done_ (done_of HT_.out (by kernel_rfl)) ?_
    try go_wp2
    go_ret
    exact ⟨_, ap4, ru (Kd.R_mono HO194.out (fun _ hk => trivial)), beu HB.out⟩
def api_Line.l0 : Nat → List (S52) → List (S52) → Int → Int → Option (Bool)
 | 0, _, _, _, _ => none
 | k + 1, x0, x1, x12, x13 => if x13 < x12 then (if 0 ≤ x13 then (if x13 < (x0.length : Int) then (if x13 < (x1.length : Int) then (if (!((((rd_T52 x0 x13).f0).toList) == (((rd_T52 x1 x13).f0).toList)) || (!(((rd_T52 x0 x13).f1) == ((rd_T52 x1 x13).f1)) || (!(((rd_T52 x0 x13).f2) == ((rd_T52 x1 x13).f2))))) = true then (some false) else (api_Line.l0 k x0 x1 x12 (wrap64 (x13 + 1)))) else (none)) else (none)) else (none)) else (some true)
def api_Line.f (k : Nat) (l0 : List (S52)) (l1 : List (S52)) : Option (Bool) := if (l0.length : Int) = (l1.length : Int) then (api_Line.l0 k l0 l1 (l0.length : Int) 0) else (some false)
theorem api_Line.mono_l : ∀ k, (∀ y0 y1 y2 y3, LeO (api_Line.l0 k y0 y1 y2 y3) (api_Line.l0 (k + 1) y0 y1 y2 y3))
 | 0 => fun _ _ _ _ r h => by simp [api_Line.l0] at h
 | k + 1 => by
  have ih0 := api_Line.mono_l k
  ·intro y0 y1 y2 y3
   unfold api_Line.l0
   repeat' first
   | (with_reducible exact ih0 _ _ _ _)
   | (with_reducible exact LeO.refl _)
   | (with_reducible exact LeO.none _)
   | (with_reducible refine LeO.ite ?_ ?_)
   | (with_reducible refine LeO.bind ?_ (fun _ => ?_))
   | exact ih0 _ _ _ _
   | exact LeO.none _
   | refine LeO.ite ?_ ?_
   | refine LeO.bind ?_ (fun _ => ?_)
theorem api_Line.mono : ∀ a0 a1 k, LeO (api_Line.f k a0 a1) (api_Line.f (k + 1) a0 a1) := by
 intro a0 a1 k; have ih0 := api_Line.mono_l k
 unfold api_Line.f
 repeat' first
   | (with_reducible exact ih0 _ _ _ _)
   | (with_reducible exact LeO.refl _)
   | (with_reducible exact LeO.none _)
   | (with_reducible refine LeO.ite ?_ ?_)
   | (with_reducible refine LeO.bind ?_ (fun _ => ?_))
   | exact ih0 _ _ _ _
   | exact LeO.none _
   | refine LeO.ite ?_ ?_
   | refine LeO.bind ?_ (fun _ => ?_)
set_option maxHeartbeats 8000000 in
set_option maxRecDepth 100000 in
theorem api_Line.calls (k : Nat) (A0 : Option Addr) (c0 : Nat) (l0 : List (S52)) (A1 : Option Addr) (c1 : Nat) (l1 : List (S52)) (r : Bool) (w : World) (hr0 : Kd.C k52 w A0 l0.length l0) (hc0 : l0.length ≤ c0) (hr1 : Kd.C k52 w A1 l1.length l1) (hc1 : l1.length ≤ c1) (h : api_Line.f k l0 l1 = some r) :
  Calls Tryd.prog 35 #[.slice A0 l0.length c0, .slice A1 l1.length c1] w fun e w' => e = .returned (.bool r) ∧ Drawn0 w w' := by
 have hu52 := Tryd.underlying52; have HR0 := am hr0; have HC0 := am hc0; clear hr0 hc0; have HR1 := am hr1; have HC1 := am hc1; clear hr1 hc1; have H : (if (l0.length : Int) = (l1.length : Int) then (api_Line.l0 k l0 l1 (l0.length : Int) 0) else (some false)) = some r := h; clear h
 by_cases c3 : (l0.length : Int) = (l1.length : Int)
 ·rw [if_pos c3] at H
  have c3b0 : ((l0.length : Int) == (l1.length : Int)) = true := beq_iff_eq.mpr c3; have c3b1 : ((l0.length : Int) != (l1.length : Int)) = false := bne_eq_false_iff_eq.mpr c3
  have c3b2 : (l0.length == l1.length) = true := by first | simpa using c3 | (simp at c3 ⊢; omega)
  clear c3; have H' := am H; clear H
  go_enter Tryd.func35, Tryd.ntmps35
  go_wp2
  repeat (go_quiet (fail); try go_wp2)
  go_loopg [13] k (fun kq v13 w' => ∃ (x13_1 : Int), v13 = .int .i64 x13_1 ∧ Aside0 (api_Line.l0 kq l0 l1 (l0.length : Int) x13_1 = some r) ∧ Aside0 (kq ≤ k) ∧ Drawn0 w w')
  case atStart => exact ⟨(0), ap3, H', ⟨Nat.le_refl _⟩, ap5⟩
  case round =>
   clear H'; (try clear c1); (try clear p2); (try clear c3); (try clear c3b0); (try clear c3b1); (try clear c3b2); obtain ⟨x13_1, rfl, HA, HK1, ⟨m1, rfl⟩⟩ := hrel
   cases gk with
   | zero => exact absurd HA.out (by simp [api_Line.l0])
   | succ k1 =>
    have H := HA.out; clear HA; simp only [api_Line.l0] at H
    by_cases c4 : x13_1 < (l0.length : Int)
    ·rw [if_pos c4] at H
     have c4b0 : decide (x13_1 < (l0.length : Int)) = true := decide_eq_true c4; clear c4
     by_cases c5 : 0 ≤ x13_1
     ·rw [if_pos c5] at H
      have c5b0 : decide (0 ≤ x13_1) = true := decide_eq_true c5; clear c5
      by_cases c6 : x13_1 < (l0.length : Int)
      ·rw [if_pos c6] at H
       have c6b0 : decide (x13_1 < (l0.length : Int)) = true := decide_eq_true c6; clear c6
       by_cases c7 : x13_1 < (l1.length : Int)
       ·rw [if_pos c7] at H
        have c7b0 : decide (x13_1 < (l1.length : Int)) = true := decide_eq_true c7; clear c7
        by_cases c8 : (!((((rd_T52 l0 x13_1).f0).toList) == (((rd_T52 l1 x13_1).f0).toList)) || (!(((rd_T52 l0 x13_1).f1) == ((rd_T52 l1 x13_1).f1)) || (!(((rd_T52 l0 x13_1).f2) == ((rd_T52 l1 x13_1).f2))))) = true
        ·rw [if_pos c8] at H
         have c8b0 : (!((((rd_T52 l0 x13_1).f0).toList) == (((rd_T52 l1 x13_1).f0).toList)) || (!(((rd_T52 l0 x13_1).f1) == ((rd_T52 l1 x13_1).f1)) || (!(((rd_T52 l0 x13_1).f2) == ((rd_T52 l1 x13_1).f2))))) = true := c8; clear c8; obtain rfl := Option.some.inj H; simp only [Option.some.injEq, Prod.mk.injEq] at H; obtain ⟨rfl⟩ := H; have p195 : 0 ≤ (x13_1 : Int) := of_decide_eq_true ap2; have q195 : x13_1 < (l0.length : Int) := of_decide_eq_true ap2; obtain ⟨ad195, e195, hx195_0, hx195_1, hx195_2⟩ := at_T52 HR0.out x13_1 p195 q195
         cases e195
         replace p195 := eq_true p195; replace q195 := eq_true q195; have p196 : 0 ≤ (x13_1 : Int) := of_decide_eq_true ap2; have q196 : x13_1 < (l1.length : Int) := of_decide_eq_true ap2; obtain ⟨ad196, e196, hx196_0, hx196_1, hx196_2⟩ := at_T52 HR1.out x13_1 p196 q196
         cases e196
         replace p196 := eq_true p196; replace q196 := eq_true q196
         go_wp2
         repeat (go_quiet (fail); try go_wp2)
         go_ret
         exact ⟨ap3, ap5⟩
        ·rw [if_neg c8] at H
         have c8b0 : (!((((rd_T52 l0 x13_1).f0).toList) == (((rd_T52 l1 x13_1).f0).toList)) || (!(((rd_T52 l0 x13_1).f1) == ((rd_T52 l1 x13_1).f1)) || (!(((rd_T52 l0 x13_1).f2) == ((rd_T52 l1 x13_1).f2))))) = false := by simpa using c8
         clear c8; have H' := am H; clear H; have p195 : 0 ≤ (x13_1 : Int) := of_decide_eq_true ap2; have q195 : x13_1 < (l0.length : Int) := of_decide_eq_true ap2; obtain ⟨ad195, e195, hx195_0, hx195_1, hx195_2⟩ := at_T52 HR0.out x13_1 p195 q195
         cases e195
         replace p195 := eq_true p195; replace q195 := eq_true q195; have p196 : 0 ≤ (x13_1 : Int) := of_decide_eq_true ap2; have q196 : x13_1 < (l1.length : Int) := of_decide_eq_true ap2; obtain ⟨ad196, e196, hx196_0, hx196_1, hx196_2⟩ := at_T52 HR1.out x13_1 p196 q196
         cases e196
         replace p196 := eq_true p196; replace q196 := eq_true q196
         go_wp2
         repeat (go_quiet (fail); try go_wp2)
         go_roundg k1
         case measure => have := HK1.out; omega
         case rel => exact ⟨(wrap64 (x13_1 + 1)), ap3, H', ⟨by have := HK1.out; omega⟩, ap5⟩
       ·rw [if_neg c7] at H
        exact absurd H (by simp)
      ·rw [if_neg c6] at H
       exact absurd H (by simp)
     ·rw [if_neg c5] at H
      exact absurd H (by simp)
    ·rw [if_neg c4] at H
     have c4b0 : decide (x13_1 < (l0.length : Int)) = false := decide_eq_false c4; clear c4; obtain rfl := Option.some.inj H; simp only [Option.some.injEq, Prod.mk.injEq] at H; obtain ⟨rfl⟩ := H
     go_wp2
     repeat (go_quiet (fail); try go_wp2)
     go_ret
     exact ⟨ap3, ap5⟩
 ·rw [if_neg c3] at H
  have c3b0 : ((l0.length : Int) == (l1.length : Int)) = false := beq_eq_false_iff_ne.mpr c3; have c3b1 : ((l0.length : Int) != (l1.length : Int)) = true := bne_iff_ne.mpr c3
  have c3b2 : (l0.length == l1.length) = false := by first | simpa using c3 | (simp at c3 ⊢; omega)
  obtain rfl := Option.some.inj H; simp only [Option.some.injEq, Prod.mk.injEq] at H; obtain ⟨rfl⟩ := H
  go_enter Tryd.func35, Tryd.ntmps35
  go_wp2
  repeat (go_quiet (fail); try go_wp2)
  go_ret
  exact ⟨ap3, ap5⟩
def order_Same.f (k : Nat) (a0_0 : ByteArray) (l0_1 : List (S52)) (a0_2 : ByteArray) (a0_3 : ByteArray) (a0_4 : ByteArray) (a0_5 : Int) (a0_6 : Int) (a0_7 : Bool) (a0_8 : Int) (a0_9 : Int) (a1_0 : ByteArray) (l1_1 : List (S52)) (a1_2 : ByteArray) (a1_3 : ByteArray) (a1_4 : ByteArray) (a1_5 : Int) (a1_6 : Int) (a1_7 : Bool) (a1_8 : Int) (a1_9 : Int) : Option (Bool) := if a0_0.toList = a1_0.toList then ((api_Line.f k l0_1 l1_1).bind fun t199 => (if t199 = true then (if (a0_2.toList == a1_2.toList && (a0_3.toList == a1_3.toList && (a0_4.toList == a1_4.toList))) = true then (if a0_5 = a1_5 then (if (a0_6 == a1_6 && (a0_7 == a1_7 && (a0_8 == a1_8))) = true then (some (a0_9 == a1_9)) else (some false)) else (some false)) else (some false)) else (some false))) else (some false)
theorem order_Same.mono : ∀ a0 a1 a2 a3 a4 a5 a6 a7 a8 a9 a10 a11 a12 a13 a14 a15 a16 a17 a18 a19 k, LeO (order_Same.f k a0 a1 a2 a3 a4 a5 a6 a7 a8 a9 a10 a11 a12 a13 a14 a15 a16 a17 a18 a19) (order_Same.f (k + 1) a0 a1 a2 a3 a4 a5 a6 a7 a8 a9 a10 a11 a12 a13 a14 a15 a16 a17 a18 a19) := by
 intro a0 a1 a2 a3 a4 a5 a6 a7 a8 a9 a10 a11 a12 a13 a14 a15 a16 a17 a18 a19 k
 unfold order_Same.f
 repeat' first
   | (with_reducible exact api_Line.mono _ _ _)
   | (with_reducible exact LeO.refl _)
   | (with_reducible exact LeO.none _)
   | (with_reducible refine LeO.ite ?_ ?_)
   | (with_reducible refine LeO.bind ?_ (fun _ => ?_))
   | exact api_Line.mono _ _ _
   | exact LeO.none _
   | refine LeO.ite ?_ ?_
   | refine LeO.bind ?_ (fun _ => ?_)
set_option maxHeartbeats 8000000 in
set_option maxRecDepth 100000 in
theorem order_Same.calls (k : Nat) (a0_0 : ByteArray) (A0_1 : Option Addr) (c0_1 : Nat) (l0_1 : List (S52)) (a0_2 : ByteArray) (a0_3 : ByteArray) (a0_4 : ByteArray) (a0_5 : Int) (a0_6 : Int) (a0_7 : Bool) (a0_8 : Int) (a0_9 : Int) (a1_0 : ByteArray) (A1_1 : Option Addr) (c1_1 : Nat) (l1_1 : List (S52)) (a1_2 : ByteArray) (a1_3 : ByteArray) (a1_4 : ByteArray) (a1_5 : Int) (a1_6 : Int) (a1_7 : Bool) (a1_8 : Int) (a1_9 : Int) (r : Bool) (w : World) (hr0_1 : Kd.C k52 w A0_1 l0_1.length l0_1) (hc0_1 : l0_1.length ≤ c0_1) (hr1_1 : Kd.C k52 w A1_1 l1_1.length l1_1) (hc1_1 : l1_1.length ≤ c1_1) (h : order_Same.f k a0_0 l0_1 a0_2 a0_3 a0_4 a0_5 a0_6 a0_7 a0_8 a0_9 a1_0 l1_1 a1_2 a1_3 a1_4 a1_5 a1_6 a1_7 a1_8 a1_9 = some r) :
  Calls Tryd.prog 12 #[.agg #[.string a0_0, .slice A0_1 l0_1.length c0_1, .string a0_2, .string a0_3, .string a0_4, .int .i64 a0_5, .int .i64 a0_6, .bool a0_7, .int .i64 a0_8, .int .i64 a0_9], .agg #[.string a1_0, .slice A1_1 l1_1.length c1_1, .string a1_2, .string a1_3, .string a1_4, .int .i64 a1_5, .int .i64 a1_6, .bool a1_7, .int .i64 a1_8, .int .i64 a1_9]] w fun e w' => e = .returned (.bool r) ∧ Below w.heap.size w w' := by
 have hu28 := Tryd.underlying28; have hu24 := Tryd.underlying24; have hu26 := Tryd.underlying26; have HR0_1 := am hr0_1; have HC0_1 := am hc0_1; clear hr0_1 hc0_1; have HR1_1 := am hr1_1; have HC1_1 := am hc1_1; clear hr1_1 hc1_1; have HB := am (Below.refl w.heap.size w); have H : (if a0_0.toList = a1_0.toList then ((api_Line.f k l0_1 l1_1).bind fun t199 => (if t199 = true then (if (a0_2.toList == a1_2.toList && (a0_3.toList == a1_3.toList && (a0_4.toList == a1_4.toList))) = true then (if a0_5 = a1_5 then (if (a0_6 == a1_6 && (a0_7 == a1_7 && (a0_8 == a1_8))) = true then (some (a0_9 == a1_9)) else (some false)) else (some false)) else (some false)) else (some false))) else (some false)) = some r := h; clear h
 by_cases c3 : a0_0.toList = a1_0.toList
 ·rw [if_pos c3] at H
  have c3b0 : (a0_0.toList == a1_0.toList) = true := beq_iff_eq.mpr c3; have c3b1 : (a0_0.toList != a1_0.toList) = false := bne_eq_false_iff_eq.mpr c3; clear c3; replace H := obm H; obtain ⟨t199, A40, H⟩ := H; replace H : (if t199 = true then (if (a0_2.toList == a1_2.toList && (a0_3.toList == a1_3.toList && (a0_4.toList == a1_4.toList))) = true then (if a0_5 = a1_5 then (if (a0_6 == a1_6 && (a0_7 == a1_7 && (a0_8 == a1_8))) = true then (some (a0_9 == a1_9)) else (some false)) else (some false)) else (some false)) else (some false)) = some r := H; have A4 := am A40; clear A40
  by_cases c5 : t199 = true
  ·subst c5
   have H1 : (if (a0_2.toList == a1_2.toList && (a0_3.toList == a1_3.toList && (a0_4.toList == a1_4.toList))) = true then (if a0_5 = a1_5 then (if (a0_6 == a1_6 && (a0_7 == a1_7 && (a0_8 == a1_8))) = true then (some (a0_9 == a1_9)) else (some false)) else (some false)) else (some false)) = some r := by rw [if_pos rfl] at H; exact H
   clear H; have H := H1; clear H1
   by_cases c6 : (a0_2.toList == a1_2.toList && (a0_3.toList == a1_3.toList && (a0_4.toList == a1_4.toList))) = true
   ·rw [if_pos c6] at H
    have c6b0 : (a0_2.toList == a1_2.toList && (a0_3.toList == a1_3.toList && (a0_4.toList == a1_4.toList))) = true := c6
    (try (have c6b1 : decide (a0_2.toList = a1_2.toList && (a0_3.toList == a1_3.toList && (a0_4.toList == a1_4.toList))) = true := by simpa using c6))
    (try (have c6b2 : (a0_2.toList == a1_2.toList && (a0_3.toList == a1_3.toList && (a0_4.toList == a1_4.toList))) = true := by simpa using c6))
    clear c6
    by_cases c7 : a0_5 = a1_5
    ·rw [if_pos c7] at H
     have c7b0 : (a0_5 == a1_5) = true := beq_iff_eq.mpr c7; have c7b1 : (a0_5 != a1_5) = false := bne_eq_false_iff_eq.mpr c7; clear c7
     by_cases c8 : (a0_6 == a1_6 && (a0_7 == a1_7 && (a0_8 == a1_8))) = true
     ·rw [if_pos c8] at H
      have c8b0 : (a0_6 == a1_6 && (a0_7 == a1_7 && (a0_8 == a1_8))) = true := c8
      (try (have c8b1 : decide (a0_6 = a1_6 && (a0_7 == a1_7 && (a0_8 == a1_8))) = true := by simpa using c8))
      (try (have c8b2 : (a0_6 == a1_6 && (a0_7 == a1_7 && (a0_8 == a1_8))) = true := by simpa using c8))
      clear c8; obtain rfl := Option.some.inj H; simp only [Option.some.injEq, Prod.mk.injEq] at H; obtain ⟨rfl⟩ := H
      go_enter Tryd.func12, Tryd.ntmps12
      go_wp2_with (first | ((with_reducible refine gate_dst (N := 2) rfl ?_); refine box_event ?hg (N := 2) ?hd (cs := #[.string a0_0, .slice A0_1 l0_1.length c0_1, .string a0_2, .string a0_3, .string a0_4, .int .i64 a0_5, .int .i64 a0_6, .bool a0_7, .int .i64 a0_8, .int .i64 a0_9]) (t := 28) ?hr ?_; (case hd => rfl); (case hg => rfl); (case hr => first | (go_simp; done) | (go_simp; rfl)); intro gb197 hg w9 hbox hb; have _ := am (below_step (beu HB.out) hb); have _ := am (hbox); have _ := am ((by rw [hg]; exact (below_size (beu HB.out)) : w.heap.size ≤ gb197)); have _ := am ((by rw [hg]; exact (below_size (beu HB.out)) : w.heap.size ≤ gb197)); clear HB; rename_i HB BK197 GW197 GE197; clear hb hbox hg) | ((with_reducible refine gate_dst (N := 3) rfl ?_); refine box_event ?hg (N := 3) ?hd (cs := #[.string a1_0, .slice A1_1 l1_1.length c1_1, .string a1_2, .string a1_3, .string a1_4, .int .i64 a1_5, .int .i64 a1_6, .bool a1_7, .int .i64 a1_8, .int .i64 a1_9]) (t := 28) ?hr ?_; (case hd => rfl); (case hg => rfl); (case hr => first | (go_simp; done) | (go_simp; rfl)); intro gb198 hg w10 hbox hb; have _ := am (blk_below (bu BK197.out) hb); have _ := am (below_step (beu HB.out) hb); have _ := am (hbox); have _ := am ((by rw [hg]; exact (below_size (beu HB.out)) : w.heap.size ≤ gb198)); have _ := am ((by rw [hg]; exact (below_size (beu HB.out)) : w.heap.size ≤ gb198)); have _ := am (nb1 hg BK197.out : gb197 ≠ gb198); have _ := am (nb2 hg BK197.out : gb198 ≠ gb197); clear BK197 HB; rename_i BK197 HB BK198 GW198 GE198 NB197_198 NB198_197; clear hb hbox hg; have := NB197_198.out; have := NB198_197.out; obtain ⟨_, _, _, _, _, _, _, _, _, _⟩ := cells10 BK197.out; obtain ⟨_, _, _, _, _, _, _, _, _, _⟩ := frozens10 BK197.out; obtain ⟨_, _, _, _, _, _, _, _, _, _⟩ := cells10 BK198.out; obtain ⟨_, _, _, _, _, _, _, _, _, _⟩ := frozens10 BK198.out) | (go_at_call 35; (with_reducible refine (api_Line.calls k _ _ l0_1 _ _ l1_1 true _ ?side1 ?side2 ?side3 ?side4 A4.out).mono ?_); (case side1 => exact cu (Kd.C_below HR0_1.out HB.out)); (case side2 => exact HC0_1.out); (case side3 => exact cu (Kd.C_below HR1_1.out HB.out)); (case side4 => exact HC1_1.out); rintro e w' ⟨rfl, ⟨nd, rfl⟩⟩))
      go_ret
      exact ⟨ap4, beu HB.out⟩
     ·rw [if_neg c8] at H
      have c8b0 : (a0_6 == a1_6 && (a0_7 == a1_7 && (a0_8 == a1_8))) = false := by simpa using c8
      (try (have c8b1 : decide (a0_6 = a1_6 && (a0_7 == a1_7 && (a0_8 == a1_8))) = false := by simpa using c8))
      (try (have c8b2 : (a0_6 == a1_6 && (a0_7 == a1_7 && (a0_8 == a1_8))) = false := by simpa using c8))
      (try (have c8b3 : ¬ (a0_6 = a1_6 && (a0_7 == a1_7 && (a0_8 == a1_8))) := by simpa using c8))
      clear c8; obtain rfl := Option.some.inj H; simp only [Option.some.injEq, Prod.mk.injEq] at H; obtain ⟨rfl⟩ := H
      go_enter Tryd.func12, Tryd.ntmps12
      go_wp2_with (first | ((with_reducible refine gate_dst (N := 2) rfl ?_); refine box_event ?hg (N := 2) ?hd (cs := #[.string a0_0, .slice A0_1 l0_1.length c0_1, .string a0_2, .string a0_3, .string a0_4, .int .i64 a0_5, .int .i64 a0_6, .bool a0_7, .int .i64 a0_8, .int .i64 a0_9]) (t := 28) ?hr ?_; (case hd => rfl); (case hg => rfl); (case hr => first | (go_simp; done) | (go_simp; rfl)); intro gb197 hg w14 hbox hb; have _ := am (below_step (beu HB.out) hb); have _ := am (hbox); have _ := am ((by rw [hg]; exact (below_size (beu HB.out)) : w.heap.size ≤ gb197)); have _ := am ((by rw [hg]; exact (below_size (beu HB.out)) : w.heap.size ≤ gb197)); clear HB; rename_i HB BK197 GW197 GE197; clear hb hbox hg) | ((with_reducible refine gate_dst (N := 3) rfl ?_); refine box_event ?hg (N := 3) ?hd (cs := #[.string a1_0, .slice A1_1 l1_1.length c1_1, .string a1_2, .string a1_3, .string a1_4, .int .i64 a1_5, .int .i64 a1_6, .bool a1_7, .int .i64 a1_8, .int .i64 a1_9]) (t := 28) ?hr ?_; (case hd => rfl); (case hg => rfl); (case hr => first | (go_simp; done) | (go_simp; rfl)); intro gb198 hg w15 hbox hb; have _ := am (blk_below (bu BK197.out) hb); have _ := am (below_step (beu HB.out) hb); have _ := am (hbox); have _ := am ((by rw [hg]; exact (below_size (beu HB.out)) : w.heap.size ≤ gb198)); have _ := am ((by rw [hg]; exact (below_size (beu HB.out)) : w.heap.size ≤ gb198)); have _ := am (nb1 hg BK197.out : gb197 ≠ gb198); have _ := am (nb2 hg BK197.out : gb198 ≠ gb197); clear BK197 HB; rename_i BK197 HB BK198 GW198 GE198 NB197_198 NB198_197; clear hb hbox hg; have := NB197_198.out; have := NB198_197.out; obtain ⟨hcz17_0, hcz17_1, hcz17_2, hcz17_3, hcz17_4, hcz17_5, hcz17_6, hcz17_7, hcz17_8, hcz17_9⟩ := cells10 BK197.out; obtain ⟨hfz17_0, hfz17_1, hfz17_2, hfz17_3, hfz17_4, hfz17_5, hfz17_6, hfz17_7, hfz17_8, hfz17_9⟩ := frozens10 BK197.out; obtain ⟨_, _, _, _, _, _, _, _, _, _⟩ := cells10 BK198.out; obtain ⟨_, _, _, _, _, _, _, _, _, _⟩ := frozens10 BK198.out) | (go_at_call 35; (with_reducible refine (api_Line.calls k _ _ l0_1 _ _ l1_1 true _ ?side1 ?side2 ?side3 ?side4 A4.out).mono ?_); (case side1 => exact cu (Kd.C_below HR0_1.out HB.out)); (case side2 => exact HC0_1.out); (case side3 => exact cu (Kd.C_below HR1_1.out HB.out)); (case side4 => exact HC1_1.out); rintro e w' ⟨rfl, ⟨nd, rfl⟩⟩))
      go_ret
      exact ⟨ap4, beu HB.out⟩
    ·rw [if_neg c7] at H
     have c7b0 : (a0_5 == a1_5) = false := beq_eq_false_iff_ne.mpr c7; have c7b1 : (a0_5 != a1_5) = true := bne_iff_ne.mpr c7; obtain rfl := Option.some.inj H; simp only [Option.some.injEq, Prod.mk.injEq] at H; obtain ⟨rfl⟩ := H
     go_enter Tryd.func12, Tryd.ntmps12
     go_wp2_with (first | ((with_reducible refine gate_dst (N := 2) rfl ?_); refine box_event ?hg (N := 2) ?hd (cs := #[.string a0_0, .slice A0_1 l0_1.length c0_1, .string a0_2, .string a0_3, .string a0_4, .int .i64 a0_5, .int .i64 a0_6, .bool a0_7, .int .i64 a0_8, .int .i64 a0_9]) (t := 28) ?hr ?_; (case hd => rfl); (case hg => rfl); (case hr => first | (go_simp; done) | (go_simp; rfl)); intro gb197 hg w19 hbox hb; have _ := am (below_step (beu HB.out) hb); have _ := am (hbox); have _ := am ((by rw [hg]; exact (below_size (beu HB.out)) : w.heap.size ≤ gb197)); have _ := am ((by rw [hg]; exact (below_size (beu HB.out)) : w.heap.size ≤ gb197)); clear HB; rename_i HB BK197 GW197 GE197; clear hb hbox hg) | ((with_reducible refine gate_dst (N := 3) rfl ?_); refine box_event ?hg (N := 3) ?hd (cs := #[.string a1_0, .slice A1_1 l1_1.length c1_1, .string a1_2, .string a1_3, .string a1_4, .int .i64 a1_5, .int .i64 a1_6, .bool a1_7, .int .i64 a1_8, .int .i64 a1_9]) (t := 28) ?hr ?_; (case hd => rfl); (case hg => rfl); (case hr => first | (go_simp; done) | (go_simp; rfl)); intro gb198 hg w20 hbox hb; have _ := am (blk_below (bu BK197.out) hb); have _ := am (below_step (beu HB.out) hb); have _ := am (hbox); have _ := am ((by rw [hg]; exact (below_size (beu HB.out)) : w.heap.size ≤ gb198)); have _ := am ((by rw [hg]; exact (below_size (beu HB.out)) : w.heap.size ≤ gb198)); have _ := am (nb1 hg BK197.out : gb197 ≠ gb198); have _ := am (nb2 hg BK197.out : gb198 ≠ gb197); clear BK197 HB; rename_i BK197 HB BK198 GW198 GE198 NB197_198 NB198_197; clear hb hbox hg; have := NB197_198.out; have := NB198_197.out; obtain ⟨_, _, _, _, _, _, _, _, _, _⟩ := cells10 BK197.out; obtain ⟨_, _, _, _, _, _, _, _, _, _⟩ := frozens10 BK197.out; obtain ⟨_, _, _, _, _, _, _, _, _, _⟩ := cells10 BK198.out; obtain ⟨_, _, _, _, _, _, _, _, _, _⟩ := frozens10 BK198.out) | (go_at_call 35; (with_reducible refine (api_Line.calls k _ _ l0_1 _ _ l1_1 true _ ?side1 ?side2 ?side3 ?side4 A4.out).mono ?_); (case side1 => exact cu (Kd.C_below HR0_1.out HB.out)); (case side2 => exact HC0_1.out); (case side3 => exact cu (Kd.C_below HR1_1.out HB.out)); (case side4 => exact HC1_1.out); rintro e w' ⟨rfl, ⟨nd, rfl⟩⟩))
     go_ret
     exact ⟨ap4, beu HB.out⟩
   ·rw [if_neg c6] at H
    have c6b0 : (a0_2.toList == a1_2.toList && (a0_3.toList == a1_3.toList && (a0_4.toList == a1_4.toList))) = false := by simpa using c6
    (try (have c6b1 : decide (a0_2.toList = a1_2.toList && (a0_3.toList == a1_3.toList && (a0_4.toList == a1_4.toList))) = false := by simpa using c6))
    (try (have c6b2 : (a0_2.toList == a1_2.toList && (a0_3.toList == a1_3.toList && (a0_4.toList == a1_4.toList))) = false := by simpa using c6))
    (try (have c6b3 : ¬ (a0_2.toList = a1_2.toList && (a0_3.toList == a1_3.toList && (a0_4.toList == a1_4.toList))) := by simpa using c6))
    clear c6; obtain rfl := Option.some.inj H; simp only [Option.some.injEq, Prod.mk.injEq] at H; obtain ⟨rfl⟩ := H
    go_enter Tryd.func12, Tryd.ntmps12
    go_wp2_with (first | ((with_reducible refine gate_dst (N := 2) rfl ?_); refine box_event ?hg (N := 2) ?hd (cs := #[.string a0_0, .slice A0_1 l0_1.length c0_1, .string a0_2, .string a0_3, .string a0_4, .int .i64 a0_5, .int .i64 a0_6, .bool a0_7, .int .i64 a0_8, .int .i64 a0_9]) (t := 28) ?hr ?_; (case hd => rfl); (case hg => rfl); (case hr => first | (go_simp; done) | (go_simp; rfl)); intro gb197 hg w24 hbox hb; have _ := am (below_step (beu HB.out) hb); have _ := am (hbox); have _ := am ((by rw [hg]; exact (below_size (beu HB.out)) : w.heap.size ≤ gb197)); have _ := am ((by rw [hg]; exact (below_size (beu HB.out)) : w.heap.size ≤ gb197)); clear HB; rename_i HB BK197 GW197 GE197; clear hb hbox hg) | ((with_reducible refine gate_dst (N := 3) rfl ?_); refine box_event ?hg (N := 3) ?hd (cs := #[.string a1_0, .slice A1_1 l1_1.length c1_1, .string a1_2, .string a1_3, .string a1_4, .int .i64 a1_5, .int .i64 a1_6, .bool a1_7, .int .i64 a1_8, .int .i64 a1_9]) (t := 28) ?hr ?_; (case hd => rfl); (case hg => rfl); (case hr => first | (go_simp; done) | (go_simp; rfl)); intro gb198 hg w25 hbox hb; have _ := am (blk_below (bu BK197.out) hb); have _ := am (below_step (beu HB.out) hb); have _ := am (hbox); have _ := am ((by rw [hg]; exact (below_size (beu HB.out)) : w.heap.size ≤ gb198)); have _ := am ((by rw [hg]; exact (below_size (beu HB.out)) : w.heap.size ≤ gb198)); have _ := am (nb1 hg BK197.out : gb197 ≠ gb198); have _ := am (nb2 hg BK197.out : gb198 ≠ gb197); clear BK197 HB; rename_i BK197 HB BK198 GW198 GE198 NB197_198 NB198_197; clear hb hbox hg; have := NB197_198.out; have := NB198_197.out; obtain ⟨_, _, _, _, _, _, _, _, _, _⟩ := cells10 BK197.out; obtain ⟨_, _, _, _, _, _, _, _, _, _⟩ := frozens10 BK197.out; obtain ⟨_, _, _, _, _, _, _, _, _, _⟩ := cells10 BK198.out; obtain ⟨_, _, _, _, _, _, _, _, _, _⟩ := frozens10 BK198.out) | (go_at_call 35; (with_reducible refine (api_Line.calls k _ _ l0_1 _ _ l1_1 true _ ?side1 ?side2 ?side3 ?side4 A4.out).mono ?_); (case side1 => exact cu (Kd.C_below HR0_1.out HB.out)); (case side2 => exact HC0_1.out); (case side3 => exact cu (Kd.C_below HR1_1.out HB.out)); (case side4 => exact HC1_1.out); rintro e w' ⟨rfl, ⟨nd, rfl⟩⟩))
    go_ret
    exact ⟨ap4, beu HB.out⟩
  ·replace c5 := Bool.eq_false_iff.mpr c5
   subst c5
   have H1 : (some false) = some r := by rw [if_neg (show ¬ (false = true) by decide)] at H; exact H
   clear H; have H := H1; clear H1; obtain rfl := Option.some.inj H; simp only [Option.some.injEq, Prod.mk.injEq] at H; obtain ⟨rfl⟩ := H
   go_enter Tryd.func12, Tryd.ntmps12
   go_wp2_with (first | ((with_reducible refine gate_dst (N := 2) rfl ?_); refine box_event ?hg (N := 2) ?hd (cs := #[.string a0_0, .slice A0_1 l0_1.length c0_1, .string a0_2, .string a0_3, .string a0_4, .int .i64 a0_5, .int .i64 a0_6, .bool a0_7, .int .i64 a0_8, .int .i64 a0_9]) (t := 28) ?hr ?_; (case hd => rfl); (case hg => rfl); (case hr => first | (go_simp; done) | (go_simp; rfl)); intro gb197 hg w29 hbox hb; have _ := am (below_step (beu HB.out) hb); have _ := am (hbox); have _ := am ((by rw [hg]; exact (below_size (beu HB.out)) : w.heap.size ≤ gb197)); have _ := am ((by rw [hg]; exact (below_size (beu HB.out)) : w.heap.size ≤ gb197)); clear HB; rename_i HB BK197 GW197 GE197; clear hb hbox hg) | ((with_reducible refine gate_dst (N := 3) rfl ?_); refine box_event ?hg (N := 3) ?hd (cs := #[.string a1_0, .slice A1_1 l1_1.length c1_1, .string a1_2, .string a1_3, .string a1_4, .int .i64 a1_5, .int .i64 a1_6, .bool a1_7, .int .i64 a1_8, .int .i64 a1_9]) (t := 28) ?hr ?_; (case hd => rfl); (case hg => rfl); (case hr => first | (go_simp; done) | (go_simp; rfl)); intro gb198 hg w30 hbox hb; have _ := am (blk_below (bu BK197.out) hb); have _ := am (below_step (beu HB.out) hb); have _ := am (hbox); have _ := am ((by rw [hg]; exact (below_size (beu HB.out)) : w.heap.size ≤ gb198)); have _ := am ((by rw [hg]; exact (below_size (beu HB.out)) : w.heap.size ≤ gb198)); have _ := am (nb1 hg BK197.out : gb197 ≠ gb198); have _ := am (nb2 hg BK197.out : gb198 ≠ gb197); clear BK197 HB; rename_i BK197 HB BK198 GW198 GE198 NB197_198 NB198_197; clear hb hbox hg; have := NB197_198.out; have := NB198_197.out; obtain ⟨_, _, _, _, _, _, _, _, _, _⟩ := cells10 BK197.out; obtain ⟨_, _, _, _, _, _, _, _, _, _⟩ := frozens10 BK197.out; obtain ⟨_, _, _, _, _, _, _, _, _, _⟩ := cells10 BK198.out; obtain ⟨_, _, _, _, _, _, _, _, _, _⟩ := frozens10 BK198.out) | (go_at_call 35; (with_reducible refine (api_Line.calls k _ _ l0_1 _ _ l1_1 false _ ?side1 ?side2 ?side3 ?side4 A4.out).mono ?_); (case side1 => exact cu (Kd.C_below HR0_1.out HB.out)); (case side2 => exact HC0_1.out); (case side3 => exact cu (Kd.C_below HR1_1.out HB.out)); (case side4 => exact HC1_1.out); rintro e w' ⟨rfl, ⟨nd, rfl⟩⟩))
   go_ret
   exact ⟨ap4, beu HB.out⟩
 ·rw [if_neg c3] at H
  have c3b0 : (a0_0.toList == a1_0.toList) = false := beq_eq_false_iff_ne.mpr c3; have c3b1 : (a0_0.toList != a1_0.toList) = true := bne_iff_ne.mpr c3; obtain rfl := Option.some.inj H; simp only [Option.some.injEq, Prod.mk.injEq] at H; obtain ⟨rfl⟩ := H
  go_enter Tryd.func12, Tryd.ntmps12
  go_wp2_with (first | ((with_reducible refine gate_dst (N := 2) rfl ?_); refine box_event ?hg (N := 2) ?hd (cs := #[.string a0_0, .slice A0_1 l0_1.length c0_1, .string a0_2, .string a0_3, .string a0_4, .int .i64 a0_5, .int .i64 a0_6, .bool a0_7, .int .i64 a0_8, .int .i64 a0_9]) (t := 28) ?hr ?_; (case hd => rfl); (case hg => rfl); (case hr => first | (go_simp; done) | (go_simp; rfl)); intro gb197 hg w34 hbox hb; have _ := am (below_step (beu HB.out) hb); have _ := am (hbox); have _ := am ((by rw [hg]; exact (below_size (beu HB.out)) : w.heap.size ≤ gb197)); have _ := am ((by rw [hg]; exact (below_size (beu HB.out)) : w.heap.size ≤ gb197)); clear HB; rename_i HB BK197 GW197 GE197; clear hb hbox hg) | ((with_reducible refine gate_dst (N := 3) rfl ?_); refine box_event ?hg (N := 3) ?hd (cs := #[.string a1_0, .slice A1_1 l1_1.length c1_1, .string a1_2, .string a1_3, .string a1_4, .int .i64 a1_5, .int .i64 a1_6, .bool a1_7, .int .i64 a1_8, .int .i64 a1_9]) (t := 28) ?hr ?_; (case hd => rfl); (case hg => rfl); (case hr => first | (go_simp; done) | (go_simp; rfl)); intro gb198 hg w35 hbox hb; have _ := am (blk_below (bu BK197.out) hb); have _ := am (below_step (beu HB.out) hb); have _ := am (hbox); have _ := am ((by rw [hg]; exact (below_size (beu HB.out)) : w.heap.size ≤ gb198)); have _ := am ((by rw [hg]; exact (below_size (beu HB.out)) : w.heap.size ≤ gb198)); have _ := am (nb1 hg BK197.out : gb197 ≠ gb198); have _ := am (nb2 hg BK197.out : gb198 ≠ gb197); clear BK197 HB; rename_i BK197 HB BK198 GW198 GE198 NB197_198 NB198_197; clear hb hbox hg; have := NB197_198.out; have := NB198_197.out; obtain ⟨_, _, _, _, _, _, _, _, _, _⟩ := cells10 BK197.out; obtain ⟨_, _, _, _, _, _, _, _, _, _⟩ := frozens10 BK197.out; obtain ⟨_, _, _, _, _, _, _, _, _, _⟩ := cells10 BK198.out; obtain ⟨_, _, _, _, _, _, _, _, _, _⟩ := frozens10 BK198.out))
  go_ret
  exact ⟨ap4, beu HB.out⟩
def IsS72 (w0 W : World) (g : Nat) (f0 : List Int) (f1 : Bool) : Prop := ∃ A0 c0, W.heap[g]? = some (.cells #[.slice A0 f0.length c0, .bool f1] 72 (0, 0)) ∧ w0.heap.size ≤ g ∧ (Kd.C (Kd.int .u8) w0 A0 f0.length f0 ∧ f0.length ≤ c0)
theorem IsS72.grown {w0 W : World} {g : Nat} {f0 : List Int} {f1 : Bool} {W1 : World} {row : Option Nat} (h : IsS72 w0 W g f0 f1) (hw : W.grownBy W1 row) (hne : some g ≠ row) : IsS72 w0 W1 g f0 f1 := by
 obtain ⟨A0, c0, hb, hg, hr0⟩ := h; exact ⟨A0, c0, blk_grown hb hw hne, hg, hr0⟩
theorem IsS72.below {w0 W : World} {g : Nat} {f0 : List Int} {f1 : Bool} {W1 : World} (h : IsS72 w0 W g f0 f1) (hw : Below W.heap.size W W1) : IsS72 w0 W1 g f0 f1 := h.grown (grown_of_below hw none) (by simp)
theorem IsS72.alloc {w0 W : World} {g : Nat} {f0 : List Int} {f1 : Bool} (h : IsS72 w0 W g f0 f1) (o : Obj) : IsS72 w0 (W.alloc o) g f0 f1 := h.below (below_alloc (Below.refl _ _) o)
theorem IsS72.drewN {w0 W : World} {g : Nat} {f0 : List Int} {f1 : Bool} (h : IsS72 w0 W g f0 f1) (m : Nat) : IsS72 w0 (W.drewN m) g f0 f1 := h
theorem IsS72.drew {w0 W : World} {g : Nat} {f0 : List Int} {f1 : Bool} (h : IsS72 w0 W g f0 f1) : IsS72 w0 W.drew g f0 f1 := h
theorem IsS72.at_ {w0 W : World} {g : Nat} {f0 : List Int} {f1 : Bool} {w' : World} {m : Nat} (hq : W.drewN m = w') (h : IsS72 w0 W g f0 f1) : IsS72 w0 w' g f0 f1 := by subst hq; exact IsS72.drewN h m
theorem IsS72.apart {w0 W : World} {g : Nat} {f0 : List Int} {f1 : Bool} {α : Type} {d : Kd α} {e : Nat} {base : Nat} {ok : Nat → Prop} {v : Value} {xs : List α} (h : IsS72 w0 W g f0 f1) (ho : d.R e W base ok v xs) (ht : ∀ q, q ∈ e :: d.E → q ≠ 72) : d.R e W base (fun k => ok k ∧ k ≠ g) v xs := by
 obtain ⟨A0, c0, hb, hg, hr0⟩ := h; exact Kd.R_types ho hb ht
theorem IsS72.own_ne {w0 W : World} {g : Nat} {f0 : List Int} {f1 : Bool} {α : Type} {d : Kd α} {e : Nat} {base : Nat} {ok : Nat → Prop} {v : Value} {xs : List α} (h : IsS72 w0 W g f0 f1) (ho : d.R e W base ok v xs) (ht : e ≠ 72) : some g ≠ v.ownBlock := by
 obtain ⟨A0, c0, hb, hg, hr0⟩ := h; exact Kd.R_ne ho hb ht
theorem IsS72.lt {w0 W : World} {g : Nat} {f0 : List Int} {f1 : Bool} (h : IsS72 w0 W g f0 f1) : g < W.heap.size := by
 obtain ⟨A0, c0, hb, hg, hr0⟩ := h; exact blk_lt hb
theorem IsS72.ge {w0 W : World} {g : Nat} {f0 : List Int} {f1 : Bool} (h : IsS72 w0 W g f0 f1) : w0.heap.size ≤ g := by
 obtain ⟨A0, c0, hb, hg, hr0⟩ := h; exact hg
theorem IsS72.ne_blk {w0 W : World} {g : Nat} {f0 : List Int} {f1 : Bool} {a : Nat} {cs : Array Value} {t : TypeId} {fr : Nat × Nat} (h : IsS72 w0 W g f0 f1) (hb2 : W.heap[a]? = some (.cells cs t fr)) (ht : t ≠ 72) : g ≠ a := by
 obtain ⟨A0, c0, hb, hg, hr0⟩ := h; rintro rfl; rw [hb] at hb2
 injection hb2 with hb2
 injection hb2 with _ ht2
 exact ht ht2.symm
theorem IsS72.far {w0 W : World} {g : Nat} {f0 : List Int} {f1 : Bool} {p : Addr} (h : IsS72 w0 W g f0 f1) (hne : g ≠ p.block) (u : Value) : IsS72 w0 (W.setCell p u) g f0 f1 := by
 obtain ⟨A0, c0, hb, hg, hr0⟩ := h; exact ⟨A0, c0, blk_far hb hne u, hg, hr0⟩
theorem cellS72_0 {W : World} {g : Nat} {A0 : Option Addr} {c0 : Nat} {f0 : List Int} {f1 : Bool} (h : W.heap[g]? = some (.cells #[.slice A0 f0.length c0, .bool f1] 72 (0, 0))) : W.cell? ⟨g, 0, none⟩ = some (.slice A0 f0.length c0) := (blk_cell h 0).trans rfl
theorem cellS72_1 {W : World} {g : Nat} {A0 : Option Addr} {c0 : Nat} {f0 : List Int} {f1 : Bool} (h : W.heap[g]? = some (.cells #[.slice A0 f0.length c0, .bool f1] 72 (0, 0))) : W.cell? ⟨g, 1, none⟩ = some (.bool f1) := (blk_cell h 1).trans rfl
theorem IsS72.set_1 {w0 W : World} {g : Nat} {f0 : List Int} {f1 : Bool} (h : IsS72 w0 W g f0 f1) (x : Bool) : IsS72 w0 (W.setCell ⟨g, 1, none⟩ (.bool x)) g f0 x := by
 obtain ⟨A0, c0, hb, hg, hr0⟩ := h; exact ⟨A0, c0, by simpa using blk_set hb 1 (.bool x), hg, hr0⟩
theorem IsS72.u {w0 w W : World} {g : Nat} {f0 : List Int} {f1 : Bool} {f0' : List Int} {f1' : Bool} (h : IsS72 w0 w g f0 f1) (hu : IsS72 w0 w g f0 f1 → IsS72 w0 W g f0' f1' := by intro h_; (repeat (first | (with_reducible first | exact h_ | apply IsS72.alloc | apply IsS72.drewN | apply IsS72.drew | apply IsS72.set_1) | refine IsS72.far ?_ (Aside0.out (by assumption)) _ | exact h_)); first | done | fail) : IsS72 w0 W g f0' f1' := hu h
theorem IsS72.new (w0 W : World) (A0 : Option Addr) (c0 : Nat) (f0 : List Int) (f1 : Bool) (hB : Below w0.heap.size w0 W) (hr0 : (Kd.C (Kd.int .u8) w0 A0 f0.length f0 ∧ f0.length ≤ c0)) : IsS72 w0 (W.alloc (.cells #[.slice A0 f0.length c0, .bool f1] 72)) W.heap.size f0 f1 := ⟨A0, c0, by simpa using heap_alloc_new W _, hB.size, hr0⟩
theorem below_keepJ72 {B1 g : Nat} {u v W W' : World} (h : Below u.heap.size u W) (h1 : Below B1 v W) (h2 : Below B1 v W') (hk : KeepBut W W' g none) (hg : u.heap.size ≤ g) : Below u.heap.size u W' :=
 ⟨h2.os.trans (h1.os.symm.trans h.os), h2.tape.trans (h1.tape.symm.trans h.tape), h2.output.trans (h1.output.symm.trans h.output), Nat.le_trans h.size hk.1, fun k hlt => (hk.2 k (Nat.lt_of_lt_of_le hlt h.size) (by omega) (by simp)).trans (h.block k hlt)⟩
def JS72 (w0 W : World) (g : Nat) (f0 : List Int) (f1 : Bool) : Prop := ∃ wS : World, IsS72 wS W g f0 f1 ∧ Below wS.heap.size wS W ∧ Below w0.heap.size w0 wS
theorem JS72.below {w0 W : World} {g : Nat} {f0 : List Int} {f1 : Bool} {W1 : World} (h : JS72 w0 W g f0 f1) (hw : Below W.heap.size W W1) : JS72 w0 W1 g f0 f1 := by
 obtain ⟨wS, h1, h2, h3⟩ := h; exact ⟨wS, h1.below hw, below_then h2 h2.size hw, h3⟩
theorem JS72.alloc {w0 W : World} {g : Nat} {f0 : List Int} {f1 : Bool} (h : JS72 w0 W g f0 f1) (o : Obj) : JS72 w0 (W.alloc o) g f0 f1 := h.below (below_alloc (Below.refl _ _) o)
theorem JS72.drewN {w0 W : World} {g : Nat} {f0 : List Int} {f1 : Bool} (h : JS72 w0 W g f0 f1) (m : Nat) : JS72 w0 (W.drewN m) g f0 f1 := h.below (pw_below_drewN (Below.refl _ _) m)
theorem JS72.drew {w0 W : World} {g : Nat} {f0 : List Int} {f1 : Bool} (h : JS72 w0 W g f0 f1) : JS72 w0 W.drew g f0 f1 := h.below (below_drew (Below.refl _ _))
theorem JS72.far {w0 W : World} {g : Nat} {f0 : List Int} {f1 : Bool} {p : Addr} (h : JS72 w0 W g f0 f1) (hlt : g < p.block) (u : Value) : JS72 w0 (W.setCell p u) g f0 f1 := by
 obtain ⟨wS, h1, h2, h3⟩ := h; exact ⟨wS, h1.far (Nat.ne_of_lt hlt) u, h2.setCell (Nat.le_trans (IsS72.ge h1) (Nat.le_of_lt hlt)) u, h3⟩
theorem JS72.u {w0 w W : World} {g : Nat} {f0 : List Int} {f1 : Bool} {f0' : List Int} {f1' : Bool} (h : JS72 w0 w g f0 f1) (hu : JS72 w0 w g f0 f1 → JS72 w0 W g f0' f1' := by intro h_; (repeat (first | (with_reducible first | exact h_ | apply JS72.alloc | apply JS72.drewN | apply JS72.drew) | refine JS72.far ?_ (Aside0.out (by assumption)) _ | exact h_)); first | done | fail) : JS72 w0 W g f0' f1' := hu h
theorem JS72.apart {w0 W : World} {g : Nat} {f0 : List Int} {f1 : Bool} {α : Type} {d : Kd α} {e : Nat} {base : Nat} {ok : Nat → Prop} {v : Value} {xs : List α} (h : JS72 w0 W g f0 f1) (ho : d.R e W base ok v xs) (ht : ∀ q, q ∈ e :: d.E → q ≠ 72) : d.R e W base (fun k => ok k ∧ k ≠ g) v xs := by
 obtain ⟨wS, h1, h2, h3⟩ := h; exact h1.apart ho ht
theorem JS72.lt {w0 W : World} {g : Nat} {f0 : List Int} {f1 : Bool} (h : JS72 w0 W g f0 f1) : g < W.heap.size := by
 obtain ⟨wS, h1, h2, h3⟩ := h; exact h1.lt
theorem JS72.ge {w0 W : World} {g : Nat} {f0 : List Int} {f1 : Bool} (h : JS72 w0 W g f0 f1) : w0.heap.size ≤ g := by
 obtain ⟨wS, h1, h2, h3⟩ := h; exact Nat.le_trans h3.size h1.ge
theorem JS72.ne_blk {w0 W : World} {g : Nat} {f0 : List Int} {f1 : Bool} {a : Nat} {cs : Array Value} {t : TypeId} {fr : Nat × Nat} (h : JS72 w0 W g f0 f1) (hb2 : W.heap[a]? = some (.cells cs t fr)) (ht : t ≠ 72) : g ≠ a := by
 obtain ⟨wS, h1, h2, h3⟩ := h; exact h1.ne_blk hb2 ht
theorem JS72.blkEx {w0 W : World} {g : Nat} {f0 : List Int} {f1 : Bool} (h : JS72 w0 W g f0 f1) : ∃ A n' c f t fr, W.heap[g]? = some (.cells #[.slice A n' c, .bool f] t fr) := by
 obtain ⟨_, ⟨_, _, hb, _⟩, _⟩ := h; exact ⟨_, _, _, _, _, _, hb⟩
theorem C_kept72 {n : Nat} {wS W W1 : World} {A : Option Addr} {m : Nat} {xs : List Int} (h : Kd.C (Kd.int .u8) wS A m xs) (hb : Below wS.heap.size wS W) (hk : KeepBut W W1 n none)
  (hb' : ∃ A n' c f t fr, W.heap[n]? = some (.cells #[.slice A n' c, .bool f] t fr)) : Kd.C (Kd.int .u8) { W1 with heap := W1.heap.extract 0 wS.heap.size } A m xs := by
 refine ⟨h.1, h.2.1, fun hn => ?_⟩; obtain ⟨ad, e, hc⟩ := h.2.2 hn; refine ⟨ad, e, fun j p hj => ?_⟩; obtain ⟨c, hs, hr, hcell⟩ := hc j p hj; refine ⟨c, hs, hr, fun i u hu => ?_⟩; have h1 := hcell i u hu
 have hlt : (ad.add (j * (Kd.int .u8).sz + i)).block < wS.heap.size := by
  unfold World.cell? at h1
  split at h1
  ·rename_i hq; exact (Array.getElem?_eq_some_iff.1 hq).1
  ·cases h1
 have hw := hb.block _ hlt
 have hu' : ∃ z, u = .int .u8 z := by
  have : c = [.int .u8 p] := hr; subst this
  cases i with
  | zero => simp at hu; exact ⟨p, hu.symm⟩
  | succ i => simp at hu
 have hne : (ad.add (j * (Kd.int .u8).sz + i)).block ≠ n := by
  intro e_; obtain ⟨A', n', c', f, t, fr, hb2⟩ := hb'; obtain ⟨z, rfl⟩ := hu'
  unfold World.cell? at h1
  rw [← hw, e_, hb2] at h1; simp only at h1
  split at h1
  ·cases h1
  ·have : ∀ q : Nat, (#[Value.slice A' n' c', Value.bool f] : Array Value)[q]? ≠ some (.int .u8 z) := by
    intro q
    rcases q with _ | _ | q <;> simp
   exact this _ h1
 have h2 := hk.2 _ (Nat.lt_of_lt_of_le hlt hb.size) hne (by simp)
 have h3 : (W1.heap.extract 0 wS.heap.size)[(ad.add (j * (Kd.int .u8).sz + i)).block]? = wS.heap[(ad.add (j * (Kd.int .u8).sz + i)).block]? := by
  rw [Array.getElem?_extract, if_pos (by have := hk.1; have := hb.size; omega), Nat.zero_add, h2, hw]
 unfold World.cell? at h1 ⊢
 simp only [h3]; exact h1
theorem trunc_below72 {B n : Nat} {w0 W1 : World} (h : Below B w0 W1) (hn : w0.heap.size ≤ n) (hB : B ≤ w0.heap.size) (h1 : n ≤ W1.heap.size) : Below B w0 { W1 with heap := W1.heap.extract 0 n } :=
 ⟨h.os, h.tape, h.output, by simp; omega, fun k hk => by
  show (W1.heap.extract 0 n)[k]? = _
  rw [Array.getElem?_extract, if_pos (by omega), Nat.zero_add]; exact h.block k hk⟩
theorem trunc_up72 {n : Nat} {W1 : World} (h1 : n ≤ W1.heap.size) : Below ({ W1 with heap := W1.heap.extract 0 n } : World).heap.size { W1 with heap := W1.heap.extract 0 n } W1 :=
 ⟨rfl, rfl, rfl, by simp; exact Nat.min_le_right _ _, fun k hk => by
  have hk' : k < n := by simp at hk; omega
  show W1.heap[k]? = (W1.heap.extract 0 n)[k]?
  rw [Array.getElem?_extract, if_pos (by omega), Nat.zero_add]⟩
theorem JS72.keepO {w0 W : World} {g : Nat} {f0 : List Int} {f1 : Bool} {g' : Nat} {W1 : World} (h : JS72 w0 W g f0 f1) (hk : KeepBut W W1 g' none) (hB : Below w0.heap.size w0 W1) (hne : g ≠ g') (hb' : ∃ A n' c f t fr, W.heap[g']? = some (.cells #[.slice A n' c, .bool f] t fr)) : JS72 w0 W1 g f0 f1 := by
 have hlt := h.lt; obtain ⟨wS, ⟨A0, c0, hb, hg, hC, hle⟩, h2, h3⟩ := h; have hsz : wS.heap.size ≤ W1.heap.size := Nat.le_trans h2.size hk.1; refine ⟨{ W1 with heap := W1.heap.extract 0 wS.heap.size }, ⟨A0, c0, (hk.2 g hlt hne (by simp)).trans hb, ?_, C_kept72 hC h2 hk hb', hle⟩, trunc_up72 hsz, trunc_below72 hB h3.size (Nat.le_refl _) hsz⟩
 show (W1.heap.extract 0 wS.heap.size).size ≤ g
 simp; exact Nat.le_trans (Nat.min_le_left _ _) hg
def packet_New.f (l0 : List Int) : Option (List Int × Bool) := if l0.length < 140737488355328 then some (l0, false) else none
theorem packet_New.calls (A0 : Option Addr) (c0 : Nat) (l0 : List Int) (r1 : List Int) (r2 : Bool) (w0 w : World) (hB : Below w0.heap.size w0 w) (hr0 : Kd.C (Kd.int .u8) w A0 l0.length l0) (hc0 : l0.length ≤ c0) (h : packet_New.f l0 = some (r1, r2)) :
  Calls Tryd.prog 15 #[.slice A0 l0.length c0] w fun e w' => ∃ g_ : Nat, e = .returned (.pointer (some ⟨g_, 0, none⟩)) ∧ JS72 w0 w' g_ r1 r2 ∧ Below w0.heap.size w0 w' ∧ Below w.heap.size w w' := by
 have hl : l0.length < 140737488355328 := by
  by_cases c : l0.length < 140737488355328
  ·exact c
  ·rw [packet_New.f, if_neg c] at h; cases h
 rw [packet_New.f, if_pos hl] at h; have h := Option.some.inj h; simp only [Prod.mk.injEq] at h; obtain ⟨rfl, rfl⟩ := h; have HB0 := am hB; have HR := am hr0; have HC := am hc0; have HN := am (show slices_Clone_byte_byte.f l0 = some l0 from if_pos hl); clear hr0 hc0 hl hB
 go_enter Tryd.func15, Tryd.ntmps15
 go_wp2_with (go_at_call 42; refine (slices_Clone_byte_byte.calls _ _ l0 l0 _ HR.out HC.out HN.out).mono ?_; rintro e w1 ⟨v1, rfl, ho, hb⟩; obtain ⟨A1, c1, eo⟩ := Kd.R_slice ho; subst eo; have HO := am ho; have HB := am hb; clear ho hb)
 go_ret
 exact ⟨_, rfl, ⟨w1, IsS72.new w1 w1 A1 c1 l0 false (Below.refl _ _) ⟨(Kd.R_reads' HO.out).2.2, (Kd.R_reads' HO.out).2.1⟩, below_alloc (Below.refl _ _) _, below_then HB0.out HB0.out.size HB.out⟩, below_then HB0.out HB0.out.size (below_alloc HB.out _), below_alloc HB.out _⟩
mutual
def packet_number.l0 : Nat → Int → Int → List Int → Int → Int → Option (Int × Int)
 | 0, _, _, _, _, _ => none
 | k + 1, x1, x6, x10, x11, x12 => if x12 < x11 then (if 0 ≤ x12 then (if x12 < (x10.length : Int) then (if x12 = 9 then (if (rd x10 x12) > 1 then (packet_number.j1 k x1 x6 x12 (rd x10 x12) (IntKind.u64.wrap (Go.bits .and .u8 (rd x10 x12) 127)) x10 x11 x12 true) else (if x12 > 0 then (if (rd x10 x12) = 0 then (packet_number.j1 k x1 x6 x12 (rd x10 x12) (IntKind.u64.wrap (Go.bits .and .u8 (rd x10 x12) 127)) x10 x11 x12 true) else (if 0 ≤ (wrap64 (7 * x12)) then (packet_number.j1 k x1 x6 x12 (rd x10 x12) (IntKind.u64.wrap (Go.bits .and .u8 (rd x10 x12) 127)) x10 x11 x12 (decide ((IntKind.u64.wrap (Go.bits .and .u8 (rd x10 x12) 127)) > (shr .u64 x1 (wrap64 (7 * x12)))))) else (none))) else (if 0 ≤ (wrap64 (7 * x12)) then (packet_number.j1 k x1 x6 x12 (rd x10 x12) (IntKind.u64.wrap (Go.bits .and .u8 (rd x10 x12) 127)) x10 x11 x12 (decide ((IntKind.u64.wrap (Go.bits .and .u8 (rd x10 x12) 127)) > (shr .u64 x1 (wrap64 (7 * x12)))))) else (none)))) else (if x12 > 0 then (if (rd x10 x12) = 0 then (packet_number.j1 k x1 x6 x12 (rd x10 x12) (IntKind.u64.wrap (Go.bits .and .u8 (rd x10 x12) 127)) x10 x11 x12 true) else (if 0 ≤ (wrap64 (7 * x12)) then (packet_number.j1 k x1 x6 x12 (rd x10 x12) (IntKind.u64.wrap (Go.bits .and .u8 (rd x10 x12) 127)) x10 x11 x12 (decide ((IntKind.u64.wrap (Go.bits .and .u8 (rd x10 x12) 127)) > (shr .u64 x1 (wrap64 (7 * x12)))))) else (none))) else (if 0 ≤ (wrap64 (7 * x12)) then (packet_number.j1 k x1 x6 x12 (rd x10 x12) (IntKind.u64.wrap (Go.bits .and .u8 (rd x10 x12) 127)) x10 x11 x12 (decide ((IntKind.u64.wrap (Go.bits .and .u8 (rd x10 x12) 127)) > (shr .u64 x1 (wrap64 (7 * x12)))))) else (none)))) else (none)) else (none)) else (some (0, 0))
def packet_number.j1 : Nat → Int → Int → Int → Int → Int → List Int → Int → Int → Bool → Option (Int × Int)
 | 0, _, _, _, _, _, _, _, _, _ => none
 | k + 1, x1, x6, x7, x8, x9, x10, x11, x12, x41 => if x41 = true then (some (0, (-1))) else (if 0 ≤ (wrap64 (7 * x7)) then (if (Go.bits .or .u64 x6 (shl .u64 x9 (wrap64 (7 * x7)))) > x1 then (some (0, (-1))) else (if x8 < 128 then (some (Go.bits .or .u64 x6 (shl .u64 x9 (wrap64 (7 * x7))), wrap64 (x7 + 1))) else (if 0 ≤ (wrap64 (7 * (wrap64 (x7 + 1)))) then (if (IntKind.u64.wrap (x1 - (Go.bits .or .u64 x6 (shl .u64 x9 (wrap64 (7 * x7)))))) < (shl .u64 1 (wrap64 (7 * (wrap64 (x7 + 1))))) then (some (0, (-1))) else (packet_number.l0 k x1 (Go.bits .or .u64 x6 (shl .u64 x9 (wrap64 (7 * x7)))) x10 x11 (wrap64 (x12 + 1)))) else (none)))) else (none))
end
def packet_number.f (k : Nat) (l0 : List Int) (a1 : Int) : Option (Int × Int) := packet_number.l0 k a1 0 l0 (l0.length : Int) 0
theorem packet_number.mono_l : ∀ k, (∀ y0 y1 y2 y3 y4, LeO (packet_number.l0 k y0 y1 y2 y3 y4) (packet_number.l0 (k + 1) y0 y1 y2 y3 y4)) ∧ (∀ y0 y1 y2 y3 y4 y5 y6 y7 y8, LeO (packet_number.j1 k y0 y1 y2 y3 y4 y5 y6 y7 y8) (packet_number.j1 (k + 1) y0 y1 y2 y3 y4 y5 y6 y7 y8))
 | 0 => ⟨fun _ _ _ _ _ r h => by simp [packet_number.l0] at h, fun _ _ _ _ _ _ _ _ _ r h => by simp [packet_number.j1] at h⟩
 | k + 1 => by
  obtain ⟨ih0, ih1⟩ := packet_number.mono_l k; refine ⟨?_, ?_⟩
  ·intro y0 y1 y2 y3 y4
   unfold packet_number.l0
   repeat' first
   | (with_reducible exact ih0 _ _ _ _ _)
   | (with_reducible exact ih1 _ _ _ _ _ _ _ _ _)
   | (with_reducible exact LeO.refl _)
   | (with_reducible exact LeO.none _)
   | (with_reducible refine LeO.ite ?_ ?_)
   | (with_reducible refine LeO.bind ?_ (fun _ => ?_))
   | exact ih0 _ _ _ _ _
   | exact ih1 _ _ _ _ _ _ _ _ _
   | exact LeO.none _
   | refine LeO.ite ?_ ?_
   | refine LeO.bind ?_ (fun _ => ?_)
  ·intro y0 y1 y2 y3 y4 y5 y6 y7 y8
   unfold packet_number.j1
   repeat' first
   | (with_reducible exact ih0 _ _ _ _ _)
   | (with_reducible exact ih1 _ _ _ _ _ _ _ _ _)
   | (with_reducible exact LeO.refl _)
   | (with_reducible exact LeO.none _)
   | (with_reducible refine LeO.ite ?_ ?_)
   | (with_reducible refine LeO.bind ?_ (fun _ => ?_))
   | exact ih0 _ _ _ _ _
   | exact ih1 _ _ _ _ _ _ _ _ _
   | exact LeO.none _
   | refine LeO.ite ?_ ?_
   | refine LeO.bind ?_ (fun _ => ?_)
theorem packet_number.mono : ∀ a0 a1 k, LeO (packet_number.f k a0 a1) (packet_number.f (k + 1) a0 a1) := by
 intro a0 a1 k; obtain ⟨ih0, ih1⟩ := packet_number.mono_l k
 unfold packet_number.f
 repeat' first
   | (with_reducible exact ih0 _ _ _ _ _)
   | (with_reducible exact ih1 _ _ _ _ _ _ _ _ _)
   | (with_reducible exact LeO.refl _)
   | (with_reducible exact LeO.none _)
   | (with_reducible refine LeO.ite ?_ ?_)
   | (with_reducible refine LeO.bind ?_ (fun _ => ?_))
   | exact ih0 _ _ _ _ _
   | exact ih1 _ _ _ _ _ _ _ _ _
   | exact LeO.none _
   | refine LeO.ite ?_ ?_
   | refine LeO.bind ?_ (fun _ => ?_)
set_option maxHeartbeats 8000000 in
set_option maxRecDepth 100000 in
theorem packet_number.calls (k : Nat) (A0 : Option Addr) (c0 : Nat) (l0 : List Int) (a1 : Int) (r1 : Int) (r2 : Int) (w : World) (hr0 : Kd.C (Kd.int .u8) w A0 l0.length l0) (hc0 : l0.length ≤ c0) (h : packet_number.f k l0 a1 = some (r1, r2)) :
  Calls Tryd.prog 47 #[.slice A0 l0.length c0, .int .u64 a1] w fun e w' => e = .returned (.tuple #[.int .u64 r1, .int .i64 r2]) ∧ Drawn0 w w' := by
 have HR0 := am hr0; have HC0 := am hc0; clear hr0 hc0; have H : (packet_number.l0 k a1 0 l0 (l0.length : Int) 0) = some (r1, r2) := h; clear h; have H' := am H; clear H
 go_enter Tryd.func47, Tryd.ntmps47
 go_wp2
 go_loopg [6, 12] k (fun kq v6 v12 w' => ∃ (x6_1 : Int) (x12_1 : Int), v6 = .int .u64 x6_1 ∧ v12 = .int .i64 x12_1 ∧ Aside0 (packet_number.l0 kq a1 x6_1 l0 (l0.length : Int) x12_1 = some (r1, r2)) ∧ Aside0 (kq ≤ k) ∧ Drawn0 w w')
 case atStart => exact ⟨(0), (0), ap3, ap3, H', ⟨Nat.le_refl _⟩, ap5⟩
 case round =>
  clear H'; (try clear p2); obtain ⟨x6_1, x12_1, rfl, rfl, HA, HK1, ⟨m1, rfl⟩⟩ := hrel
  cases gk with
  | zero => exact absurd HA.out (by simp [packet_number.l0])
  | succ k1 =>
   have H := HA.out; clear HA; simp only [packet_number.l0] at H
   by_cases c3 : x12_1 < (l0.length : Int)
   ·rw [if_pos c3] at H
    have c3b0 : decide (x12_1 < (l0.length : Int)) = true := decide_eq_true c3; clear c3
    by_cases c4 : 0 ≤ x12_1
    ·rw [if_pos c4] at H
     have c4b0 : decide (0 ≤ x12_1) = true := decide_eq_true c4; clear c4
     by_cases c5 : x12_1 < (l0.length : Int)
     ·rw [if_pos c5] at H
      have c5b0 : decide (x12_1 < (l0.length : Int)) = true := decide_eq_true c5; clear c5; have HC6 := am H; clear H; have p200 : 0 ≤ (x12_1 : Int) := of_decide_eq_true ap2; have q200 : x12_1 < (l0.length : Int) := of_decide_eq_true ap2; obtain ⟨ad200, e200, hx200_0⟩ := Kd.at_int HR0.out x12_1 p200 q200
      cases e200
      replace p200 := eq_true p200; replace q200 := eq_true q200
      go_upto_region 6 with (fail)
      go_cut [41] (fun v41 wc => ∃ (kq : Nat) (x41_5 : Bool), v41 = .bool x41_5 ∧ Aside0 (packet_number.j1 kq a1 x6_1 x12_1 (rd l0 x12_1) (IntKind.u64.wrap (Go.bits .and .u8 (rd l0 x12_1) 127)) l0 (l0.length : Int) x12_1 x41_5 = some (r1, r2)) ∧ Aside0 (kq ≤ k1) ∧ Drawn0 w wc)
      case first =>
       have H := HC6.out; clear HC6
       by_cases c7 : x12_1 = 9
       ·rw [if_pos c7] at H
        have c7b0 : (x12_1 == 9) = true := beq_iff_eq.mpr c7; have c7b1 : (x12_1 != 9) = false := bne_eq_false_iff_eq.mpr c7; clear c7
        (first | rw [c7b0] | (simp only [i64_w, i32_w]; rw [c7b0]) | skip)
        by_cases c8 : (rd l0 x12_1) > 1
        ·rw [if_pos c8] at H
         have c8b0 : decide (1 < (rd l0 x12_1)) = true := decide_eq_true c8; clear c8; have H' := am H; clear H
         go_wp2
         go_meet
         case rel => exact ⟨_, (true), ap3, H', ⟨by have := HK1.out; first | omega | exact Nat.le_refl _⟩, ap5⟩
        ·rw [if_neg c8] at H
         have c8b0 : decide (1 < (rd l0 x12_1)) = false := decide_eq_false c8; clear c8
         by_cases c9 : x12_1 > 0
         ·rw [if_pos c9] at H
          have c9b0 : decide (0 < x12_1) = true := decide_eq_true c9; clear c9
          by_cases c10 : (rd l0 x12_1) = 0
          ·rw [if_pos c10] at H
           have c10b0 : ((rd l0 x12_1) == 0) = true := beq_iff_eq.mpr c10; have c10b1 : ((rd l0 x12_1) != 0) = false := bne_eq_false_iff_eq.mpr c10; clear c10; have H' := am H; clear H
           go_wp2
           go_meet
           case rel => exact ⟨_, (true), ap3, H', ⟨by have := HK1.out; first | omega | exact Nat.le_refl _⟩, ap5⟩
          ·rw [if_neg c10] at H
           have c10b0 : ((rd l0 x12_1) == 0) = false := beq_eq_false_iff_ne.mpr c10; have c10b1 : ((rd l0 x12_1) != 0) = true := bne_iff_ne.mpr c10; obtain ⟨ji11, hji11⟩ : ∃ j_ : Int, (wrap64 (7 * x12_1)) = j_ := ⟨_, rfl⟩
           replace H : (if 0 ≤ (ji11) then (packet_number.j1 k1 a1 x6_1 x12_1 (rd l0 x12_1) (IntKind.u64.wrap (Go.bits .and .u8 (rd l0 x12_1) 127)) l0 (l0.length : Int) x12_1 (decide ((IntKind.u64.wrap (Go.bits .and .u8 (rd l0 x12_1) 127)) > (shr .u64 a1 (ji11))))) else (none)) = some (r1, r2) := by first | (rw [hji11] at H; exact H) | (simp only [hji11] at H ⊢; exact H)
           have hji11w : (IntKind.i64.wrap (7 * x12_1)) = ji11 := (i64_w _).trans hji11
           by_cases c12 : 0 ≤ (ji11)
           ·rw [if_pos c12] at H
            have c12b0 := eq_true c12; have c12b1 : decide (0 ≤ (ji11)) = true := decide_eq_true c12; clear c12; obtain ⟨ji13, hji13⟩ : ∃ j_ : Int, (shr .u64 a1 (ji11)) = j_ := ⟨_, rfl⟩
            replace H : (packet_number.j1 k1 a1 x6_1 x12_1 (rd l0 x12_1) (IntKind.u64.wrap (Go.bits .and .u8 (rd l0 x12_1) 127)) l0 (l0.length : Int) x12_1 (decide ((IntKind.u64.wrap (Go.bits .and .u8 (rd l0 x12_1) 127)) > (ji13)))) = some (r1, r2) := by first | (rw [hji13] at H; exact H) | (simp only [hji13] at H ⊢; exact H)
            have hji13_ : (a1 / 2 ^ min (ji11).toNat 64) = ji13 := hji13; have hji13z : (ji11) ≤ 64 → (a1 / 2 ^ (ji11).toNat) = ji13 := shr_small hji13; have H' := am H; clear H
            go_wp2
            go_meet
            case rel => exact ⟨_, (decide ((IntKind.u64.wrap (Go.bits .and .u8 (rd l0 x12_1) 127)) > (ji13))), (by first | rfl | (simp; done) | (simp only [← hji13] <;> (first | rfl | simp)) | (simp [*]; done)), H', ⟨by have := HK1.out; first | omega | exact Nat.le_refl _⟩, ap5⟩
           ·rw [if_neg c12] at H
            exact absurd H (by simp)
         ·rw [if_neg c9] at H
          have c9b0 : decide (0 < x12_1) = false := decide_eq_false c9; clear c9; obtain ⟨ji14, hji14⟩ : ∃ j_ : Int, (wrap64 (7 * x12_1)) = j_ := ⟨_, rfl⟩
          replace H : (if 0 ≤ (ji14) then (packet_number.j1 k1 a1 x6_1 x12_1 (rd l0 x12_1) (IntKind.u64.wrap (Go.bits .and .u8 (rd l0 x12_1) 127)) l0 (l0.length : Int) x12_1 (decide ((IntKind.u64.wrap (Go.bits .and .u8 (rd l0 x12_1) 127)) > (shr .u64 a1 (ji14))))) else (none)) = some (r1, r2) := by first | (rw [hji14] at H; exact H) | (simp only [hji14] at H ⊢; exact H)
          have hji14w : (IntKind.i64.wrap (7 * x12_1)) = ji14 := (i64_w _).trans hji14
          by_cases c15 : 0 ≤ (ji14)
          ·rw [if_pos c15] at H
           have c15b0 := eq_true c15; have c15b1 : decide (0 ≤ (ji14)) = true := decide_eq_true c15; clear c15; obtain ⟨ji16, hji16⟩ : ∃ j_ : Int, (shr .u64 a1 (ji14)) = j_ := ⟨_, rfl⟩
           replace H : (packet_number.j1 k1 a1 x6_1 x12_1 (rd l0 x12_1) (IntKind.u64.wrap (Go.bits .and .u8 (rd l0 x12_1) 127)) l0 (l0.length : Int) x12_1 (decide ((IntKind.u64.wrap (Go.bits .and .u8 (rd l0 x12_1) 127)) > (ji16)))) = some (r1, r2) := by first | (rw [hji16] at H; exact H) | (simp only [hji16] at H ⊢; exact H)
           have hji16_ : (a1 / 2 ^ min (ji14).toNat 64) = ji16 := hji16; have hji16z : (ji14) ≤ 64 → (a1 / 2 ^ (ji14).toNat) = ji16 := shr_small hji16; have H' := am H; clear H
           go_wp2
           go_meet
           case rel => exact ⟨_, (decide ((IntKind.u64.wrap (Go.bits .and .u8 (rd l0 x12_1) 127)) > (ji16))), (by first | rfl | (simp; done) | (simp only [← hji16] <;> (first | rfl | simp)) | (simp [*]; done)), H', ⟨by have := HK1.out; first | omega | exact Nat.le_refl _⟩, ap5⟩
          ·rw [if_neg c15] at H
           exact absurd H (by simp)
       ·rw [if_neg c7] at H
        have c7b0 : (x12_1 == 9) = false := beq_eq_false_iff_ne.mpr c7; have c7b1 : (x12_1 != 9) = true := bne_iff_ne.mpr c7
        (first | rw [c7b0] | (simp only [i64_w, i32_w]; rw [c7b0]) | skip)
        by_cases c17 : x12_1 > 0
        ·rw [if_pos c17] at H
         have c17b0 : decide (0 < x12_1) = true := decide_eq_true c17; clear c17
         by_cases c18 : (rd l0 x12_1) = 0
         ·rw [if_pos c18] at H
          have c18b0 : ((rd l0 x12_1) == 0) = true := beq_iff_eq.mpr c18; have c18b1 : ((rd l0 x12_1) != 0) = false := bne_eq_false_iff_eq.mpr c18; clear c18; have H' := am H; clear H
          go_wp2
          go_meet
          case rel => exact ⟨_, (true), ap3, H', ⟨by have := HK1.out; first | omega | exact Nat.le_refl _⟩, ap5⟩
         ·rw [if_neg c18] at H
          have c18b0 : ((rd l0 x12_1) == 0) = false := beq_eq_false_iff_ne.mpr c18; have c18b1 : ((rd l0 x12_1) != 0) = true := bne_iff_ne.mpr c18; obtain ⟨ji19, hji19⟩ : ∃ j_ : Int, (wrap64 (7 * x12_1)) = j_ := ⟨_, rfl⟩
          replace H : (if 0 ≤ (ji19) then (packet_number.j1 k1 a1 x6_1 x12_1 (rd l0 x12_1) (IntKind.u64.wrap (Go.bits .and .u8 (rd l0 x12_1) 127)) l0 (l0.length : Int) x12_1 (decide ((IntKind.u64.wrap (Go.bits .and .u8 (rd l0 x12_1) 127)) > (shr .u64 a1 (ji19))))) else (none)) = some (r1, r2) := by first | (rw [hji19] at H; exact H) | (simp only [hji19] at H ⊢; exact H)
          have hji19w : (IntKind.i64.wrap (7 * x12_1)) = ji19 := (i64_w _).trans hji19
          by_cases c20 : 0 ≤ (ji19)
          ·rw [if_pos c20] at H
           have c20b0 := eq_true c20; have c20b1 : decide (0 ≤ (ji19)) = true := decide_eq_true c20; clear c20; obtain ⟨ji21, hji21⟩ : ∃ j_ : Int, (shr .u64 a1 (ji19)) = j_ := ⟨_, rfl⟩
           replace H : (packet_number.j1 k1 a1 x6_1 x12_1 (rd l0 x12_1) (IntKind.u64.wrap (Go.bits .and .u8 (rd l0 x12_1) 127)) l0 (l0.length : Int) x12_1 (decide ((IntKind.u64.wrap (Go.bits .and .u8 (rd l0 x12_1) 127)) > (ji21)))) = some (r1, r2) := by first | (rw [hji21] at H; exact H) | (simp only [hji21] at H ⊢; exact H)
           have hji21_ : (a1 / 2 ^ min (ji19).toNat 64) = ji21 := hji21; have hji21z : (ji19) ≤ 64 → (a1 / 2 ^ (ji19).toNat) = ji21 := shr_small hji21; have H' := am H; clear H
           go_wp2
           go_meet
           case rel => exact ⟨_, (decide ((IntKind.u64.wrap (Go.bits .and .u8 (rd l0 x12_1) 127)) > (ji21))), (by first | rfl | (simp; done) | (simp only [← hji21] <;> (first | rfl | simp)) | (simp [*]; done)), H', ⟨by have := HK1.out; first | omega | exact Nat.le_refl _⟩, ap5⟩
          ·rw [if_neg c20] at H
           exact absurd H (by simp)
        ·rw [if_neg c17] at H
         have c17b0 : decide (0 < x12_1) = false := decide_eq_false c17; clear c17; obtain ⟨ji22, hji22⟩ : ∃ j_ : Int, (wrap64 (7 * x12_1)) = j_ := ⟨_, rfl⟩
         replace H : (if 0 ≤ (ji22) then (packet_number.j1 k1 a1 x6_1 x12_1 (rd l0 x12_1) (IntKind.u64.wrap (Go.bits .and .u8 (rd l0 x12_1) 127)) l0 (l0.length : Int) x12_1 (decide ((IntKind.u64.wrap (Go.bits .and .u8 (rd l0 x12_1) 127)) > (shr .u64 a1 (ji22))))) else (none)) = some (r1, r2) := by first | (rw [hji22] at H; exact H) | (simp only [hji22] at H ⊢; exact H)
         have hji22w : (IntKind.i64.wrap (7 * x12_1)) = ji22 := (i64_w _).trans hji22
         by_cases c23 : 0 ≤ (ji22)
         ·rw [if_pos c23] at H
          have c23b0 := eq_true c23; have c23b1 : decide (0 ≤ (ji22)) = true := decide_eq_true c23; clear c23; obtain ⟨ji24, hji24⟩ : ∃ j_ : Int, (shr .u64 a1 (ji22)) = j_ := ⟨_, rfl⟩
          replace H : (packet_number.j1 k1 a1 x6_1 x12_1 (rd l0 x12_1) (IntKind.u64.wrap (Go.bits .and .u8 (rd l0 x12_1) 127)) l0 (l0.length : Int) x12_1 (decide ((IntKind.u64.wrap (Go.bits .and .u8 (rd l0 x12_1) 127)) > (ji24)))) = some (r1, r2) := by first | (rw [hji24] at H; exact H) | (simp only [hji24] at H ⊢; exact H)
          have hji24_ : (a1 / 2 ^ min (ji22).toNat 64) = ji24 := hji24; have hji24z : (ji22) ≤ 64 → (a1 / 2 ^ (ji22).toNat) = ji24 := shr_small hji24; have H' := am H; clear H
          go_wp2
          go_meet
          case rel => exact ⟨_, (decide ((IntKind.u64.wrap (Go.bits .and .u8 (rd l0 x12_1) 127)) > (ji24))), (by first | rfl | (simp; done) | (simp only [← hji24] <;> (first | rfl | simp)) | (simp [*]; done)), H', ⟨by have := HK1.out; first | omega | exact Nat.le_refl _⟩, ap5⟩
         ·rw [if_neg c23] at H
          exact absurd H (by simp)
      case rest =>
       clear HC6; (try clear c1); (try clear c2); (try clear p2); (try clear q2); (try clear hx2); (try clear c3); (try clear c3b0); (try clear c4); (try clear c4b0); (try clear c5); (try clear c5b0); (try clear p6); (try clear c7); (try clear c7b0); (try clear c7b1); (try clear c8); (try clear c8b0); (try clear c9); (try clear c9b0); (try clear c10); (try clear c10b0); (try clear c10b1); (try clear c12); (try clear c12b0); (try clear c12b1); (try clear c15); (try clear c15b0); (try clear c15b1); (try clear c17); (try clear c17b0); (try clear c18); (try clear c18b0); (try clear c18b1); (try clear c20); (try clear c20b0); (try clear c20b1); (try clear p20); (try clear q20); (try clear hx20); (try clear c23); (try clear c23b0); (try clear c23b1); (try clear hx200_0); (try clear p2); (try clear p200); (try clear q200); obtain ⟨kq, x41_5, rfl, HA, HJ5, ⟨mc5, rfl⟩⟩ := hcut
       cases kq with
       | zero => exact absurd HA.out (by simp [packet_number.j1])
       | succ kj5 =>
        have H := HA.out; clear HA; simp only [packet_number.j1] at H
        by_cases c25 : x41_5 = true
        ·subst c25
         have H1 : (some (0, (-1))) = some (r1, r2) := by rw [if_pos rfl] at H; exact H
         clear H; have H := H1; clear H1; simp only [Option.some.injEq, Prod.mk.injEq] at H; obtain ⟨rfl, rfl⟩ := H
         go_wp2
         go_ret2
         exact ⟨ap3, ap5⟩
        ·replace c25 := Bool.eq_false_iff.mpr c25
         subst c25
         have H1 : (if 0 ≤ (wrap64 (7 * x12_1)) then (if (Go.bits .or .u64 x6_1 (shl .u64 (IntKind.u64.wrap (Go.bits .and .u8 (rd l0 x12_1) 127)) (wrap64 (7 * x12_1)))) > a1 then (some (0, (-1))) else (if (rd l0 x12_1) < 128 then (some (Go.bits .or .u64 x6_1 (shl .u64 (IntKind.u64.wrap (Go.bits .and .u8 (rd l0 x12_1) 127)) (wrap64 (7 * x12_1))), wrap64 (x12_1 + 1))) else (if 0 ≤ (wrap64 (7 * (wrap64 (x12_1 + 1)))) then (if (IntKind.u64.wrap (a1 - (Go.bits .or .u64 x6_1 (shl .u64 (IntKind.u64.wrap (Go.bits .and .u8 (rd l0 x12_1) 127)) (wrap64 (7 * x12_1)))))) < (shl .u64 1 (wrap64 (7 * (wrap64 (x12_1 + 1))))) then (some (0, (-1))) else (packet_number.l0 kj5 a1 (Go.bits .or .u64 x6_1 (shl .u64 (IntKind.u64.wrap (Go.bits .and .u8 (rd l0 x12_1) 127)) (wrap64 (7 * x12_1)))) l0 (l0.length : Int) (wrap64 (x12_1 + 1)))) else (none)))) else (none)) = some (r1, r2) := by rw [if_neg (show ¬ (false = true) by decide)] at H; exact H
         clear H; have H := H1; clear H1; obtain ⟨ji26, hji26⟩ : ∃ j_ : Int, (wrap64 (7 * x12_1)) = j_ := ⟨_, rfl⟩
         replace H : (if 0 ≤ (ji26) then (if (Go.bits .or .u64 x6_1 (shl .u64 (IntKind.u64.wrap (Go.bits .and .u8 (rd l0 x12_1) 127)) (ji26))) > a1 then (some (0, (-1))) else (if (rd l0 x12_1) < 128 then (some (Go.bits .or .u64 x6_1 (shl .u64 (IntKind.u64.wrap (Go.bits .and .u8 (rd l0 x12_1) 127)) (ji26)), wrap64 (x12_1 + 1))) else (if 0 ≤ (wrap64 (7 * (wrap64 (x12_1 + 1)))) then (if (IntKind.u64.wrap (a1 - (Go.bits .or .u64 x6_1 (shl .u64 (IntKind.u64.wrap (Go.bits .and .u8 (rd l0 x12_1) 127)) (ji26))))) < (shl .u64 1 (wrap64 (7 * (wrap64 (x12_1 + 1))))) then (some (0, (-1))) else (packet_number.l0 kj5 a1 (Go.bits .or .u64 x6_1 (shl .u64 (IntKind.u64.wrap (Go.bits .and .u8 (rd l0 x12_1) 127)) (ji26))) l0 (l0.length : Int) (wrap64 (x12_1 + 1)))) else (none)))) else (none)) = some (r1, r2) := by first | (rw [hji26] at H; exact H) | (simp only [hji26] at H ⊢; exact H)
         have hji26w : (IntKind.i64.wrap (7 * x12_1)) = ji26 := (i64_w _).trans hji26
         by_cases c27 : 0 ≤ (ji26)
         ·rw [if_pos c27] at H
          have c27b0 := eq_true c27; have c27b1 : decide (0 ≤ (ji26)) = true := decide_eq_true c27; clear c27; obtain ⟨ji28, hji28⟩ : ∃ j_ : Int, (shl .u64 (IntKind.u64.wrap (Go.bits .and .u8 (rd l0 x12_1) 127)) (ji26)) = j_ := ⟨_, rfl⟩
          replace H : (if (Go.bits .or .u64 x6_1 (ji28)) > a1 then (some (0, (-1))) else (if (rd l0 x12_1) < 128 then (some (Go.bits .or .u64 x6_1 (ji28), wrap64 (x12_1 + 1))) else (if 0 ≤ (wrap64 (7 * (wrap64 (x12_1 + 1)))) then (if (IntKind.u64.wrap (a1 - (Go.bits .or .u64 x6_1 (ji28)))) < (shl .u64 1 (wrap64 (7 * (wrap64 (x12_1 + 1))))) then (some (0, (-1))) else (packet_number.l0 kj5 a1 (Go.bits .or .u64 x6_1 (ji28)) l0 (l0.length : Int) (wrap64 (x12_1 + 1)))) else (none)))) = some (r1, r2) := by first | (rw [hji28] at H; exact H) | (simp only [hji28] at H ⊢; exact H)
          have hji28_ : (IntKind.u64.wrap ((IntKind.u64.wrap (Go.bits .and .u8 (rd l0 x12_1) 127)) * 2 ^ min (ji26).toNat 64)) = ji28 := hji28; have hji28z : (ji26) ≤ 64 → (IntKind.u64.wrap ((IntKind.u64.wrap (Go.bits .and .u8 (rd l0 x12_1) 127)) * 2 ^ (ji26).toNat)) = ji28 := shl_small hji28
          by_cases c29 : (Go.bits .or .u64 x6_1 (ji28)) > a1
          ·rw [if_pos c29] at H
           have c29b0 : decide (a1 < (Go.bits .or .u64 x6_1 (ji28))) = true := decide_eq_true c29; clear c29; simp only [Option.some.injEq, Prod.mk.injEq] at H; obtain ⟨rfl, rfl⟩ := H
           go_wp2
           go_ret2
           exact ⟨by first | rfl | (simp; done) | (simp only [← hji26, ← hji28] <;> (first | rfl | simp)) | (simp [*]; done), ap5⟩
          ·rw [if_neg c29] at H
           have c29b0 : decide (a1 < (Go.bits .or .u64 x6_1 (ji28))) = false := decide_eq_false c29; clear c29
           by_cases c30 : (rd l0 x12_1) < 128
           ·rw [if_pos c30] at H
            have c30b0 : decide ((rd l0 x12_1) < 128) = true := decide_eq_true c30; clear c30; simp only [Option.some.injEq, Prod.mk.injEq] at H; obtain ⟨rfl, rfl⟩ := H
            go_wp2
            go_ret2
            exact ⟨by first | rfl | (simp; done) | (simp only [← hji26, ← hji28] <;> (first | rfl | simp)) | (simp [*]; done), ap5⟩
           ·rw [if_neg c30] at H
            have c30b0 : decide ((rd l0 x12_1) < 128) = false := decide_eq_false c30; clear c30; obtain ⟨ji31, hji31⟩ : ∃ j_ : Int, (wrap64 (7 * (wrap64 (x12_1 + 1)))) = j_ := ⟨_, rfl⟩
            replace H : (if 0 ≤ (ji31) then (if (IntKind.u64.wrap (a1 - (Go.bits .or .u64 x6_1 (ji28)))) < (shl .u64 1 (ji31)) then (some (0, (-1))) else (packet_number.l0 kj5 a1 (Go.bits .or .u64 x6_1 (ji28)) l0 (l0.length : Int) (wrap64 (x12_1 + 1)))) else (none)) = some (r1, r2) := by first | (rw [hji31] at H; exact H) | (simp only [hji31] at H ⊢; exact H)
            have hji31w : (IntKind.i64.wrap (7 * (wrap64 (x12_1 + 1)))) = ji31 := (i64_w _).trans hji31
            by_cases c32 : 0 ≤ (ji31)
            ·rw [if_pos c32] at H
             have c32b0 := eq_true c32; have c32b1 : decide (0 ≤ (ji31)) = true := decide_eq_true c32; clear c32; obtain ⟨ji33, hji33⟩ : ∃ j_ : Int, (shl .u64 1 (ji31)) = j_ := ⟨_, rfl⟩
             replace H : (if (IntKind.u64.wrap (a1 - (Go.bits .or .u64 x6_1 (ji28)))) < (ji33) then (some (0, (-1))) else (packet_number.l0 kj5 a1 (Go.bits .or .u64 x6_1 (ji28)) l0 (l0.length : Int) (wrap64 (x12_1 + 1)))) = some (r1, r2) := by first | (rw [hji33] at H; exact H) | (simp only [hji33] at H ⊢; exact H)
             have hji33_ : (IntKind.u64.wrap (1 * 2 ^ min (ji31).toNat 64)) = ji33 := hji33; have hji33z : (ji31) ≤ 64 → (IntKind.u64.wrap (1 * 2 ^ (ji31).toNat)) = ji33 := shl_small hji33
             have hji33u : (IntKind.u64.wrap (2 ^ min (ji31).toNat 64)) = ji33 := by have h_ := hji33_; rw [Int.one_mul] at h_; exact h_
             have hji33v : (ji31) ≤ 64 → (IntKind.u64.wrap (2 ^ (ji31).toNat)) = ji33 := fun hle_ => by have h_ := hji33z hle_; rw [Int.one_mul] at h_; exact h_
             by_cases c34 : (IntKind.u64.wrap (a1 - (Go.bits .or .u64 x6_1 (ji28)))) < (ji33)
             ·rw [if_pos c34] at H
              have c34b0 : decide ((IntKind.u64.wrap (a1 - (Go.bits .or .u64 x6_1 (ji28)))) < (ji33)) = true := decide_eq_true c34; clear c34; simp only [Option.some.injEq, Prod.mk.injEq] at H; obtain ⟨rfl, rfl⟩ := H
              go_wp2
              go_ret2
              exact ⟨by first | rfl | (simp; done) | (simp only [← hji26, ← hji28, ← hji31, ← hji33] <;> (first | rfl | simp)) | (simp [*]; done), ap5⟩
             ·rw [if_neg c34] at H
              have c34b0 : decide ((IntKind.u64.wrap (a1 - (Go.bits .or .u64 x6_1 (ji28)))) < (ji33)) = false := decide_eq_false c34; clear c34; have H' := am H; clear H
              go_wp2
              go_roundg kj5
              case measure => have := HK1.out; have := HJ5.out; omega
              case rel => exact ⟨(Go.bits .or .u64 x6_1 (ji28)), (wrap64 (x12_1 + 1)), (by first | rfl | (simp; done) | (simp only [← hji28] <;> (first | rfl | simp)) | (simp [*]; done)), ap3, H', ⟨by have := HK1.out; have := HJ5.out; omega⟩, ap5⟩
            ·rw [if_neg c32] at H
             exact absurd H (by simp)
         ·rw [if_neg c27] at H
          exact absurd H (by simp)
     ·rw [if_neg c5] at H
      exact absurd H (by simp)
    ·rw [if_neg c4] at H
     exact absurd H (by simp)
   ·rw [if_neg c3] at H
    have c3b0 : decide (x12_1 < (l0.length : Int)) = false := decide_eq_false c3; clear c3; simp only [Option.some.injEq, Prod.mk.injEq] at H; obtain ⟨rfl, rfl⟩ := H
    go_wp2
    go_ret2
    exact ⟨ap3, ap5⟩
def packet_Reader_Number.f (k : Nat) (s0_0 : List Int) (s0_1 : Bool) (a1 : Int) : Option (Int × List Int × Bool) := if s0_1 = true then some (0, s0_0, true) else (packet_number.f k s0_0 a1).bind fun p => if p.2 ≤ 0 then some (0, s0_0, true) else if p.2 ≤ (s0_0.length : Int) then some (p.1, s0_0.drop p.2.toNat, false) else none
theorem packet_Reader_Number.mono : ∀ a0 b0 a1 k, LeO (packet_Reader_Number.f k a0 b0 a1) (packet_Reader_Number.f (k + 1) a0 b0 a1) := by
 intro a0 b0 a1 k
 unfold packet_Reader_Number.f
 exact LeO.ite (LeO.refl _) (LeO.bind (packet_number.mono _ _ _) (fun _ => LeO.refl _))
theorem IsS72.cut {w0 W : World} {g : Nat} {f0 : List Int} {f1 : Bool} (h : IsS72 w0 W g f0 f1) (A' : Option Addr) (c' : Nat) (f0' : List Int) (hC : Kd.C (Kd.int .u8) w0 A' f0'.length f0' ∧ f0'.length ≤ c') : IsS72 w0 (W.setCell ⟨g, 0, none⟩ (.slice A' f0'.length c')) g f0' f1 := by
 obtain ⟨A0, c0, hb, hg, hr0⟩ := h; exact ⟨A', c', by simpa using blk_set hb 0 (.slice A' f0'.length c'), hg, hC⟩
set_option maxHeartbeats 8000000 in
set_option maxRecDepth 100000 in
theorem packet_Reader_Number.calls (k : Nat) (g : Nat) (s0_0 : List Int) (s0_1 : Bool) (a1 : Int) (r1 : Int) (r2 : List Int) (r3 : Bool) (w0 w : World) (hI : IsS72 w0 w g s0_0 s0_1) (hB : Below w0.heap.size w0 w) (h : packet_Reader_Number.f k s0_0 s0_1 a1 = some (r1, r2, r3)) :
  Calls Tryd.prog 19 #[.pointer (some ⟨g, 0, none⟩), .int .u64 a1] w fun e w' => e = .returned (.int .u64 r1) ∧ IsS72 w0 w' g r2 r3 ∧ Below w0.heap.size w0 w' ∧ KeepBut w w' g none := by
 have HI := am hI; have HB := am hB; obtain ⟨A0, c0, hblk, hge, hC, hle⟩ := hI; have HC := am hC; have HC2 := am (Kd.C_below hC hB); have HL := am hle; have HG := am hge; have hc0 := cellS72_0 hblk; have hc1 := cellS72_1 hblk; have hf0 := blk_frozen hblk 0; have hf1 := blk_frozen hblk 1; clear hB hblk hge hC hle; obtain ⟨i0, hi0, hzz⟩ := Option.map_eq_some_iff.1 info5; simp only [Prod.mk.injEq] at hzz; have HZ := am hzz.2.1; have HI0 := am hi0; clear hzz hi0
 unfold packet_Reader_Number.f at h
 cases s0_1 with
 | true =>
  rw [if_pos rfl] at h; have h := Option.some.inj h; simp only [Prod.mk.injEq] at h; obtain ⟨rfl, rfl, rfl⟩ := h; clear HC2 HL
  go_enter Tryd.func19, Tryd.ntmps19
  go_wp2_with fail
  go_ret
  exact ⟨rfl, HI.out, HB.out, KeepBut.refl w g none⟩
 | false =>
  rw [if_neg (by decide)] at h
  cases hn : packet_number.f k s0_0 a1 with
  | none => rw [hn] at h; cases h
  | some p =>
   obtain ⟨n, u⟩ := p; rw [hn] at h; simp only [Option.bind_some] at h; have HN := am hn; clear hn
   by_cases c1 : u ≤ 0
   ·rw [if_pos c1] at h
    have h := Option.some.inj h; simp only [Prod.mk.injEq] at h; obtain ⟨rfl, rfl, rfl⟩ := h; have c1b : decide (u ≤ 0) = true := decide_eq_true c1; clear c1
    go_enter Tryd.func19, Tryd.ntmps19
    go_wp2_with (go_at_call 47; refine (packet_number.calls k A0 c0 s0_0 a1 n u _ HC2.out HL.out HN.out).mono ?_; rintro e w' ⟨rfl, ⟨nd, rfl⟩⟩)
    go_ret
    exact ⟨rfl, (HI.out.drewN nd).set_1 true, below_set (pw_below_drewN HB.out nd) HG.out, KeepBut.set_ (keep_drewN (KeepBut.refl w g none) nd) _ _⟩
   ·rw [if_neg c1] at h
    have c1b : decide (u ≤ 0) = false := decide_eq_false c1
    by_cases c2 : u ≤ (s0_0.length : Int)
    ·rw [if_pos c2] at h
     have h := Option.some.inj h; simp only [Prod.mk.injEq] at h; obtain ⟨rfl, rfl, rfl⟩ := h; have hcut := cut_from (P := Tryd.prog) 31 5 .i64 Tryd.underlying31 HI0.out 1 HZ.out A0 s0_0.length c0 u (by omega) c2; have hdr := Kd.C_drop (m := u.toNat) HC.out (by omega) HL.out; rw [show (Kd.int .u8).sz = 1 from rfl] at hdr; obtain ⟨A', hA'⟩ : ∃ A' : Option Addr, A' = (if c0 = u.toNat then A0 else A0.map (·.add (u.toNat * 1))) := ⟨_, rfl⟩; rw [← hA'] at hdr hcut; rw [← List.length_drop] at hcut; have HD := am (show Kd.C (Kd.int .u8) w0 A' (s0_0.drop u.toNat).length (s0_0.drop u.toNat) ∧ (s0_0.drop u.toNat).length ≤ c0 - u.toNat from ⟨hdr, by rw [List.length_drop]; have := HL.out; omega⟩); clear hdr hA'; have HU := am c2; clear c2
     go_enter Tryd.func19, Tryd.ntmps19
     go_wp2_with (go_at_call 47; refine (packet_number.calls k A0 c0 s0_0 a1 n u _ HC2.out HL.out HN.out).mono ?_; rintro e w' ⟨rfl, ⟨nd, rfl⟩⟩)
     go_ret
     exact ⟨rfl, (by have z_ := (HI.out.drewN nd).cut _ _ _ HD.out; rw [List.length_drop] at z_; exact z_), below_set (pw_below_drewN HB.out nd) HG.out, KeepBut.set_ (keep_drewN (KeepBut.refl w g none) nd) _ _⟩
    ·rw [if_neg c2] at h; cases h
def packet_Reader_Text.f (k : Nat) (s0_0 : List Int) (s0_1 : Bool) (a1 : Int) : Option (ByteArray × List Int × Bool) := if 0 ≤ a1 ∧ a1 ≤ 1000000 then (packet_Reader_Number.f k s0_0 s0_1 a1).bind fun p => if p.2.2 = true then some (⟨#[]⟩, p.2.1, true) else if (p.2.1.length : Int) < p.1 then some (⟨#[]⟩, p.2.1, true) else if 0 ≤ p.1 then some (strOfNums (p.2.1.take p.1.toNat), p.2.1.drop p.1.toNat, false) else none else none
theorem packet_Reader_Text.mono : ∀ a0 b0 a1 k, LeO (packet_Reader_Text.f k a0 b0 a1) (packet_Reader_Text.f (k + 1) a0 b0 a1) := by
 intro a0 b0 a1 k
 unfold packet_Reader_Text.f
 exact LeO.ite (LeO.bind (packet_Reader_Number.mono _ _ _ _) (fun _ => LeO.refl _)) (LeO.refl _)
set_option maxHeartbeats 8000000 in
set_option maxRecDepth 100000 in
theorem packet_Reader_Text.calls (k : Nat) (g : Nat) (s0_0 : List Int) (s0_1 : Bool) (a1 : Int) (r1 : ByteArray) (r2 : List Int) (r3 : Bool) (w0 w : World) (hI : IsS72 w0 w g s0_0 s0_1) (hB : Below w0.heap.size w0 w) (h : packet_Reader_Text.f k s0_0 s0_1 a1 = some (r1, r2, r3)) :
  Calls Tryd.prog 43 #[.pointer (some ⟨g, 0, none⟩), .int .i64 a1] w fun e w' => e = .returned (.string r1) ∧ IsS72 w0 w' g r2 r3 ∧ Below w0.heap.size w0 w' ∧ KeepBut w w' g none := by
 unfold packet_Reader_Text.f at h
 by_cases ca : 0 ≤ a1 ∧ a1 ≤ 1000000
 ·rw [if_pos ca] at h
  obtain ⟨ca0, ca1⟩ := ca
  cases hn : packet_Reader_Number.f k s0_0 s0_1 a1 with
  | none => rw [hn] at h; cases h
  | some p =>
   obtain ⟨n, s, b⟩ := p; rw [hn] at h; simp only [Option.bind_some] at h; have HN := am hn; clear hn; have HI := am hI; have HB := am hB; obtain ⟨A0, c0, hblk, hge, hC, hle⟩ := hI; have HG := am hge; have hc0 := cellS72_0 hblk; have hc1 := cellS72_1 hblk; have hf0 := blk_frozen hblk 0; have hf1 := blk_frozen hblk 1; clear hB hblk hge hC hle; obtain ⟨i0, hi0, hzz⟩ := Option.map_eq_some_iff.1 info5; simp only [Prod.mk.injEq] at hzz; have HZ := am hzz.2.1; have HI0 := am hi0; clear hzz hi0; have HS := am (HI.out.set_1 s0_1); have HBS := am (show Below w0.heap.size w0 (w.setCell ⟨g, 1, none⟩ (.bool s0_1)) from below_set HB.out HG.out); have HKS := am (KeepBut.set_ (KeepBut.refl w g none) 1 (.bool s0_1)); have hlt : decide (a1 < 0) = false := decide_eq_false (by omega)
   have hmx : mx a1 0 = a1 := by unfold mx; omega
   have hwr : IntKind.u64.wrap a1 = a1 := IntWalk.u64_in a1 ⟨ca0, by omega⟩; have CA := am ca1; clear ca1
   cases s0_1
   all_goals
    cases b
    ·-- false
     rw [if_neg (by decide)] at h
     by_cases cn : (s.length : Int) < n
     ·rw [if_pos cn] at h
      have cnb : decide ((s.length : Int) < n) = true := decide_eq_true cn; have h := Option.some.inj h; simp only [Prod.mk.injEq] at h; obtain ⟨rfl, rfl, rfl⟩ := h; clear cn
      go_enter Tryd.func43, Tryd.ntmps43
      go_wp2_with (go_at_call 19; refine (packet_Reader_Number.calls k g _ _ _ n s _ w0 _ HS.out HBS.out HN.out).mono ?_; rintro e w2 ⟨rfl, hi, hb, hk⟩; have HI2 := am hi; have HB2 := am hb; have HK2 := am (HKS.out.trans hk (.inl rfl)); obtain ⟨A2, c2, hblk2, hge2, hC2, hle2⟩ := hi; have hd0 := cellS72_0 hblk2; have hd1 := cellS72_1 hblk2; have he0 := blk_frozen hblk2 0; have he1 := blk_frozen hblk2 1; have HC2 := am hC2; have HL2 := am hle2; clear hb hk hblk2 hge2 hC2 hle2; have hsl := Kd.C_max HC2.out; have hlw : IntKind.u64.wrap ((s.length : Nat) : Int) = ((s.length : Nat) : Int) := IntWalk.u64_in _ ⟨by omega, by omega⟩)
      go_ret
      exact ⟨rfl, HI2.out.set_1 true, below_set HB2.out HG.out, KeepBut.set_ HK2.out _ _⟩
     ·rw [if_neg cn] at h
      have cnb : decide ((s.length : Int) < n) = false := decide_eq_false cn
      by_cases cp : 0 ≤ n
      ·rw [if_pos cp] at h
       have h := Option.some.inj h; simp only [Prod.mk.injEq] at h; obtain ⟨rfl, rfl, rfl⟩ := h; have HP := am cp; have HM := am (show n ≤ (s.length : Int) by omega); clear cn cp
       go_enter Tryd.func43, Tryd.ntmps43
       go_wp2_with (go_at_call 19; refine (packet_Reader_Number.calls k g _ _ _ n s _ w0 _ HS.out HBS.out HN.out).mono ?_; rintro e w2 ⟨rfl, hi, hb, hk⟩; have HI2 := am hi; have HB2 := am hb; have HK2 := am (HKS.out.trans hk (.inl rfl)); obtain ⟨A2, c2, hblk2, hge2, hC2, hle2⟩ := hi; have hd0 := cellS72_0 hblk2; have hd1 := cellS72_1 hblk2; have he0 := blk_frozen hblk2 0; have he1 := blk_frozen hblk2 1; have HC2 := am hC2; have HL2 := am hle2; clear hb hk hblk2 hge2 hC2 hle2; have htl : (s.take n.toNat).length = n.toNat := (by rw [List.length_take]; have := HM.out; omega); have hcut := cut_to (P := Tryd.prog) 31 5 .u64 Tryd.underlying31 HI0.out A2 s.length c2 n HP.out HM.out HL2.out; have hcu2 := cut_from (P := Tryd.prog) 31 5 .u64 Tryd.underlying31 HI0.out 1 HZ.out A2 s.length c2 n HP.out HM.out; obtain ⟨A3, hA3⟩ : ∃ A3 : Option Addr, A3 = (if c2 = n.toNat then A2 else A2.map (·.add (n.toNat * 1))) := ⟨_, rfl⟩; have HD := am (show Kd.C (Kd.int .u8) w0 A3 (s.drop n.toNat).length (s.drop n.toNat) ∧ (s.drop n.toNat).length ≤ c2 - n.toNat from ⟨by rw [hA3]; exact Kd.C_drop (m := n.toNat) HC2.out (by have := HM.out; omega) HL2.out, by rw [List.length_drop]; have := HL2.out; omega⟩); rw [← hA3] at hcu2; clear hA3; have hst := Kd.C_string (P := Tryd.prog) (w := w2) (src := 31) (dst := 9) (e := 5) (A := A2) (n := n.toNat) (c := c2) (xs := s.take n.toNat) Tryd.underlying31 Tryd.underlying5 Tryd.underlying9 (by have z_ := Kd.C_below (Kd.C_take (m := n.toNat) HC2.out (by have := HM.out; omega)) HB2.out; rw [htl] at z_; exact z_); clear htl; have hsl := Kd.C_max HC2.out; have hlw : IntKind.u64.wrap ((s.length : Nat) : Int) = ((s.length : Nat) : Int) := IntWalk.u64_in _ ⟨by omega, by omega⟩)
       go_ret
       exact ⟨rfl, (by have z_ := HI2.out.cut _ _ _ HD.out; rw [List.length_drop] at z_; exact z_), below_set HB2.out HG.out, KeepBut.set_ HK2.out _ _⟩
      ·rw [if_neg cp] at h; cases h
    ·-- true
     rw [if_pos rfl] at h; have h := Option.some.inj h; simp only [Prod.mk.injEq] at h; obtain ⟨rfl, rfl, rfl⟩ := h
     go_enter Tryd.func43, Tryd.ntmps43
     go_wp2_with (go_at_call 19; refine (packet_Reader_Number.calls k g _ _ _ n s _ w0 _ HS.out HBS.out HN.out).mono ?_; rintro e w2 ⟨rfl, hi, hb, hk⟩; have HI2 := am hi; have HB2 := am hb; have HK2 := am (HKS.out.trans hk (.inl rfl)); obtain ⟨A2, c2, hblk2, hge2, hC2, hle2⟩ := hi; have hd0 := cellS72_0 hblk2; have hd1 := cellS72_1 hblk2; have he0 := blk_frozen hblk2 0; have he1 := blk_frozen hblk2 1; have HC2 := am hC2; have HL2 := am hle2; clear hb hk hblk2 hge2 hC2 hle2)
     go_ret
     exact ⟨rfl, HI2.out.set_1 true, below_set HB2.out HG.out, KeepBut.set_ HK2.out _ _⟩
 ·rw [if_neg ca] at h; cases h
def packet_Reader_Bad.f (s0_0 : List Int) (s0_1 : Bool) : Option (Bool × List Int × Bool) := some (s0_1, s0_0, s0_1)
set_option maxHeartbeats 8000000 in
set_option maxRecDepth 100000 in
theorem packet_Reader_Bad.calls (g : Nat) (s0_0 : List Int) (s0_1 : Bool) (r1 : Bool) (r2 : List Int) (r3 : Bool) (w0 w : World) (hI : IsS72 w0 w g s0_0 s0_1) (hB : Below w0.heap.size w0 w) (h : packet_Reader_Bad.f s0_0 s0_1 = some (r1, r2, r3)) :
  Calls Tryd.prog 44 #[.pointer (some ⟨g, 0, none⟩)] w fun e w' => e = .returned (.bool r1) ∧ IsS72 w0 w' g r2 r3 ∧ Below w0.heap.size w0 w' ∧ KeepBut w w' g none := by
 have HI0 := am hI; have HK := am (KeepBut.refl w g none); have HL := am hB.size; clear hI; have HW0 := am hB.size; have HB := am hB; clear hB; have H : (some (s0_1, s0_0, s0_1)) = some (r1, r2, r3) := h; clear h; simp only [Option.some.injEq, Prod.mk.injEq] at H; obtain ⟨rfl, rfl, rfl⟩ := H; obtain ⟨ASz2_0, cSz2_0, HGz2, hgz2, HSz2_0⟩ := HI0.out; have hcz2_0 := cellS72_0 HGz2; have hcz2_1 := cellS72_1 HGz2; have hfz2_0 := blk_frozen HGz2 0; have hfz2_1 := blk_frozen HGz2 1; clear HGz2 hgz2
 go_enter Tryd.func44, Tryd.ntmps44
 go_wp2
 go_ret
 exact ⟨ap4, IsS72.u HI0.out, beg (IsS72.ge HI0.out) HB.out, ku HK.out⟩
end Go.Proofs.YtmcdbjcbfjnfoaaDoor.PAll
