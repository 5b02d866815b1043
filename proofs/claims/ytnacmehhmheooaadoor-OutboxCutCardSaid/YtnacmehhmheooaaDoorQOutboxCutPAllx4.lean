
import Derived.Test.YtnacmehhmheooaaDoorQOutboxCutPAllx0
import Derived.Test.YtnacmehhmheooaaDoorQOutboxCutPAllx1
import Derived.Test.YtnacmehhmheooaaDoorQOutboxCutPAllx2
import Derived.Test.YtnacmehhmheooaaDoorQOutboxCutPAllx3
namespace Go.Proofs.YtnacmehhmheooaaDoor.PAll
open Go.RowKit Go.Proofs.YtnacmehhmheooaaDoorW.PrintWords Go.Proofs.YtnacmehhmheooaaDoorW.PrintLast Go.Proofs.YtnacmehhmheooaaDoorW.PrintMore
attribute [local go_sem] max2_int min2_int max_two min_two
set_option linter.unusedVariables false
set_option linter.unusedSimpArgs false
attribute [local go_sem high] eqA27
def outbox_Right.l0 : Nat → List (S27) → List (S27) → Int → Int → Option (Bool)
 | 0, _, _, _, _ => none
 | k + 1, x0, x5, x6, x7 => if x7 < x6 then (if 0 ≤ x7 then (if x7 < (x5.length : Int) then ((outbox_one.f k ((rd_T27 x5 x7).f0) ((rd_T27 x5 x7).f1) ((rd_T27 x5 x7).f2) ((rd_T27 x5 x7).f3) ((rd_T27 x5 x7).f4) ((rd_T27 x5 x7).f5)).bind fun t247 => (if t247 = true then (if x7 > 0 then (if 0 ≤ (wrap64 (x7 - 1)) then (if (wrap64 (x7 - 1)) < (x0.length : Int) then (if ((rd_T27 x0 (wrap64 (x7 - 1))).f0) ≥ ((rd_T27 x5 x7).f0) then (some false) else (outbox_Right.l0 k x0 x5 x6 (wrap64 (x7 + 1)))) else (none)) else (none)) else (outbox_Right.l0 k x0 x5 x6 (wrap64 (x7 + 1)))) else (some false))) else (none)) else (none)) else (some true)
def outbox_Right.f (k : Nat) (l0 : List (S27)) : Option (Bool) := outbox_Right.l0 k l0 l0 (l0.length : Int) 0
def outbox_Right.T4 : Bool × List (List Nat × List Nat) := (true, [([], []), ([0], [0]), ([1], [1]), ([2, 1], [2]), ([3], [3]), ([4, 3], [3, 4]), ([5, 3, 3], [3, 5]), ([6], [6]), ([6], [6]), ([8, 6], [6, 8]), ([7, 9, 6], [6, 7, 9]), ([10, 6], [6, 10]), ([11, 6], [6, 11]), ([6], [6]), ([13, 6], [6, 13]), ([12, 14, 6], [6, 12, 14]), ([6, 15, 3], [3, 6, 15]), ([3, 16], [3, 16])])
def outbox_Right.B4 : List Nat := [0, 1, 3, 7, 15, 31, 63, 127, 127, 383, 1023, 2047, 4095, 127, 8319, 32767, 65535, 131071]
theorem outbox_Right.tab4 : rtab .any (opsOf Tryd.f16 4) = outbox_Right.T4 := by kernel_rfl
theorem outbox_Right.bits4 : waitsOk outbox_Right.T4.2 outbox_Right.B4 = true := by kernel_rfl
set_option maxHeartbeats 8000000 in
set_option maxRecDepth 100000 in
theorem outbox_Right.calls (k : Nat) (A0 : Option Addr) (c0 : Nat) (l0 : List (S27)) (r : Bool) (w : World) (hr0 : Kd.C k27 w A0 l0.length l0) (hc0 : l0.length ≤ c0) (hT : Tabs w) (h : outbox_Right.f k l0 = some r) :
  Calls Tryd.prog 16 #[.slice A0 l0.length c0] w fun e w' => e = .returned (.bool r) ∧ Below w.heap.size w w' := by
 have hu27 := Tryd.underlying27; have HR0 := am hr0; have HC0 := am hc0; clear hr0 hc0; have HT := am hT; clear hT; have HB := am (Below.refl w.heap.size w); have H : (outbox_Right.l0 k l0 l0 (l0.length : Int) 0) = some r := h; clear h; have H' := am H; clear H
 go_enter Tryd.func16, Tryd.ntmps16
 go_wp2
 go_loopg [7] k (fun kq v7 w' => ∃ (x7_1 : Int), v7 = .int .i64 x7_1 ∧ Aside0 (outbox_Right.l0 kq l0 l0 (l0.length : Int) x7_1 = some r) ∧ Aside0 (kq ≤ k) ∧ Aside0 (Below w.heap.size w w'))
 case atStart => exact ⟨(0), ap3, H', ⟨Nat.le_refl _⟩, ⟨beu HB.out⟩⟩
 case round =>
  clear H'; (try clear c1); obtain ⟨x7_1, rfl, HA, HK1, HB⟩ := hrel
  cases gk with
  | zero => exact absurd HA.out (by simp [outbox_Right.l0])
  | succ k1 =>
   have H := HA.out; clear HA; simp only [outbox_Right.l0] at H
   by_cases c2 : x7_1 < (l0.length : Int)
   ·rw [if_pos c2] at H
    have c2b0 : decide (x7_1 < (l0.length : Int)) = true := decide_eq_true c2; clear c2
    by_cases c3 : 0 ≤ x7_1
    ·rw [if_pos c3] at H
     have c3b0 : decide (0 ≤ x7_1) = true := decide_eq_true c3; clear c3
     by_cases c4 : x7_1 < (l0.length : Int)
     ·rw [if_pos c4] at H
      have c4b0 : decide (x7_1 < (l0.length : Int)) = true := decide_eq_true c4; clear c4; replace H := obm H; obtain ⟨t247, A50, H⟩ := H; replace H : (if t247 = true then (if x7_1 > 0 then (if 0 ≤ (wrap64 (x7_1 - 1)) then (if (wrap64 (x7_1 - 1)) < (l0.length : Int) then (if ((rd_T27 l0 (wrap64 (x7_1 - 1))).f0) ≥ ((rd_T27 l0 x7_1).f0) then (some false) else (outbox_Right.l0 k1 l0 l0 (l0.length : Int) (wrap64 (x7_1 + 1)))) else (none)) else (none)) else (outbox_Right.l0 k1 l0 l0 (l0.length : Int) (wrap64 (x7_1 + 1)))) else (some false)) = some r := H; have A5 := am A50; clear A50
      by_cases c6 : t247 = true
      ·subst c6
       have H1 : (if x7_1 > 0 then (if 0 ≤ (wrap64 (x7_1 - 1)) then (if (wrap64 (x7_1 - 1)) < (l0.length : Int) then (if ((rd_T27 l0 (wrap64 (x7_1 - 1))).f0) ≥ ((rd_T27 l0 x7_1).f0) then (some false) else (outbox_Right.l0 k1 l0 l0 (l0.length : Int) (wrap64 (x7_1 + 1)))) else (none)) else (none)) else (outbox_Right.l0 k1 l0 l0 (l0.length : Int) (wrap64 (x7_1 + 1)))) = some r := by rw [if_pos rfl] at H; exact H
       clear H; have H := H1; clear H1
       by_cases c7 : x7_1 > 0
       ·rw [if_pos c7] at H
        have c7b0 : decide (0 < x7_1) = true := decide_eq_true c7; clear c7; obtain ⟨ji8, hji8⟩ : ∃ j_ : Int, (wrap64 (x7_1 - 1)) = j_ := ⟨_, rfl⟩
        replace H : (if 0 ≤ (ji8) then (if (ji8) < (l0.length : Int) then (if ((rd_T27 l0 (ji8)).f0) ≥ ((rd_T27 l0 x7_1).f0) then (some false) else (outbox_Right.l0 k1 l0 l0 (l0.length : Int) (wrap64 (x7_1 + 1)))) else (none)) else (none)) = some r := by first | (rw [hji8] at H; exact H) | (simp only [hji8] at H ⊢; exact H)
        (try rw [hji8] at A5)
        have hji8w : (IntKind.i64.wrap (x7_1 - 1)) = ji8 := (i64_w _).trans hji8
        by_cases c9 : 0 ≤ (ji8)
        ·rw [if_pos c9] at H
         have c9b0 : decide (0 ≤ (ji8)) = true := decide_eq_true c9; clear c9
         by_cases c10 : (ji8) < (l0.length : Int)
         ·rw [if_pos c10] at H
          have c10b0 : decide ((ji8) < (l0.length : Int)) = true := decide_eq_true c10; clear c10
          by_cases c11 : ((rd_T27 l0 (ji8)).f0) ≥ ((rd_T27 l0 x7_1).f0)
          ·rw [if_pos c11] at H
           have c11b0 : decide (((rd_T27 l0 x7_1).f0) ≤ ((rd_T27 l0 (ji8)).f0)) = true := decide_eq_true c11; clear c11; obtain rfl := Option.some.inj H; simp only [Option.some.injEq, Prod.mk.injEq] at H; obtain ⟨rfl⟩ := H; have p245 : 0 ≤ (x7_1 : Int) := of_decide_eq_true ap2; have q245 : x7_1 < (l0.length : Int) := of_decide_eq_true ap2; obtain ⟨ad245, e245, hx245_0, hx245_1, hx245_2, hx245_3, hx245_4, hx245_5⟩ := at_T27 HR0.out x7_1 p245 q245
           cases e245
           replace hx245_0 := (HB.out.cell (World.block_lt_of_cell? w _ hx245_0)).trans hx245_0; replace hx245_1 := (HB.out.cell (World.block_lt_of_cell? w _ hx245_1)).trans hx245_1; replace hx245_2 := (HB.out.cell (World.block_lt_of_cell? w _ hx245_2)).trans hx245_2; replace hx245_3 := (HB.out.cell (World.block_lt_of_cell? w _ hx245_3)).trans hx245_3; replace hx245_4 := (HB.out.cell (World.block_lt_of_cell? w _ hx245_4)).trans hx245_4; replace hx245_5 := (HB.out.cell (World.block_lt_of_cell? w _ hx245_5)).trans hx245_5; replace p245 := eq_true p245; replace q245 := eq_true q245
           try go_wp2_with (first | ((with_reducible refine gate_dst (N := 4) rfl ?_); refine box_event ?hg (N := 4) ?hd (cs := #[.int .i64 0, .int .i64 0, .int .i64 0, .int .i64 0, .int .i64 0, .string ⟨#[]⟩]) (t := 27) ?hr ?_; (case hd => rfl); (case hg => rfl); (case hr => first | (go_simp; done) | (go_simp; rfl)); intro gb246 hg w12 hbox hb; have _ := am (below_step (beu HB.out) hb); have _ := am (hbox); have _ := am ((by rw [hg]; exact (below_size (beu HB.out)) : w.heap.size ≤ gb246)); have _ := am ((by rw [hg]; exact (below_size (beu HB.out)) : w.heap.size ≤ gb246)); clear HB; rename_i HB BK246 GW246 GE246; clear hb hbox hg; obtain ⟨_, _, _, _, _, _⟩ := cells6 BK246.out; obtain ⟨_, _, _, _, _, _⟩ := frozens6 BK246.out))
           have n0_ : Aside0 (((((((w12.setCell ⟨gb246, 0, none⟩ (.int .i64 ((rd_T27 l0 x7_1).f0))).setCell ⟨gb246, 1, none⟩ (.int .i64 ((rd_T27 l0 x7_1).f1))).setCell ⟨gb246, 2, none⟩ (.int .i64 ((rd_T27 l0 x7_1).f2))).setCell ⟨gb246, 3, none⟩ (.int .i64 ((rd_T27 l0 x7_1).f3))).setCell ⟨gb246, 4, none⟩ (.int .i64 ((rd_T27 l0 x7_1).f4))).setCell ⟨gb246, 5, none⟩ (.string ((rd_T27 l0 x7_1).f5))).heap[gb246]? = some (.cells #[.int .i64 ((rd_T27 l0 x7_1).f0), .int .i64 ((rd_T27 l0 x7_1).f1), .int .i64 ((rd_T27 l0 x7_1).f2), .int .i64 ((rd_T27 l0 x7_1).f3), .int .i64 ((rd_T27 l0 x7_1).f4), .string ((rd_T27 l0 x7_1).f5)] 27 (0, 0))) := ⟨by refine bu ?_; refine blk_put (cs := #[.int .i64 ((rd_T27 l0 x7_1).f0), .int .i64 ((rd_T27 l0 x7_1).f1), .int .i64 ((rd_T27 l0 x7_1).f2), .int .i64 ((rd_T27 l0 x7_1).f3), .int .i64 ((rd_T27 l0 x7_1).f4), .string ⟨#[]⟩]) ?_ 5 _ rfl; refine bu ?_; refine blk_put (cs := #[.int .i64 ((rd_T27 l0 x7_1).f0), .int .i64 ((rd_T27 l0 x7_1).f1), .int .i64 ((rd_T27 l0 x7_1).f2), .int .i64 ((rd_T27 l0 x7_1).f3), .int .i64 0, .string ⟨#[]⟩]) ?_ 4 _ rfl; refine bu ?_; refine blk_put (cs := #[.int .i64 ((rd_T27 l0 x7_1).f0), .int .i64 ((rd_T27 l0 x7_1).f1), .int .i64 ((rd_T27 l0 x7_1).f2), .int .i64 0, .int .i64 0, .string ⟨#[]⟩]) ?_ 3 _ rfl; refine bu ?_; refine blk_put (cs := #[.int .i64 ((rd_T27 l0 x7_1).f0), .int .i64 ((rd_T27 l0 x7_1).f1), .int .i64 0, .int .i64 0, .int .i64 0, .string ⟨#[]⟩]) ?_ 2 _ rfl; refine bu ?_; refine blk_put (cs := #[.int .i64 ((rd_T27 l0 x7_1).f0), .int .i64 0, .int .i64 0, .int .i64 0, .int .i64 0, .string ⟨#[]⟩]) ?_ 1 _ rfl; refine bu ?_; refine blk_put (cs := #[.int .i64 0, .int .i64 0, .int .i64 0, .int .i64 0, .int .i64 0, .string ⟨#[]⟩]) ?_ 0 _ rfl; refine bu ?_; exact BK246.out⟩; have n1_ : Aside0 (Below w.heap.size w ((((((w12.setCell ⟨gb246, 0, none⟩ (.int .i64 ((rd_T27 l0 x7_1).f0))).setCell ⟨gb246, 1, none⟩ (.int .i64 ((rd_T27 l0 x7_1).f1))).setCell ⟨gb246, 2, none⟩ (.int .i64 ((rd_T27 l0 x7_1).f2))).setCell ⟨gb246, 3, none⟩ (.int .i64 ((rd_T27 l0 x7_1).f3))).setCell ⟨gb246, 4, none⟩ (.int .i64 ((rd_T27 l0 x7_1).f4))).setCell ⟨gb246, 5, none⟩ (.string ((rd_T27 l0 x7_1).f5)))) := ⟨beu HB.out⟩
           (try clear BK246)
           (try clear HB)
           generalize ((((((w12.setCell ⟨gb246, 0, none⟩ (.int .i64 ((rd_T27 l0 x7_1).f0))).setCell ⟨gb246, 1, none⟩ (.int .i64 ((rd_T27 l0 x7_1).f1))).setCell ⟨gb246, 2, none⟩ (.int .i64 ((rd_T27 l0 x7_1).f2))).setCell ⟨gb246, 3, none⟩ (.int .i64 ((rd_T27 l0 x7_1).f3))).setCell ⟨gb246, 4, none⟩ (.int .i64 ((rd_T27 l0 x7_1).f4))).setCell ⟨gb246, 5, none⟩ (.string ((rd_T27 l0 x7_1).f5))) = w14 at n0_ n1_ ⊢; have BK246 := n0_; have HB := n1_; clear n0_ n1_
           (try (rw [drewN_self w14]; generalize hq_ : World.drewN w14 _ = w14; have _ := am (blk_at hq_ BK246.out); have _ := am (below_at hq_ HB.out); clear hq_ BK246 HB; rename_i BK246 HB))
           have n0_ := am (blk_drew BK246.out); have n1_ := am (below_drew1 HB.out); clear BK246 HB; have BK246 := n0_; have HB := n1_; clear n0_ n1_; have p248 : 0 ≤ ((ji8) : Int) := of_decide_eq_true ap2; have q248 : (ji8) < (l0.length : Int) := of_decide_eq_true ap2; obtain ⟨ad248, e248, hx248_0, hx248_1, hx248_2, hx248_3, hx248_4, hx248_5⟩ := at_T27 HR0.out (ji8) p248 q248; have hw248_5 := hx248_5; have hw248_4 := hx248_4; have hw248_3 := hx248_3; have hw248_2 := hx248_2; have hw248_1 := hx248_1; have hw248_0 := hx248_0; obtain rfl : ad245 = ad248 := (by injection e248); replace hx248_0 := (HB.out.cell (World.block_lt_of_cell? w _ hx248_0)).trans hx248_0; replace hx248_1 := (HB.out.cell (World.block_lt_of_cell? w _ hx248_1)).trans hx248_1; replace hx248_2 := (HB.out.cell (World.block_lt_of_cell? w _ hx248_2)).trans hx248_2; replace hx248_3 := (HB.out.cell (World.block_lt_of_cell? w _ hx248_3)).trans hx248_3; replace hx248_4 := (HB.out.cell (World.block_lt_of_cell? w _ hx248_4)).trans hx248_4; replace hx248_5 := (HB.out.cell (World.block_lt_of_cell? w _ hx248_5)).trans hx248_5; replace p248 := eq_true p248; replace q248 := eq_true q248
           refine start_ (n := 18) (S := fun w' => w'.cell? ⟨gb246, 0, none⟩ = some (.int .i64 ((rd_T27 l0 x7_1).f0)) ∧ w'.cell? ⟨gb246, 1, none⟩ = some (.int .i64 ((rd_T27 l0 x7_1).f1)) ∧ w'.cell? ⟨gb246, 2, none⟩ = some (.int .i64 ((rd_T27 l0 x7_1).f2)) ∧ w'.cell? ⟨gb246, 3, none⟩ = some (.int .i64 ((rd_T27 l0 x7_1).f3)) ∧ w'.cell? ⟨gb246, 4, none⟩ = some (.int .i64 ((rd_T27 l0 x7_1).f4)) ∧ w'.cell? ⟨gb246, 5, none⟩ = some (.string ((rd_T27 l0 x7_1).f5)) ∧ w'.cell? (ad245.add (((ji8)).toNat * 6)) = some (.int .i64 ((rd_T27 l0 (ji8)).f0)) ∧ w'.cell? ⟨(ad245.add (((ji8)).toNat * 6)).block, (ad245.add (((ji8)).toNat * 6)).off + 1, none⟩ = some (.int .i64 ((rd_T27 l0 (ji8)).f1)) ∧ w'.cell? ⟨(ad245.add (((ji8)).toNat * 6)).block, (ad245.add (((ji8)).toNat * 6)).off + 2, none⟩ = some (.int .i64 ((rd_T27 l0 (ji8)).f2)) ∧ w'.cell? ⟨(ad245.add (((ji8)).toNat * 6)).block, (ad245.add (((ji8)).toNat * 6)).off + 3, none⟩ = some (.int .i64 ((rd_T27 l0 (ji8)).f3)) ∧ w'.cell? ⟨(ad245.add (((ji8)).toNat * 6)).block, (ad245.add (((ji8)).toNat * 6)).off + 4, none⟩ = some (.int .i64 ((rd_T27 l0 (ji8)).f4)) ∧ w'.cell? ⟨(ad245.add (((ji8)).toNat * 6)).block, (ad245.add (((ji8)).toNat * 6)).off + 5, none⟩ = some (.string ((rd_T27 l0 (ji8)).f5))) (ds := []) #[false, false, false, false, false, false, false, false, false, false, false, false, false, false, false, false, false, false] (by kernel_rfl) rfl rfl ⟨(blk_cell BK246.out 0).trans rfl, (blk_cell BK246.out 1).trans rfl, (blk_cell BK246.out 2).trans rfl, (blk_cell BK246.out 3).trans rfl, (blk_cell BK246.out 4).trans rfl, (blk_cell BK246.out 5).trans rfl, ((HB.out.cell (World.block_lt_of_cell? w _ hw248_0)).trans hw248_0), ((HB.out.cell (World.block_lt_of_cell? w _ hw248_1)).trans hw248_1), ((HB.out.cell (World.block_lt_of_cell? w _ hw248_2)).trans hw248_2), ((HB.out.cell (World.block_lt_of_cell? w _ hw248_3)).trans hw248_3), ((HB.out.cell (World.block_lt_of_cell? w _ hw248_4)).trans hw248_4), ((HB.out.cell (World.block_lt_of_cell? w _ hw248_5)).trans hw248_5)⟩ (fun hHeld => ?_); refine with_tabW outbox_Right.tab4 outbox_Right.bits4 (fun HT_ HW_ => ?_)
           generalize w14.drew = w15 at BK246 HB hx248_0 hx248_1 hx248_2 hx248_3 hx248_4 hx248_5 hHeld ⊢; refine take_ (i := 0) (N := some 12) (v := ?_) (a' := ?_) (bs 18 1) rfl rfl (take_ofW HT_.out HW_.out (by kernel_rfl)) (fun _ _ _ h => h) (Or.inl ⟨by rfl, ?_⟩) hHeld ?_ ?_; rotate_left
           ·rintro w' ⟨s0, s1, s2, s3, s4, s5, s6, s7, s8, s9, s10, s11⟩
            go_simp
            with_reducible rfl
           rotate_left
           ·simp only [Act.put, sA, sB, sC, i64_w, i32_w]
            rfl
           refine one_ (i := 1) (N := some 13) (bs 18 3) rfl rfl (one_of HT_.out (by kernel_rfl)) (by decide) (fun K hK => ?_); refine goes_ Tryd.func31 (by kernel_rfl) rfl #[.agg #[.int .i64 ((rd_T27 l0 x7_1).f0), .int .i64 ((rd_T27 l0 x7_1).f1), .int .i64 ((rd_T27 l0 x7_1).f2), .int .i64 ((rd_T27 l0 x7_1).f3), .int .i64 ((rd_T27 l0 x7_1).f4), .string ((rd_T27 l0 x7_1).f5)]] (by rfl) rfl rfl ap1 ?_; with_reducible refine (outbox_one.calls k1 ((rd_T27 l0 x7_1).f0) ((rd_T27 l0 x7_1).f1) ((rd_T27 l0 x7_1).f2) ((rd_T27 l0 x7_1).f3) ((rd_T27 l0 x7_1).f4) ((rd_T27 l0 x7_1).f5) true _ ?side1 A5.out).mono ?_
           (case side1 => first | (with_reducible exact HT.out) | exact Tabs.below HT.out (beu HB.out))
           rintro e w16 ⟨rfl, hb⟩; refine ⟨_, rfl, ?_⟩; have n0_ := am (blk_below (bu BK246.out) hb); have n1_ := am (below_step (beu HB.out) hb); clear BK246 HB; have BK246 := n0_; have HB := n1_; clear n0_ n1_
           (try clear hb)
           (try clear hb2)
           (try clear hk)
           (try clear hi)
           refine hK.out _ _ ⟨(blk_cell BK246.out 0).trans rfl, (blk_cell BK246.out 1).trans rfl, (blk_cell BK246.out 2).trans rfl, (blk_cell BK246.out 3).trans rfl, (blk_cell BK246.out 4).trans rfl, (blk_cell BK246.out 5).trans rfl, ((HB.out.cell (World.block_lt_of_cell? w _ hw248_0)).trans hw248_0), ((HB.out.cell (World.block_lt_of_cell? w _ hw248_1)).trans hw248_1), ((HB.out.cell (World.block_lt_of_cell? w _ hw248_2)).trans hw248_2), ((HB.out.cell (World.block_lt_of_cell? w _ hw248_3)).trans hw248_3), ((HB.out.cell (World.block_lt_of_cell? w _ hw248_4)).trans hw248_4), ((HB.out.cell (World.block_lt_of_cell? w _ hw248_5)).trans hw248_5)⟩ (fun hHeld => ?_); clear hK K; refine norm_ (a' := ?_) ?_ ?_; rotate_left
           ·show Act.put _ (some 13) _ = _
            simp only [Act.put, sA, sB, sC, i64_w, i32_w]
            rfl
           refine pure_ (i := 2) (N := some 14) (v := ?_) (a' := ?_) (bs 18 7) rfl rfl (ak HT_.out) (fun _ _ _ h => h) (Or.inl ⟨by rfl, ?_⟩) ?_ ?_; rotate_left
           ·intro w'
            go_simp
            with_reducible rfl
           rotate_left
           ·simp only [Act.put, sA, sB, sC, i64_w, i32_w]
            rfl
           refine pure_ (i := 3) (N := some 15) (v := ?_) (a' := ?_) (bs 18 15) rfl rfl (ak HT_.out) (fun _ _ _ h => h) (Or.inl ⟨by rfl, ?_⟩) ?_ ?_; rotate_left
           ·intro w'
            go_simp
            with_reducible rfl
           rotate_left
           ·simp only [Act.put, sA, sB, sC, i64_w, i32_w]
            rfl
           refine pure_ (i := 4) (N := some 16) (v := ?_) (a' := ?_) (bs 18 31) rfl rfl (ak HT_.out) (fun _ _ _ h => h) (Or.inl ⟨by rfl, ?_⟩) ?_ ?_; rotate_left
           ·intro w'
            go_simp
            with_reducible rfl
           rotate_left
           ·simp only [Act.put, sA, sB, sC, i64_w, i32_w]
            rfl
           refine pure_ (i := 5) (N := some 17) (v := ?_) (a' := ?_) (bs 18 63) rfl rfl (ak HT_.out) (fun _ _ _ h => h) (Or.inl ⟨by rfl, ?_⟩) ?_ ?_; rotate_left
           ·intro w'
            go_simp
            with_reducible rfl
           rotate_left
           ·simp only [Act.put, sA, sB, sC, i64_w, i32_w]
            rfl
           refine pure_ (i := 6) (N := some 18) (v := ?_) (a' := ?_) (bs 18 127) rfl rfl (ak HT_.out) (fun _ _ _ h => h) (Or.inl ⟨by rfl, ?_⟩) ?_ ?_; rotate_left
           ·intro w'
            go_simp
            with_reducible rfl
           rotate_left
           ·simp only [Act.put, sA, sB, sC, i64_w, i32_w]
            rfl
           refine pure_ (i := 7) (N := some 19) (v := ?_) (a' := ?_) (bs 18 255) rfl rfl (ak HT_.out) (fun _ _ _ h => h) (Or.inl ⟨by rfl, ?_⟩) ?_ ?_; rotate_left
           ·intro w'
            go_simp
            with_reducible rfl
           rotate_left
           ·simp only [Act.put, sA, sB, sC, i64_w, i32_w]
            rfl
           refine pure_ (i := 8) (N := some 20) (v := ?_) (a' := ?_) (bs 18 511) rfl rfl (ak HT_.out) (fun _ _ _ h => h) (Or.inl ⟨by rfl, ?_⟩) ?_ ?_; rotate_left
           ·intro w'
            go_simp
            with_reducible rfl
           rotate_left
           ·simp only [Act.put, sA, sB, sC, i64_w, i32_w]
            rfl
           refine pure_ (i := 9) (N := some 21) (v := ?_) (a' := ?_) (bs 18 1023) rfl rfl (ak HT_.out) (fun _ _ _ h => h) (Or.inl ⟨by rfl, ?_⟩) ?_ ?_; rotate_left
           ·intro w'
            go_simp
            with_reducible rfl
           rotate_left
           ·simp only [Act.put, sA, sB, sC, i64_w, i32_w]
            rfl
           refine pure_ (i := 10) (N := some 22) (v := ?_) (a' := ?_) (bs 18 2047) rfl rfl (ak HT_.out) (fun _ _ _ h => h) (Or.inl ⟨by rfl, ?_⟩) ?_ ?_; rotate_left
           ·intro w'
            go_simp
            with_reducible rfl
           rotate_left
           ·simp only [Act.put, sA, sB, sC, i64_w, i32_w]
            rfl
           refine pure_ (i := 11) (N := some 23) (v := ?_) (a' := ?_) (bs 18 4095) rfl rfl (ak HT_.out) (fun _ _ _ h => h) (Or.inl ⟨by rfl, ?_⟩) ?_ ?_; rotate_left
           ·intro w'
            go_simp
            with_reducible rfl
           rotate_left
           ·simp only [Act.put, sA, sB, sC, i64_w, i32_w]
            rfl
           refine pure_ (i := 13) (N := some 25) (v := ?_) (a' := ?_) (bs 18 12287) rfl rfl (ak HT_.out) (fun _ _ _ h => h) (Or.inl ⟨by rfl, ?_⟩) ?_ ?_; rotate_left
           ·intro w'
            go_simp
            with_reducible rfl
           rotate_left
           ·simp only [Act.put, sA, sB, sC, i64_w, i32_w]
            rfl
           refine take_ (i := 12) (N := some 24) (v := ?_) (a' := ?_) (bs 18 16383) rfl rfl (take_ofW HT_.out HW_.out (by kernel_rfl)) (fun _ _ _ h => h) (Or.inl ⟨by rfl, ?_⟩) hHeld ?_ ?_; rotate_left
           ·rintro w' ⟨s0, s1, s2, s3, s4, s5, s6, s7, s8, s9, s10, s11⟩
            go_simp
            with_reducible rfl
           rotate_left
           ·simp only [Act.put, sA, sB, sC, i64_w, i32_w]
            rfl
           refine take_ (i := 14) (N := some 26) (v := ?_) (a' := ?_) (bs 18 32767) rfl rfl (take_ofW HT_.out HW_.out (by kernel_rfl)) (fun _ _ _ h => h) (Or.inl ⟨by rfl, ?_⟩) hHeld ?_ ?_; rotate_left
           ·rintro w' ⟨s0, s1, s2, s3, s4, s5, s6, s7, s8, s9, s10, s11⟩
            go_simp
            with_reducible rfl
           rotate_left
           ·simp only [Act.put, sA, sB, sC, i64_w, i32_w]
            rfl
           refine pure_ (i := 15) (N := some 27) (v := ?_) (a' := ?_) (bs 18 65535) rfl rfl (ak HT_.out) (fun _ _ _ h => h) (Or.inl ⟨by rfl, ?_⟩) ?_ ?_; rotate_left
           ·intro w'
            go_simp
            with_reducible rfl
           rotate_left
           ·simp only [Act.put, sA, sB, sC, i64_w, i32_w]
            rfl
           refine pure_ (i := 16) (N := some 28) (v := ?_) (a' := ?_) (bs 18 131071) rfl rfl (ak HT_.out) (fun _ _ _ h => h) (Or.inl ⟨by rfl, ?_⟩) ?_ ?_; rotate_left
           ·intro w'
            go_simp
            with_reducible rfl
           rotate_left
           ·simp only [Act.put, sA, sB, sC, i64_w, i32_w]
            rfl
           refine pure_ (i := 17) (N := some 29) (v := ?_) (a' := ?_) (bs 18 262143) rfl rfl (ak HT_.out) (fun _ _ _ h => h) (Or.inl ⟨by rfl, ?_⟩) ?_ ?_; rotate_left
           ·intro w'
            go_simp
            with_reducible rfl
           rotate_left
           ·simp only [Act.put, sA, sB, sC, i64_w, i32_w]
            rfl
           refine done_ (done_of HT_.out (by kernel_rfl)) ?_
           try go_wp2
           go_ret
           exact ⟨by first | rfl | (simp [errW_none, errW_some] <;> rfl) | (simp only [← hji8]; first | rfl | (simp [errW_none, errW_some] <;> rfl)) | (simp [*, errW_none, errW_some] <;> rfl), beu HB.out⟩
          ·rw [if_neg c11] at H
           have c11b0 : decide (((rd_T27 l0 x7_1).f0) ≤ ((rd_T27 l0 (ji8)).f0)) = false := decide_eq_false c11; clear c11; have H' := am H; clear H; have p245 : 0 ≤ (x7_1 : Int) := of_decide_eq_true ap2; have q245 : x7_1 < (l0.length : Int) := of_decide_eq_true ap2; obtain ⟨ad245, e245, hx245_0, hx245_1, hx245_2, hx245_3, hx245_4, hx245_5⟩ := at_T27 HR0.out x7_1 p245 q245
           cases e245
           replace hx245_0 := (HB.out.cell (World.block_lt_of_cell? w _ hx245_0)).trans hx245_0; replace hx245_1 := (HB.out.cell (World.block_lt_of_cell? w _ hx245_1)).trans hx245_1; replace hx245_2 := (HB.out.cell (World.block_lt_of_cell? w _ hx245_2)).trans hx245_2; replace hx245_3 := (HB.out.cell (World.block_lt_of_cell? w _ hx245_3)).trans hx245_3; replace hx245_4 := (HB.out.cell (World.block_lt_of_cell? w _ hx245_4)).trans hx245_4; replace hx245_5 := (HB.out.cell (World.block_lt_of_cell? w _ hx245_5)).trans hx245_5; replace p245 := eq_true p245; replace q245 := eq_true q245
           try go_wp2_with (first | ((with_reducible refine gate_dst (N := 4) rfl ?_); refine box_event ?hg (N := 4) ?hd (cs := #[.int .i64 0, .int .i64 0, .int .i64 0, .int .i64 0, .int .i64 0, .string ⟨#[]⟩]) (t := 27) ?hr ?_; (case hd => rfl); (case hg => rfl); (case hr => first | (go_simp; done) | (go_simp; rfl)); intro gb246 hg w17 hbox hb; have _ := am (below_step (beu HB.out) hb); have _ := am (hbox); have _ := am ((by rw [hg]; exact (below_size (beu HB.out)) : w.heap.size ≤ gb246)); have _ := am ((by rw [hg]; exact (below_size (beu HB.out)) : w.heap.size ≤ gb246)); clear HB; rename_i HB BK246 GW246 GE246; clear hb hbox hg; obtain ⟨hcz18_0, hcz18_1, hcz18_2, hcz18_3, hcz18_4, hcz18_5⟩ := cells6 BK246.out; obtain ⟨hfz18_0, hfz18_1, hfz18_2, hfz18_3, hfz18_4, hfz18_5⟩ := frozens6 BK246.out))
           have n0_ : Aside0 (((((((w17.setCell ⟨gb246, 0, none⟩ (.int .i64 ((rd_T27 l0 x7_1).f0))).setCell ⟨gb246, 1, none⟩ (.int .i64 ((rd_T27 l0 x7_1).f1))).setCell ⟨gb246, 2, none⟩ (.int .i64 ((rd_T27 l0 x7_1).f2))).setCell ⟨gb246, 3, none⟩ (.int .i64 ((rd_T27 l0 x7_1).f3))).setCell ⟨gb246, 4, none⟩ (.int .i64 ((rd_T27 l0 x7_1).f4))).setCell ⟨gb246, 5, none⟩ (.string ((rd_T27 l0 x7_1).f5))).heap[gb246]? = some (.cells #[.int .i64 ((rd_T27 l0 x7_1).f0), .int .i64 ((rd_T27 l0 x7_1).f1), .int .i64 ((rd_T27 l0 x7_1).f2), .int .i64 ((rd_T27 l0 x7_1).f3), .int .i64 ((rd_T27 l0 x7_1).f4), .string ((rd_T27 l0 x7_1).f5)] 27 (0, 0))) := ⟨by refine bu ?_; refine blk_put (cs := #[.int .i64 ((rd_T27 l0 x7_1).f0), .int .i64 ((rd_T27 l0 x7_1).f1), .int .i64 ((rd_T27 l0 x7_1).f2), .int .i64 ((rd_T27 l0 x7_1).f3), .int .i64 ((rd_T27 l0 x7_1).f4), .string ⟨#[]⟩]) ?_ 5 _ rfl; refine bu ?_; refine blk_put (cs := #[.int .i64 ((rd_T27 l0 x7_1).f0), .int .i64 ((rd_T27 l0 x7_1).f1), .int .i64 ((rd_T27 l0 x7_1).f2), .int .i64 ((rd_T27 l0 x7_1).f3), .int .i64 0, .string ⟨#[]⟩]) ?_ 4 _ rfl; refine bu ?_; refine blk_put (cs := #[.int .i64 ((rd_T27 l0 x7_1).f0), .int .i64 ((rd_T27 l0 x7_1).f1), .int .i64 ((rd_T27 l0 x7_1).f2), .int .i64 0, .int .i64 0, .string ⟨#[]⟩]) ?_ 3 _ rfl; refine bu ?_; refine blk_put (cs := #[.int .i64 ((rd_T27 l0 x7_1).f0), .int .i64 ((rd_T27 l0 x7_1).f1), .int .i64 0, .int .i64 0, .int .i64 0, .string ⟨#[]⟩]) ?_ 2 _ rfl; refine bu ?_; refine blk_put (cs := #[.int .i64 ((rd_T27 l0 x7_1).f0), .int .i64 0, .int .i64 0, .int .i64 0, .int .i64 0, .string ⟨#[]⟩]) ?_ 1 _ rfl; refine bu ?_; refine blk_put (cs := #[.int .i64 0, .int .i64 0, .int .i64 0, .int .i64 0, .int .i64 0, .string ⟨#[]⟩]) ?_ 0 _ rfl; refine bu ?_; exact BK246.out⟩; have n1_ : Aside0 (Below w.heap.size w ((((((w17.setCell ⟨gb246, 0, none⟩ (.int .i64 ((rd_T27 l0 x7_1).f0))).setCell ⟨gb246, 1, none⟩ (.int .i64 ((rd_T27 l0 x7_1).f1))).setCell ⟨gb246, 2, none⟩ (.int .i64 ((rd_T27 l0 x7_1).f2))).setCell ⟨gb246, 3, none⟩ (.int .i64 ((rd_T27 l0 x7_1).f3))).setCell ⟨gb246, 4, none⟩ (.int .i64 ((rd_T27 l0 x7_1).f4))).setCell ⟨gb246, 5, none⟩ (.string ((rd_T27 l0 x7_1).f5)))) := ⟨beu HB.out⟩
           (try clear BK246)
           (try clear HB)
           generalize ((((((w17.setCell ⟨gb246, 0, none⟩ (.int .i64 ((rd_T27 l0 x7_1).f0))).setCell ⟨gb246, 1, none⟩ (.int .i64 ((rd_T27 l0 x7_1).f1))).setCell ⟨gb246, 2, none⟩ (.int .i64 ((rd_T27 l0 x7_1).f2))).setCell ⟨gb246, 3, none⟩ (.int .i64 ((rd_T27 l0 x7_1).f3))).setCell ⟨gb246, 4, none⟩ (.int .i64 ((rd_T27 l0 x7_1).f4))).setCell ⟨gb246, 5, none⟩ (.string ((rd_T27 l0 x7_1).f5))) = w19 at n0_ n1_ ⊢; have BK246 := n0_; have HB := n1_; clear n0_ n1_
           (try (rw [drewN_self w19]; generalize hq_ : World.drewN w19 _ = w19; have _ := am (blk_at hq_ BK246.out); have _ := am (below_at hq_ HB.out); clear hq_ BK246 HB; rename_i BK246 HB))
           have n0_ := am (blk_drew BK246.out); have n1_ := am (below_drew1 HB.out); clear BK246 HB; have BK246 := n0_; have HB := n1_; clear n0_ n1_; have p248 : 0 ≤ ((ji8) : Int) := of_decide_eq_true ap2; have q248 : (ji8) < (l0.length : Int) := of_decide_eq_true ap2; obtain ⟨ad248, e248, hx248_0, hx248_1, hx248_2, hx248_3, hx248_4, hx248_5⟩ := at_T27 HR0.out (ji8) p248 q248; have hw248_5 := hx248_5; have hw248_4 := hx248_4; have hw248_3 := hx248_3; have hw248_2 := hx248_2; have hw248_1 := hx248_1; have hw248_0 := hx248_0; obtain rfl : ad245 = ad248 := (by injection e248); replace hx248_0 := (HB.out.cell (World.block_lt_of_cell? w _ hx248_0)).trans hx248_0; replace hx248_1 := (HB.out.cell (World.block_lt_of_cell? w _ hx248_1)).trans hx248_1; replace hx248_2 := (HB.out.cell (World.block_lt_of_cell? w _ hx248_2)).trans hx248_2; replace hx248_3 := (HB.out.cell (World.block_lt_of_cell? w _ hx248_3)).trans hx248_3; replace hx248_4 := (HB.out.cell (World.block_lt_of_cell? w _ hx248_4)).trans hx248_4; replace hx248_5 := (HB.out.cell (World.block_lt_of_cell? w _ hx248_5)).trans hx248_5; replace p248 := eq_true p248; replace q248 := eq_true q248
           refine start_ (n := 18) (S := fun w' => w'.cell? ⟨gb246, 0, none⟩ = some (.int .i64 ((rd_T27 l0 x7_1).f0)) ∧ w'.cell? ⟨gb246, 1, none⟩ = some (.int .i64 ((rd_T27 l0 x7_1).f1)) ∧ w'.cell? ⟨gb246, 2, none⟩ = some (.int .i64 ((rd_T27 l0 x7_1).f2)) ∧ w'.cell? ⟨gb246, 3, none⟩ = some (.int .i64 ((rd_T27 l0 x7_1).f3)) ∧ w'.cell? ⟨gb246, 4, none⟩ = some (.int .i64 ((rd_T27 l0 x7_1).f4)) ∧ w'.cell? ⟨gb246, 5, none⟩ = some (.string ((rd_T27 l0 x7_1).f5)) ∧ w'.cell? (ad245.add (((ji8)).toNat * 6)) = some (.int .i64 ((rd_T27 l0 (ji8)).f0)) ∧ w'.cell? ⟨(ad245.add (((ji8)).toNat * 6)).block, (ad245.add (((ji8)).toNat * 6)).off + 1, none⟩ = some (.int .i64 ((rd_T27 l0 (ji8)).f1)) ∧ w'.cell? ⟨(ad245.add (((ji8)).toNat * 6)).block, (ad245.add (((ji8)).toNat * 6)).off + 2, none⟩ = some (.int .i64 ((rd_T27 l0 (ji8)).f2)) ∧ w'.cell? ⟨(ad245.add (((ji8)).toNat * 6)).block, (ad245.add (((ji8)).toNat * 6)).off + 3, none⟩ = some (.int .i64 ((rd_T27 l0 (ji8)).f3)) ∧ w'.cell? ⟨(ad245.add (((ji8)).toNat * 6)).block, (ad245.add (((ji8)).toNat * 6)).off + 4, none⟩ = some (.int .i64 ((rd_T27 l0 (ji8)).f4)) ∧ w'.cell? ⟨(ad245.add (((ji8)).toNat * 6)).block, (ad245.add (((ji8)).toNat * 6)).off + 5, none⟩ = some (.string ((rd_T27 l0 (ji8)).f5))) (ds := []) #[false, false, false, false, false, false, false, false, false, false, false, false, false, false, false, false, false, false] (by kernel_rfl) rfl rfl ⟨(blk_cell BK246.out 0).trans rfl, (blk_cell BK246.out 1).trans rfl, (blk_cell BK246.out 2).trans rfl, (blk_cell BK246.out 3).trans rfl, (blk_cell BK246.out 4).trans rfl, (blk_cell BK246.out 5).trans rfl, ((HB.out.cell (World.block_lt_of_cell? w _ hw248_0)).trans hw248_0), ((HB.out.cell (World.block_lt_of_cell? w _ hw248_1)).trans hw248_1), ((HB.out.cell (World.block_lt_of_cell? w _ hw248_2)).trans hw248_2), ((HB.out.cell (World.block_lt_of_cell? w _ hw248_3)).trans hw248_3), ((HB.out.cell (World.block_lt_of_cell? w _ hw248_4)).trans hw248_4), ((HB.out.cell (World.block_lt_of_cell? w _ hw248_5)).trans hw248_5)⟩ (fun hHeld => ?_); refine with_tabW outbox_Right.tab4 outbox_Right.bits4 (fun HT_ HW_ => ?_)
           generalize w19.drew = w20 at BK246 HB hx248_0 hx248_1 hx248_2 hx248_3 hx248_4 hx248_5 hHeld ⊢; refine take_ (i := 0) (N := some 12) (v := ?_) (a' := ?_) (bs 18 1) rfl rfl (take_ofW HT_.out HW_.out (by kernel_rfl)) (fun _ _ _ h => h) (Or.inl ⟨by rfl, ?_⟩) hHeld ?_ ?_; rotate_left
           ·rintro w' ⟨s0, s1, s2, s3, s4, s5, s6, s7, s8, s9, s10, s11⟩
            go_simp
            with_reducible rfl
           rotate_left
           ·simp only [Act.put, sA, sB, sC, i64_w, i32_w]
            rfl
           refine one_ (i := 1) (N := some 13) (bs 18 3) rfl rfl (one_of HT_.out (by kernel_rfl)) (by decide) (fun K hK => ?_); refine goes_ Tryd.func31 (by kernel_rfl) rfl #[.agg #[.int .i64 ((rd_T27 l0 x7_1).f0), .int .i64 ((rd_T27 l0 x7_1).f1), .int .i64 ((rd_T27 l0 x7_1).f2), .int .i64 ((rd_T27 l0 x7_1).f3), .int .i64 ((rd_T27 l0 x7_1).f4), .string ((rd_T27 l0 x7_1).f5)]] (by rfl) rfl rfl ap1 ?_; with_reducible refine (outbox_one.calls k1 ((rd_T27 l0 x7_1).f0) ((rd_T27 l0 x7_1).f1) ((rd_T27 l0 x7_1).f2) ((rd_T27 l0 x7_1).f3) ((rd_T27 l0 x7_1).f4) ((rd_T27 l0 x7_1).f5) true _ ?side1 A5.out).mono ?_
           (case side1 => first | (with_reducible exact HT.out) | exact Tabs.below HT.out (beu HB.out))
           rintro e w21 ⟨rfl, hb⟩; refine ⟨_, rfl, ?_⟩; have n0_ := am (blk_below (bu BK246.out) hb); have n1_ := am (below_step (beu HB.out) hb); clear BK246 HB; have BK246 := n0_; have HB := n1_; clear n0_ n1_
           (try clear hb)
           (try clear hb2)
           (try clear hk)
           (try clear hi)
           refine hK.out _ _ ⟨(blk_cell BK246.out 0).trans rfl, (blk_cell BK246.out 1).trans rfl, (blk_cell BK246.out 2).trans rfl, (blk_cell BK246.out 3).trans rfl, (blk_cell BK246.out 4).trans rfl, (blk_cell BK246.out 5).trans rfl, ((HB.out.cell (World.block_lt_of_cell? w _ hw248_0)).trans hw248_0), ((HB.out.cell (World.block_lt_of_cell? w _ hw248_1)).trans hw248_1), ((HB.out.cell (World.block_lt_of_cell? w _ hw248_2)).trans hw248_2), ((HB.out.cell (World.block_lt_of_cell? w _ hw248_3)).trans hw248_3), ((HB.out.cell (World.block_lt_of_cell? w _ hw248_4)).trans hw248_4), ((HB.out.cell (World.block_lt_of_cell? w _ hw248_5)).trans hw248_5)⟩ (fun hHeld => ?_); clear hK K; refine norm_ (a' := ?_) ?_ ?_; rotate_left
           ·show Act.put _ (some 13) _ = _
            simp only [Act.put, sA, sB, sC, i64_w, i32_w]
            rfl
           refine pure_ (i := 2) (N := some 14) (v := ?_) (a' := ?_) (bs 18 7) rfl rfl (ak HT_.out) (fun _ _ _ h => h) (Or.inl ⟨by rfl, ?_⟩) ?_ ?_; rotate_left
           ·intro w'
            go_simp
            with_reducible rfl
           rotate_left
           ·simp only [Act.put, sA, sB, sC, i64_w, i32_w]
            rfl
           refine pure_ (i := 3) (N := some 15) (v := ?_) (a' := ?_) (bs 18 15) rfl rfl (ak HT_.out) (fun _ _ _ h => h) (Or.inl ⟨by rfl, ?_⟩) ?_ ?_; rotate_left
           ·intro w'
            go_simp
            with_reducible rfl
           rotate_left
           ·simp only [Act.put, sA, sB, sC, i64_w, i32_w]
            rfl
           refine pure_ (i := 4) (N := some 16) (v := ?_) (a' := ?_) (bs 18 31) rfl rfl (ak HT_.out) (fun _ _ _ h => h) (Or.inl ⟨by rfl, ?_⟩) ?_ ?_; rotate_left
           ·intro w'
            go_simp
            with_reducible rfl
           rotate_left
           ·simp only [Act.put, sA, sB, sC, i64_w, i32_w]
            rfl
           refine pure_ (i := 5) (N := some 17) (v := ?_) (a' := ?_) (bs 18 63) rfl rfl (ak HT_.out) (fun _ _ _ h => h) (Or.inl ⟨by rfl, ?_⟩) ?_ ?_; rotate_left
           ·intro w'
            go_simp
            with_reducible rfl
           rotate_left
           ·simp only [Act.put, sA, sB, sC, i64_w, i32_w]
            rfl
           refine pure_ (i := 6) (N := some 18) (v := ?_) (a' := ?_) (bs 18 127) rfl rfl (ak HT_.out) (fun _ _ _ h => h) (Or.inl ⟨by rfl, ?_⟩) ?_ ?_; rotate_left
           ·intro w'
            go_simp
            with_reducible rfl
           rotate_left
           ·simp only [Act.put, sA, sB, sC, i64_w, i32_w]
            rfl
           refine pure_ (i := 7) (N := some 19) (v := ?_) (a' := ?_) (bs 18 255) rfl rfl (ak HT_.out) (fun _ _ _ h => h) (Or.inl ⟨by rfl, ?_⟩) ?_ ?_; rotate_left
           ·intro w'
            go_simp
            with_reducible rfl
           rotate_left
           ·simp only [Act.put, sA, sB, sC, i64_w, i32_w]
            rfl
           refine pure_ (i := 8) (N := some 20) (v := ?_) (a' := ?_) (bs 18 511) rfl rfl (ak HT_.out) (fun _ _ _ h => h) (Or.inl ⟨by rfl, ?_⟩) ?_ ?_; rotate_left
           ·intro w'
            go_simp
            with_reducible rfl
           rotate_left
           ·simp only [Act.put, sA, sB, sC, i64_w, i32_w]
            rfl
           refine pure_ (i := 9) (N := some 21) (v := ?_) (a' := ?_) (bs 18 1023) rfl rfl (ak HT_.out) (fun _ _ _ h => h) (Or.inl ⟨by rfl, ?_⟩) ?_ ?_; rotate_left
           ·intro w'
            go_simp
            with_reducible rfl
           rotate_left
           ·simp only [Act.put, sA, sB, sC, i64_w, i32_w]
            rfl
           refine pure_ (i := 10) (N := some 22) (v := ?_) (a' := ?_) (bs 18 2047) rfl rfl (ak HT_.out) (fun _ _ _ h => h) (Or.inl ⟨by rfl, ?_⟩) ?_ ?_; rotate_left
           ·intro w'
            go_simp
            with_reducible rfl
           rotate_left
           ·simp only [Act.put, sA, sB, sC, i64_w, i32_w]
            rfl
           refine pure_ (i := 11) (N := some 23) (v := ?_) (a' := ?_) (bs 18 4095) rfl rfl (ak HT_.out) (fun _ _ _ h => h) (Or.inl ⟨by rfl, ?_⟩) ?_ ?_; rotate_left
           ·intro w'
            go_simp
            with_reducible rfl
           rotate_left
           ·simp only [Act.put, sA, sB, sC, i64_w, i32_w]
            rfl
           refine pure_ (i := 13) (N := some 25) (v := ?_) (a' := ?_) (bs 18 12287) rfl rfl (ak HT_.out) (fun _ _ _ h => h) (Or.inl ⟨by rfl, ?_⟩) ?_ ?_; rotate_left
           ·intro w'
            go_simp
            with_reducible rfl
           rotate_left
           ·simp only [Act.put, sA, sB, sC, i64_w, i32_w]
            rfl
           refine take_ (i := 12) (N := some 24) (v := ?_) (a' := ?_) (bs 18 16383) rfl rfl (take_ofW HT_.out HW_.out (by kernel_rfl)) (fun _ _ _ h => h) (Or.inl ⟨by rfl, ?_⟩) hHeld ?_ ?_; rotate_left
           ·rintro w' ⟨s0, s1, s2, s3, s4, s5, s6, s7, s8, s9, s10, s11⟩
            go_simp
            with_reducible rfl
           rotate_left
           ·simp only [Act.put, sA, sB, sC, i64_w, i32_w]
            rfl
           refine take_ (i := 14) (N := some 26) (v := ?_) (a' := ?_) (bs 18 32767) rfl rfl (take_ofW HT_.out HW_.out (by kernel_rfl)) (fun _ _ _ h => h) (Or.inl ⟨by rfl, ?_⟩) hHeld ?_ ?_; rotate_left
           ·rintro w' ⟨s0, s1, s2, s3, s4, s5, s6, s7, s8, s9, s10, s11⟩
            go_simp
            with_reducible rfl
           rotate_left
           ·simp only [Act.put, sA, sB, sC, i64_w, i32_w]
            rfl
           refine pure_ (i := 15) (N := some 27) (v := ?_) (a' := ?_) (bs 18 65535) rfl rfl (ak HT_.out) (fun _ _ _ h => h) (Or.inl ⟨by rfl, ?_⟩) ?_ ?_; rotate_left
           ·intro w'
            go_simp
            with_reducible rfl
           rotate_left
           ·simp only [Act.put, sA, sB, sC, i64_w, i32_w]
            rfl
           refine pure_ (i := 16) (N := some 28) (v := ?_) (a' := ?_) (bs 18 131071) rfl rfl (ak HT_.out) (fun _ _ _ h => h) (Or.inl ⟨by rfl, ?_⟩) ?_ ?_; rotate_left
           ·intro w'
            go_simp
            with_reducible rfl
           rotate_left
           ·simp only [Act.put, sA, sB, sC, i64_w, i32_w]
            rfl
           refine pure_ (i := 17) (N := some 29) (v := ?_) (a' := ?_) (bs 18 262143) rfl rfl (ak HT_.out) (fun _ _ _ h => h) (Or.inl ⟨by rfl, ?_⟩) ?_ ?_; rotate_left
           ·intro w'
            go_simp
            with_reducible rfl
           rotate_left
           ·simp only [Act.put, sA, sB, sC, i64_w, i32_w]
            rfl
           refine done_ (done_of HT_.out (by kernel_rfl)) ?_
           try go_wp2
           go_roundg k1
           case measure => have := HK1.out; omega
           case rel => exact ⟨(wrap64 (x7_1 + 1)), ap3, H', ⟨by have := HK1.out; omega⟩, ⟨beu HB.out⟩⟩
         ·rw [if_neg c10] at H
          exact absurd H (by simp)
        ·rw [if_neg c9] at H
         exact absurd H (by simp)
       ·rw [if_neg c7] at H
        have c7b0 : decide (0 < x7_1) = false := decide_eq_false c7; clear c7; have H' := am H; clear H; have p245 : 0 ≤ (x7_1 : Int) := of_decide_eq_true ap2; have q245 : x7_1 < (l0.length : Int) := of_decide_eq_true ap2; obtain ⟨ad245, e245, hx245_0, hx245_1, hx245_2, hx245_3, hx245_4, hx245_5⟩ := at_T27 HR0.out x7_1 p245 q245
        cases e245
        replace hx245_0 := (HB.out.cell (World.block_lt_of_cell? w _ hx245_0)).trans hx245_0; replace hx245_1 := (HB.out.cell (World.block_lt_of_cell? w _ hx245_1)).trans hx245_1; replace hx245_2 := (HB.out.cell (World.block_lt_of_cell? w _ hx245_2)).trans hx245_2; replace hx245_3 := (HB.out.cell (World.block_lt_of_cell? w _ hx245_3)).trans hx245_3; replace hx245_4 := (HB.out.cell (World.block_lt_of_cell? w _ hx245_4)).trans hx245_4; replace hx245_5 := (HB.out.cell (World.block_lt_of_cell? w _ hx245_5)).trans hx245_5; replace p245 := eq_true p245; replace q245 := eq_true q245
        try go_wp2_with (first | ((with_reducible refine gate_dst (N := 4) rfl ?_); refine box_event ?hg (N := 4) ?hd (cs := #[.int .i64 0, .int .i64 0, .int .i64 0, .int .i64 0, .int .i64 0, .string ⟨#[]⟩]) (t := 27) ?hr ?_; (case hd => rfl); (case hg => rfl); (case hr => first | (go_simp; done) | (go_simp; rfl)); intro gb246 hg w22 hbox hb; have _ := am (below_step (beu HB.out) hb); have _ := am (hbox); have _ := am ((by rw [hg]; exact (below_size (beu HB.out)) : w.heap.size ≤ gb246)); have _ := am ((by rw [hg]; exact (below_size (beu HB.out)) : w.heap.size ≤ gb246)); clear HB; rename_i HB BK246 GW246 GE246; clear hb hbox hg; obtain ⟨hcz23_0, hcz23_1, hcz23_2, hcz23_3, hcz23_4, hcz23_5⟩ := cells6 BK246.out; obtain ⟨hfz23_0, hfz23_1, hfz23_2, hfz23_3, hfz23_4, hfz23_5⟩ := frozens6 BK246.out))
        have n0_ : Aside0 (((((((w22.setCell ⟨gb246, 0, none⟩ (.int .i64 ((rd_T27 l0 x7_1).f0))).setCell ⟨gb246, 1, none⟩ (.int .i64 ((rd_T27 l0 x7_1).f1))).setCell ⟨gb246, 2, none⟩ (.int .i64 ((rd_T27 l0 x7_1).f2))).setCell ⟨gb246, 3, none⟩ (.int .i64 ((rd_T27 l0 x7_1).f3))).setCell ⟨gb246, 4, none⟩ (.int .i64 ((rd_T27 l0 x7_1).f4))).setCell ⟨gb246, 5, none⟩ (.string ((rd_T27 l0 x7_1).f5))).heap[gb246]? = some (.cells #[.int .i64 ((rd_T27 l0 x7_1).f0), .int .i64 ((rd_T27 l0 x7_1).f1), .int .i64 ((rd_T27 l0 x7_1).f2), .int .i64 ((rd_T27 l0 x7_1).f3), .int .i64 ((rd_T27 l0 x7_1).f4), .string ((rd_T27 l0 x7_1).f5)] 27 (0, 0))) := ⟨by refine bu ?_; refine blk_put (cs := #[.int .i64 ((rd_T27 l0 x7_1).f0), .int .i64 ((rd_T27 l0 x7_1).f1), .int .i64 ((rd_T27 l0 x7_1).f2), .int .i64 ((rd_T27 l0 x7_1).f3), .int .i64 ((rd_T27 l0 x7_1).f4), .string ⟨#[]⟩]) ?_ 5 _ rfl; refine bu ?_; refine blk_put (cs := #[.int .i64 ((rd_T27 l0 x7_1).f0), .int .i64 ((rd_T27 l0 x7_1).f1), .int .i64 ((rd_T27 l0 x7_1).f2), .int .i64 ((rd_T27 l0 x7_1).f3), .int .i64 0, .string ⟨#[]⟩]) ?_ 4 _ rfl; refine bu ?_; refine blk_put (cs := #[.int .i64 ((rd_T27 l0 x7_1).f0), .int .i64 ((rd_T27 l0 x7_1).f1), .int .i64 ((rd_T27 l0 x7_1).f2), .int .i64 0, .int .i64 0, .string ⟨#[]⟩]) ?_ 3 _ rfl; refine bu ?_; refine blk_put (cs := #[.int .i64 ((rd_T27 l0 x7_1).f0), .int .i64 ((rd_T27 l0 x7_1).f1), .int .i64 0, .int .i64 0, .int .i64 0, .string ⟨#[]⟩]) ?_ 2 _ rfl; refine bu ?_; refine blk_put (cs := #[.int .i64 ((rd_T27 l0 x7_1).f0), .int .i64 0, .int .i64 0, .int .i64 0, .int .i64 0, .string ⟨#[]⟩]) ?_ 1 _ rfl; refine bu ?_; refine blk_put (cs := #[.int .i64 0, .int .i64 0, .int .i64 0, .int .i64 0, .int .i64 0, .string ⟨#[]⟩]) ?_ 0 _ rfl; refine bu ?_; exact BK246.out⟩; have n1_ : Aside0 (Below w.heap.size w ((((((w22.setCell ⟨gb246, 0, none⟩ (.int .i64 ((rd_T27 l0 x7_1).f0))).setCell ⟨gb246, 1, none⟩ (.int .i64 ((rd_T27 l0 x7_1).f1))).setCell ⟨gb246, 2, none⟩ (.int .i64 ((rd_T27 l0 x7_1).f2))).setCell ⟨gb246, 3, none⟩ (.int .i64 ((rd_T27 l0 x7_1).f3))).setCell ⟨gb246, 4, none⟩ (.int .i64 ((rd_T27 l0 x7_1).f4))).setCell ⟨gb246, 5, none⟩ (.string ((rd_T27 l0 x7_1).f5)))) := ⟨beu HB.out⟩
        (try clear BK246)
        (try clear HB)
        generalize ((((((w22.setCell ⟨gb246, 0, none⟩ (.int .i64 ((rd_T27 l0 x7_1).f0))).setCell ⟨gb246, 1, none⟩ (.int .i64 ((rd_T27 l0 x7_1).f1))).setCell ⟨gb246, 2, none⟩ (.int .i64 ((rd_T27 l0 x7_1).f2))).setCell ⟨gb246, 3, none⟩ (.int .i64 ((rd_T27 l0 x7_1).f3))).setCell ⟨gb246, 4, none⟩ (.int .i64 ((rd_T27 l0 x7_1).f4))).setCell ⟨gb246, 5, none⟩ (.string ((rd_T27 l0 x7_1).f5))) = w24 at n0_ n1_ ⊢; have BK246 := n0_; have HB := n1_; clear n0_ n1_
        (try (rw [drewN_self w24]; generalize hq_ : World.drewN w24 _ = w24; have _ := am (blk_at hq_ BK246.out); have _ := am (below_at hq_ HB.out); clear hq_ BK246 HB; rename_i BK246 HB))
        have n0_ := am (blk_drew BK246.out); have n1_ := am (below_drew1 HB.out); clear BK246 HB; have BK246 := n0_; have HB := n1_; clear n0_ n1_
        refine start_ (n := 18) (S := fun w' => w'.cell? ⟨gb246, 0, none⟩ = some (.int .i64 ((rd_T27 l0 x7_1).f0)) ∧ w'.cell? ⟨gb246, 1, none⟩ = some (.int .i64 ((rd_T27 l0 x7_1).f1)) ∧ w'.cell? ⟨gb246, 2, none⟩ = some (.int .i64 ((rd_T27 l0 x7_1).f2)) ∧ w'.cell? ⟨gb246, 3, none⟩ = some (.int .i64 ((rd_T27 l0 x7_1).f3)) ∧ w'.cell? ⟨gb246, 4, none⟩ = some (.int .i64 ((rd_T27 l0 x7_1).f4)) ∧ w'.cell? ⟨gb246, 5, none⟩ = some (.string ((rd_T27 l0 x7_1).f5))) (ds := []) #[false, false, false, false, false, false, false, false, false, false, false, false, false, false, false, false, false, false] (by kernel_rfl) rfl rfl ⟨(blk_cell BK246.out 0).trans rfl, (blk_cell BK246.out 1).trans rfl, (blk_cell BK246.out 2).trans rfl, (blk_cell BK246.out 3).trans rfl, (blk_cell BK246.out 4).trans rfl, (blk_cell BK246.out 5).trans rfl⟩ (fun hHeld => ?_); refine with_tabW outbox_Right.tab4 outbox_Right.bits4 (fun HT_ HW_ => ?_)
        generalize w24.drew = w25 at BK246 HB hHeld ⊢; refine take_ (i := 0) (N := some 12) (v := ?_) (a' := ?_) (bs 18 1) rfl rfl (take_ofW HT_.out HW_.out (by kernel_rfl)) (fun _ _ _ h => h) (Or.inl ⟨by rfl, ?_⟩) hHeld ?_ ?_; rotate_left
        ·rintro w' ⟨s0, s1, s2, s3, s4, s5⟩
         go_simp
         with_reducible rfl
        rotate_left
        ·simp only [Act.put, sA, sB, sC, i64_w, i32_w]
         rfl
        refine one_ (i := 1) (N := some 13) (bs 18 3) rfl rfl (one_of HT_.out (by kernel_rfl)) (by decide) (fun K hK => ?_); refine goes_ Tryd.func31 (by kernel_rfl) rfl #[.agg #[.int .i64 ((rd_T27 l0 x7_1).f0), .int .i64 ((rd_T27 l0 x7_1).f1), .int .i64 ((rd_T27 l0 x7_1).f2), .int .i64 ((rd_T27 l0 x7_1).f3), .int .i64 ((rd_T27 l0 x7_1).f4), .string ((rd_T27 l0 x7_1).f5)]] (by rfl) rfl rfl ap1 ?_; with_reducible refine (outbox_one.calls k1 ((rd_T27 l0 x7_1).f0) ((rd_T27 l0 x7_1).f1) ((rd_T27 l0 x7_1).f2) ((rd_T27 l0 x7_1).f3) ((rd_T27 l0 x7_1).f4) ((rd_T27 l0 x7_1).f5) true _ ?side1 A5.out).mono ?_
        (case side1 => first | (with_reducible exact HT.out) | exact Tabs.below HT.out (beu HB.out))
        rintro e w26 ⟨rfl, hb⟩; refine ⟨_, rfl, ?_⟩; have n0_ := am (blk_below (bu BK246.out) hb); have n1_ := am (below_step (beu HB.out) hb); clear BK246 HB; have BK246 := n0_; have HB := n1_; clear n0_ n1_
        (try clear hb)
        (try clear hb2)
        (try clear hk)
        (try clear hi)
        refine hK.out _ _ ⟨(blk_cell BK246.out 0).trans rfl, (blk_cell BK246.out 1).trans rfl, (blk_cell BK246.out 2).trans rfl, (blk_cell BK246.out 3).trans rfl, (blk_cell BK246.out 4).trans rfl, (blk_cell BK246.out 5).trans rfl⟩ (fun hHeld => ?_); clear hK K; refine norm_ (a' := ?_) ?_ ?_; rotate_left
        ·show Act.put _ (some 13) _ = _
         simp only [Act.put, sA, sB, sC, i64_w, i32_w]
         rfl
        refine pure_ (i := 2) (N := some 14) (v := ?_) (a' := ?_) (bs 18 7) rfl rfl (ak HT_.out) (fun _ _ _ h => h) (Or.inl ⟨by rfl, ?_⟩) ?_ ?_; rotate_left
        ·intro w'
         go_simp
         with_reducible rfl
        rotate_left
        ·simp only [Act.put, sA, sB, sC, i64_w, i32_w]
         rfl
        refine pure_ (i := 3) (N := some 15) (v := ?_) (a' := ?_) (bs 18 15) rfl rfl (ak HT_.out) (fun _ _ _ h => h) (Or.inl ⟨by rfl, ?_⟩) ?_ ?_; rotate_left
        ·intro w'
         go_simp
         with_reducible rfl
        rotate_left
        ·simp only [Act.put, sA, sB, sC, i64_w, i32_w]
         rfl
        refine pure_ (i := 4) (N := some 16) (v := ?_) (a' := ?_) (bs 18 31) rfl rfl (ak HT_.out) (fun _ _ _ h => h) (Or.inl ⟨by rfl, ?_⟩) ?_ ?_; rotate_left
        ·intro w'
         go_simp
         with_reducible rfl
        rotate_left
        ·simp only [Act.put, sA, sB, sC, i64_w, i32_w]
         rfl
        refine pure_ (i := 5) (N := some 17) (v := ?_) (a' := ?_) (bs 18 63) rfl rfl (ak HT_.out) (fun _ _ _ h => h) (Or.inl ⟨by rfl, ?_⟩) ?_ ?_; rotate_left
        ·intro w'
         go_simp
         with_reducible rfl
        rotate_left
        ·simp only [Act.put, sA, sB, sC, i64_w, i32_w]
         rfl
        refine pure_ (i := 6) (N := some 18) (v := ?_) (a' := ?_) (bs 18 127) rfl rfl (ak HT_.out) (fun _ _ _ h => h) (Or.inl ⟨by rfl, ?_⟩) ?_ ?_; rotate_left
        ·intro w'
         go_simp
         with_reducible rfl
        rotate_left
        ·simp only [Act.put, sA, sB, sC, i64_w, i32_w]
         rfl
        refine pure_ (i := 7) (N := some 19) (v := undef) (a' := ?_) (bs 18 255) rfl rfl (ak HT_.out) (fun _ _ _ h => h) (Or.inr ⟨by rfl, rfl⟩) ?_ ?_; rotate_left
        ·simp only [Act.put, sA, sB, sC, i64_w, i32_w]
         rfl
        refine pure_ (i := 8) (N := some 20) (v := undef) (a' := ?_) (bs 18 511) rfl rfl (ak HT_.out) (fun _ _ _ h => h) (Or.inr ⟨by rfl, rfl⟩) ?_ ?_; rotate_left
        ·simp only [Act.put, sA, sB, sC, i64_w, i32_w]
         rfl
        refine pure_ (i := 9) (N := some 21) (v := undef) (a' := ?_) (bs 18 1023) rfl rfl (ak HT_.out) (fun _ _ _ h => h) (Or.inr ⟨by rfl, rfl⟩) ?_ ?_; rotate_left
        ·simp only [Act.put, sA, sB, sC, i64_w, i32_w]
         rfl
        refine pure_ (i := 10) (N := some 22) (v := undef) (a' := ?_) (bs 18 2047) rfl rfl (ak HT_.out) (fun _ _ _ h => h) (Or.inr ⟨by rfl, rfl⟩) ?_ ?_; rotate_left
        ·simp only [Act.put, sA, sB, sC, i64_w, i32_w]
         rfl
        refine pure_ (i := 11) (N := some 23) (v := undef) (a' := ?_) (bs 18 4095) rfl rfl (ak HT_.out) (fun _ _ _ h => h) (Or.inr ⟨by rfl, rfl⟩) ?_ ?_; rotate_left
        ·simp only [Act.put, sA, sB, sC, i64_w, i32_w]
         rfl
        refine pure_ (i := 12) (N := some 24) (v := undef) (a' := ?_) (bs 18 8191) rfl rfl (ak HT_.out) (fun _ _ _ h => h) (Or.inr ⟨by rfl, rfl⟩) ?_ ?_; rotate_left
        ·simp only [Act.put, sA, sB, sC, i64_w, i32_w]
         rfl
        refine pure_ (i := 13) (N := some 25) (v := undef) (a' := ?_) (bs 18 16383) rfl rfl (ak HT_.out) (fun _ _ _ h => h) (Or.inr ⟨by rfl, rfl⟩) ?_ ?_; rotate_left
        ·simp only [Act.put, sA, sB, sC, i64_w, i32_w]
         rfl
        refine pure_ (i := 14) (N := some 26) (v := undef) (a' := ?_) (bs 18 32767) rfl rfl (ak HT_.out) (fun _ _ _ h => h) (Or.inr ⟨by rfl, rfl⟩) ?_ ?_; rotate_left
        ·simp only [Act.put, sA, sB, sC, i64_w, i32_w]
         rfl
        refine pure_ (i := 15) (N := some 27) (v := undef) (a' := ?_) (bs 18 65535) rfl rfl (ak HT_.out) (fun _ _ _ h => h) (Or.inr ⟨by rfl, rfl⟩) ?_ ?_; rotate_left
        ·simp only [Act.put, sA, sB, sC, i64_w, i32_w]
         rfl
        refine pure_ (i := 16) (N := some 28) (v := ?_) (a' := ?_) (bs 18 131071) rfl rfl (ak HT_.out) (fun _ _ _ h => h) (Or.inl ⟨by rfl, ?_⟩) ?_ ?_; rotate_left
        ·intro w'
         go_simp
         with_reducible rfl
        rotate_left
        ·simp only [Act.put, sA, sB, sC, i64_w, i32_w]
         rfl
        refine pure_ (i := 17) (N := some 29) (v := ?_) (a' := ?_) (bs 18 262143) rfl rfl (ak HT_.out) (fun _ _ _ h => h) (Or.inl ⟨by rfl, ?_⟩) ?_ ?_; rotate_left
        ·intro w'
         go_simp
         with_reducible rfl
        rotate_left
        ·simp only [Act.put, sA, sB, sC, i64_w, i32_w]
         rfl
        refine done_ (done_of HT_.out (by kernel_rfl)) ?_
        try go_wp2
        go_roundg k1
        case measure => have := HK1.out; omega
        case rel => exact ⟨(wrap64 (x7_1 + 1)), ap3, H', ⟨by have := HK1.out; omega⟩, ⟨beu HB.out⟩⟩
      ·replace c6 := Bool.eq_false_iff.mpr c6
       subst c6
       have H1 : (some false) = some r := by rw [if_neg (show ¬ (false = true) by decide)] at H; exact H
       clear H; have H := H1; clear H1; obtain rfl := Option.some.inj H; simp only [Option.some.injEq, Prod.mk.injEq] at H; obtain ⟨rfl⟩ := H; have p245 : 0 ≤ (x7_1 : Int) := of_decide_eq_true ap2; have q245 : x7_1 < (l0.length : Int) := of_decide_eq_true ap2; obtain ⟨ad245, e245, hx245_0, hx245_1, hx245_2, hx245_3, hx245_4, hx245_5⟩ := at_T27 HR0.out x7_1 p245 q245
       cases e245
       replace hx245_0 := (HB.out.cell (World.block_lt_of_cell? w _ hx245_0)).trans hx245_0; replace hx245_1 := (HB.out.cell (World.block_lt_of_cell? w _ hx245_1)).trans hx245_1; replace hx245_2 := (HB.out.cell (World.block_lt_of_cell? w _ hx245_2)).trans hx245_2; replace hx245_3 := (HB.out.cell (World.block_lt_of_cell? w _ hx245_3)).trans hx245_3; replace hx245_4 := (HB.out.cell (World.block_lt_of_cell? w _ hx245_4)).trans hx245_4; replace hx245_5 := (HB.out.cell (World.block_lt_of_cell? w _ hx245_5)).trans hx245_5; replace p245 := eq_true p245; replace q245 := eq_true q245
       try go_wp2_with (first | ((with_reducible refine gate_dst (N := 4) rfl ?_); refine box_event ?hg (N := 4) ?hd (cs := #[.int .i64 0, .int .i64 0, .int .i64 0, .int .i64 0, .int .i64 0, .string ⟨#[]⟩]) (t := 27) ?hr ?_; (case hd => rfl); (case hg => rfl); (case hr => first | (go_simp; done) | (go_simp; rfl)); intro gb246 hg w27 hbox hb; have _ := am (below_step (beu HB.out) hb); have _ := am (hbox); have _ := am ((by rw [hg]; exact (below_size (beu HB.out)) : w.heap.size ≤ gb246)); have _ := am ((by rw [hg]; exact (below_size (beu HB.out)) : w.heap.size ≤ gb246)); clear HB; rename_i HB BK246 GW246 GE246; clear hb hbox hg; obtain ⟨_, _, _, _, _, _⟩ := cells6 BK246.out; obtain ⟨_, _, _, _, _, _⟩ := frozens6 BK246.out))
       have n0_ : Aside0 (((((((w27.setCell ⟨gb246, 0, none⟩ (.int .i64 ((rd_T27 l0 x7_1).f0))).setCell ⟨gb246, 1, none⟩ (.int .i64 ((rd_T27 l0 x7_1).f1))).setCell ⟨gb246, 2, none⟩ (.int .i64 ((rd_T27 l0 x7_1).f2))).setCell ⟨gb246, 3, none⟩ (.int .i64 ((rd_T27 l0 x7_1).f3))).setCell ⟨gb246, 4, none⟩ (.int .i64 ((rd_T27 l0 x7_1).f4))).setCell ⟨gb246, 5, none⟩ (.string ((rd_T27 l0 x7_1).f5))).heap[gb246]? = some (.cells #[.int .i64 ((rd_T27 l0 x7_1).f0), .int .i64 ((rd_T27 l0 x7_1).f1), .int .i64 ((rd_T27 l0 x7_1).f2), .int .i64 ((rd_T27 l0 x7_1).f3), .int .i64 ((rd_T27 l0 x7_1).f4), .string ((rd_T27 l0 x7_1).f5)] 27 (0, 0))) := ⟨by refine bu ?_; refine blk_put (cs := #[.int .i64 ((rd_T27 l0 x7_1).f0), .int .i64 ((rd_T27 l0 x7_1).f1), .int .i64 ((rd_T27 l0 x7_1).f2), .int .i64 ((rd_T27 l0 x7_1).f3), .int .i64 ((rd_T27 l0 x7_1).f4), .string ⟨#[]⟩]) ?_ 5 _ rfl; refine bu ?_; refine blk_put (cs := #[.int .i64 ((rd_T27 l0 x7_1).f0), .int .i64 ((rd_T27 l0 x7_1).f1), .int .i64 ((rd_T27 l0 x7_1).f2), .int .i64 ((rd_T27 l0 x7_1).f3), .int .i64 0, .string ⟨#[]⟩]) ?_ 4 _ rfl; refine bu ?_; refine blk_put (cs := #[.int .i64 ((rd_T27 l0 x7_1).f0), .int .i64 ((rd_T27 l0 x7_1).f1), .int .i64 ((rd_T27 l0 x7_1).f2), .int .i64 0, .int .i64 0, .string ⟨#[]⟩]) ?_ 3 _ rfl; refine bu ?_; refine blk_put (cs := #[.int .i64 ((rd_T27 l0 x7_1).f0), .int .i64 ((rd_T27 l0 x7_1).f1), .int .i64 0, .int .i64 0, .int .i64 0, .string ⟨#[]⟩]) ?_ 2 _ rfl; refine bu ?_; refine blk_put (cs := #[.int .i64 ((rd_T27 l0 x7_1).f0), .int .i64 0, .int .i64 0, .int .i64 0, .int .i64 0, .string ⟨#[]⟩]) ?_ 1 _ rfl; refine bu ?_; refine blk_put (cs := #[.int .i64 0, .int .i64 0, .int .i64 0, .int .i64 0, .int .i64 0, .string ⟨#[]⟩]) ?_ 0 _ rfl; refine bu ?_; exact BK246.out⟩; have n1_ : Aside0 (Below w.heap.size w ((((((w27.setCell ⟨gb246, 0, none⟩ (.int .i64 ((rd_T27 l0 x7_1).f0))).setCell ⟨gb246, 1, none⟩ (.int .i64 ((rd_T27 l0 x7_1).f1))).setCell ⟨gb246, 2, none⟩ (.int .i64 ((rd_T27 l0 x7_1).f2))).setCell ⟨gb246, 3, none⟩ (.int .i64 ((rd_T27 l0 x7_1).f3))).setCell ⟨gb246, 4, none⟩ (.int .i64 ((rd_T27 l0 x7_1).f4))).setCell ⟨gb246, 5, none⟩ (.string ((rd_T27 l0 x7_1).f5)))) := ⟨beu HB.out⟩
       (try clear BK246)
       (try clear HB)
       generalize ((((((w27.setCell ⟨gb246, 0, none⟩ (.int .i64 ((rd_T27 l0 x7_1).f0))).setCell ⟨gb246, 1, none⟩ (.int .i64 ((rd_T27 l0 x7_1).f1))).setCell ⟨gb246, 2, none⟩ (.int .i64 ((rd_T27 l0 x7_1).f2))).setCell ⟨gb246, 3, none⟩ (.int .i64 ((rd_T27 l0 x7_1).f3))).setCell ⟨gb246, 4, none⟩ (.int .i64 ((rd_T27 l0 x7_1).f4))).setCell ⟨gb246, 5, none⟩ (.string ((rd_T27 l0 x7_1).f5))) = w29 at n0_ n1_ ⊢; have BK246 := n0_; have HB := n1_; clear n0_ n1_
       (try (rw [drewN_self w29]; generalize hq_ : World.drewN w29 _ = w29; have _ := am (blk_at hq_ BK246.out); have _ := am (below_at hq_ HB.out); clear hq_ BK246 HB; rename_i BK246 HB))
       have n0_ := am (blk_drew BK246.out); have n1_ := am (below_drew1 HB.out); clear BK246 HB; have BK246 := n0_; have HB := n1_; clear n0_ n1_
       refine start_ (n := 18) (S := fun w' => w'.cell? ⟨gb246, 0, none⟩ = some (.int .i64 ((rd_T27 l0 x7_1).f0)) ∧ w'.cell? ⟨gb246, 1, none⟩ = some (.int .i64 ((rd_T27 l0 x7_1).f1)) ∧ w'.cell? ⟨gb246, 2, none⟩ = some (.int .i64 ((rd_T27 l0 x7_1).f2)) ∧ w'.cell? ⟨gb246, 3, none⟩ = some (.int .i64 ((rd_T27 l0 x7_1).f3)) ∧ w'.cell? ⟨gb246, 4, none⟩ = some (.int .i64 ((rd_T27 l0 x7_1).f4)) ∧ w'.cell? ⟨gb246, 5, none⟩ = some (.string ((rd_T27 l0 x7_1).f5))) (ds := []) #[false, false, false, false, false, false, false, false, false, false, false, false, false, false, false, false, false, false] (by kernel_rfl) rfl rfl ⟨(blk_cell BK246.out 0).trans rfl, (blk_cell BK246.out 1).trans rfl, (blk_cell BK246.out 2).trans rfl, (blk_cell BK246.out 3).trans rfl, (blk_cell BK246.out 4).trans rfl, (blk_cell BK246.out 5).trans rfl⟩ (fun hHeld => ?_); refine with_tabW outbox_Right.tab4 outbox_Right.bits4 (fun HT_ HW_ => ?_)
       generalize w29.drew = w30 at BK246 HB hHeld ⊢; refine take_ (i := 0) (N := some 12) (v := ?_) (a' := ?_) (bs 18 1) rfl rfl (take_ofW HT_.out HW_.out (by kernel_rfl)) (fun _ _ _ h => h) (Or.inl ⟨by rfl, ?_⟩) hHeld ?_ ?_; rotate_left
       ·rintro w' ⟨s0, s1, s2, s3, s4, s5⟩
        go_simp
        with_reducible rfl
       rotate_left
       ·simp only [Act.put, sA, sB, sC, i64_w, i32_w]
        rfl
       refine one_ (i := 1) (N := some 13) (bs 18 3) rfl rfl (one_of HT_.out (by kernel_rfl)) (by decide) (fun K hK => ?_); refine goes_ Tryd.func31 (by kernel_rfl) rfl #[.agg #[.int .i64 ((rd_T27 l0 x7_1).f0), .int .i64 ((rd_T27 l0 x7_1).f1), .int .i64 ((rd_T27 l0 x7_1).f2), .int .i64 ((rd_T27 l0 x7_1).f3), .int .i64 ((rd_T27 l0 x7_1).f4), .string ((rd_T27 l0 x7_1).f5)]] (by rfl) rfl rfl ap1 ?_; with_reducible refine (outbox_one.calls k1 ((rd_T27 l0 x7_1).f0) ((rd_T27 l0 x7_1).f1) ((rd_T27 l0 x7_1).f2) ((rd_T27 l0 x7_1).f3) ((rd_T27 l0 x7_1).f4) ((rd_T27 l0 x7_1).f5) false _ ?side1 A5.out).mono ?_
       (case side1 => first | (with_reducible exact HT.out) | exact Tabs.below HT.out (beu HB.out))
       rintro e w31 ⟨rfl, hb⟩; refine ⟨_, rfl, ?_⟩; have n0_ := am (blk_below (bu BK246.out) hb); have n1_ := am (below_step (beu HB.out) hb); clear BK246 HB; have BK246 := n0_; have HB := n1_; clear n0_ n1_
       (try clear hb)
       (try clear hb2)
       (try clear hk)
       (try clear hi)
       refine hK.out _ _ ⟨(blk_cell BK246.out 0).trans rfl, (blk_cell BK246.out 1).trans rfl, (blk_cell BK246.out 2).trans rfl, (blk_cell BK246.out 3).trans rfl, (blk_cell BK246.out 4).trans rfl, (blk_cell BK246.out 5).trans rfl⟩ (fun hHeld => ?_); clear hK K; refine norm_ (a' := ?_) ?_ ?_; rotate_left
       ·show Act.put _ (some 13) _ = _
        simp only [Act.put, sA, sB, sC, i64_w, i32_w]
        rfl
       refine pure_ (i := 2) (N := some 14) (v := ?_) (a' := ?_) (bs 18 7) rfl rfl (ak HT_.out) (fun _ _ _ h => h) (Or.inl ⟨by rfl, ?_⟩) ?_ ?_; rotate_left
       ·intro w'
        go_simp
        with_reducible rfl
       rotate_left
       ·simp only [Act.put, sA, sB, sC, i64_w, i32_w]
        rfl
       refine pure_ (i := 3) (N := some 15) (v := ?_) (a' := ?_) (bs 18 15) rfl rfl (ak HT_.out) (fun _ _ _ h => h) (Or.inl ⟨by rfl, ?_⟩) ?_ ?_; rotate_left
       ·intro w'
        go_simp
        with_reducible rfl
       rotate_left
       ·simp only [Act.put, sA, sB, sC, i64_w, i32_w]
        rfl
       refine pure_ (i := 4) (N := some 16) (v := undef) (a' := ?_) (bs 18 31) rfl rfl (ak HT_.out) (fun _ _ _ h => h) (Or.inr ⟨by rfl, rfl⟩) ?_ ?_; rotate_left
       ·simp only [Act.put, sA, sB, sC, i64_w, i32_w]
        rfl
       refine pure_ (i := 5) (N := some 17) (v := undef) (a' := ?_) (bs 18 63) rfl rfl (ak HT_.out) (fun _ _ _ h => h) (Or.inr ⟨by rfl, rfl⟩) ?_ ?_; rotate_left
       ·simp only [Act.put, sA, sB, sC, i64_w, i32_w]
        rfl
       refine pure_ (i := 6) (N := some 18) (v := undef) (a' := ?_) (bs 18 127) rfl rfl (ak HT_.out) (fun _ _ _ h => h) (Or.inr ⟨by rfl, rfl⟩) ?_ ?_; rotate_left
       ·simp only [Act.put, sA, sB, sC, i64_w, i32_w]
        rfl
       refine pure_ (i := 7) (N := some 19) (v := undef) (a' := ?_) (bs 18 255) rfl rfl (ak HT_.out) (fun _ _ _ h => h) (Or.inr ⟨by rfl, rfl⟩) ?_ ?_; rotate_left
       ·simp only [Act.put, sA, sB, sC, i64_w, i32_w]
        rfl
       refine pure_ (i := 8) (N := some 20) (v := undef) (a' := ?_) (bs 18 511) rfl rfl (ak HT_.out) (fun _ _ _ h => h) (Or.inr ⟨by rfl, rfl⟩) ?_ ?_; rotate_left
       ·simp only [Act.put, sA, sB, sC, i64_w, i32_w]
        rfl
       refine pure_ (i := 9) (N := some 21) (v := undef) (a' := ?_) (bs 18 1023) rfl rfl (ak HT_.out) (fun _ _ _ h => h) (Or.inr ⟨by rfl, rfl⟩) ?_ ?_; rotate_left
       ·simp only [Act.put, sA, sB, sC, i64_w, i32_w]
        rfl
       refine pure_ (i := 10) (N := some 22) (v := undef) (a' := ?_) (bs 18 2047) rfl rfl (ak HT_.out) (fun _ _ _ h => h) (Or.inr ⟨by rfl, rfl⟩) ?_ ?_; rotate_left
       ·simp only [Act.put, sA, sB, sC, i64_w, i32_w]
        rfl
       refine pure_ (i := 11) (N := some 23) (v := undef) (a' := ?_) (bs 18 4095) rfl rfl (ak HT_.out) (fun _ _ _ h => h) (Or.inr ⟨by rfl, rfl⟩) ?_ ?_; rotate_left
       ·simp only [Act.put, sA, sB, sC, i64_w, i32_w]
        rfl
       refine pure_ (i := 12) (N := some 24) (v := undef) (a' := ?_) (bs 18 8191) rfl rfl (ak HT_.out) (fun _ _ _ h => h) (Or.inr ⟨by rfl, rfl⟩) ?_ ?_; rotate_left
       ·simp only [Act.put, sA, sB, sC, i64_w, i32_w]
        rfl
       refine pure_ (i := 13) (N := some 25) (v := undef) (a' := ?_) (bs 18 16383) rfl rfl (ak HT_.out) (fun _ _ _ h => h) (Or.inr ⟨by rfl, rfl⟩) ?_ ?_; rotate_left
       ·simp only [Act.put, sA, sB, sC, i64_w, i32_w]
        rfl
       refine pure_ (i := 14) (N := some 26) (v := undef) (a' := ?_) (bs 18 32767) rfl rfl (ak HT_.out) (fun _ _ _ h => h) (Or.inr ⟨by rfl, rfl⟩) ?_ ?_; rotate_left
       ·simp only [Act.put, sA, sB, sC, i64_w, i32_w]
        rfl
       refine pure_ (i := 15) (N := some 27) (v := undef) (a' := ?_) (bs 18 65535) rfl rfl (ak HT_.out) (fun _ _ _ h => h) (Or.inr ⟨by rfl, rfl⟩) ?_ ?_; rotate_left
       ·simp only [Act.put, sA, sB, sC, i64_w, i32_w]
        rfl
       refine pure_ (i := 16) (N := some 28) (v := undef) (a' := ?_) (bs 18 131071) rfl rfl (ak HT_.out) (fun _ _ _ h => h) (Or.inr ⟨by rfl, rfl⟩) ?_ ?_; rotate_left
       ·simp only [Act.put, sA, sB, sC, i64_w, i32_w]
        rfl
       refine pure_ (i := 17) (N := some 29) (v := ?_) (a' := ?_) (bs 18 262143) rfl rfl (ak HT_.out) (fun _ _ _ h => h) (Or.inl ⟨by rfl, ?_⟩) ?_ ?_; rotate_left
       ·intro w'
        go_simp
        with_reducible rfl
       rotate_left
       ·simp only [Act.put, sA, sB, sC, i64_w, i32_w]
        rfl
       refine done_ (done_of HT_.out (by kernel_rfl)) ?_
       try go_wp2
       go_ret
       exact ⟨ap4, beu HB.out⟩
     ·rw [if_neg c4] at H
      exact absurd H (by simp)
    ·rw [if_neg c3] at H
     exact absurd H (by simp)
   ·rw [if_neg c2] at H
    have c2b0 : decide (x7_1 < (l0.length : Int)) = false := decide_eq_false c2; clear c2; obtain rfl := Option.some.inj H; simp only [Option.some.injEq, Prod.mk.injEq] at H; obtain ⟨rfl⟩ := H
    go_wp2
    go_ret
    exact ⟨ap4, beu HB.out⟩
mutual
def packet_number.l0 : Nat → Int → Int → List Int → Int → Int → Option (Int × Int)
 | 0, _, _, _, _, _ => none
 | k + 1, x1, x6, x10, x11, x12 => if x12 < x11 then (if 0 ≤ x12 then (if x12 < (x10.length : Int) then (if x12 = 9 then (if (rd x10 x12) > 1 then (packet_number.j1 k x1 x6 x12 (rd x10 x12) (IntKind.u64.wrap (Go.bits .and .u8 (rd x10 x12) 127)) x10 x11 x12 true) else (if x12 > 0 then (if (rd x10 x12) = 0 then (packet_number.j1 k x1 x6 x12 (rd x10 x12) (IntKind.u64.wrap (Go.bits .and .u8 (rd x10 x12) 127)) x10 x11 x12 true) else (if 0 ≤ (wrap64 (7 * x12)) then (packet_number.j1 k x1 x6 x12 (rd x10 x12) (IntKind.u64.wrap (Go.bits .and .u8 (rd x10 x12) 127)) x10 x11 x12 (decide ((IntKind.u64.wrap (Go.bits .and .u8 (rd x10 x12) 127)) > (shr .u64 x1 (wrap64 (7 * x12)))))) else (none))) else (if 0 ≤ (wrap64 (7 * x12)) then (packet_number.j1 k x1 x6 x12 (rd x10 x12) (IntKind.u64.wrap (Go.bits .and .u8 (rd x10 x12) 127)) x10 x11 x12 (decide ((IntKind.u64.wrap (Go.bits .and .u8 (rd x10 x12) 127)) > (shr .u64 x1 (wrap64 (7 * x12)))))) else (none)))) else (if x12 > 0 then (if (rd x10 x12) = 0 then (packet_number.j1 k x1 x6 x12 (rd x10 x12) (IntKind.u64.wrap (Go.bits .and .u8 (rd x10 x12) 127)) x10 x11 x12 true) else (if 0 ≤ (wrap64 (7 * x12)) then (packet_number.j1 k x1 x6 x12 (rd x10 x12) (IntKind.u64.wrap (Go.bits .and .u8 (rd x10 x12) 127)) x10 x11 x12 (decide ((IntKind.u64.wrap (Go.bits .and .u8 (rd x10 x12) 127)) > (shr .u64 x1 (wrap64 (7 * x12)))))) else (none))) else (if 0 ≤ (wrap64 (7 * x12)) then (packet_number.j1 k x1 x6 x12 (rd x10 x12) (IntKind.u64.wrap (Go.bits .and .u8 (rd x10 x12) 127)) x10 x11 x12 (decide ((IntKind.u64.wrap (Go.bits .and .u8 (rd x10 x12) 127)) > (shr .u64 x1 (wrap64 (7 * x12)))))) else (none)))) else (none)) else (none)) else (some (0, 0))
def packet_number.j1 : Nat → Int → Int → Int → Int → Int → List Int → Int → Int → Bool → Option (Int × Int)
 | 0, _, _, _, _, _, _, _, _, _ => none
 | k + 1, x1, x6, x7, x8, x9, x10, x11, x12, x41 => if x41 = true then (some (0, (-1))) else (if 0 ≤ (wrap64 (7 * x7)) then (if (Go.bits .or .u64 x6 (shl .u64 x9 (wrap64 (7 * x7)))) > x1 then (some (0, (-1))) else (if x8 < 128 then (some (Go.bits .or .u64 x6 (shl .u64 x9 (wrap64 (7 * x7))), wrap64 (x7 + 1))) else (if 0 ≤ (wrap64 (7 * (wrap64 (x7 + 1)))) then (if (IntKind.u64.wrap (x1 - (Go.bits .or .u64 x6 (shl .u64 x9 (wrap64 (7 * x7)))))) < (shl .u64 1 (wrap64 (7 * (wrap64 (x7 + 1))))) then (some (0, (-1))) else (packet_number.l0 k x1 (Go.bits .or .u64 x6 (shl .u64 x9 (wrap64 (7 * x7)))) x10 x11 (wrap64 (x12 + 1)))) else (none)))) else (none))
end
def packet_number.f (k : Nat) (l0 : List Int) (a1 : Int) : Option (Int × Int) := packet_number.l0 k a1 0 l0 (l0.length : Int) 0
set_option maxHeartbeats 8000000 in
set_option maxRecDepth 100000 in
theorem packet_number.calls (k : Nat) (A0 : Option Addr) (c0 : Nat) (l0 : List Int) (a1 : Int) (r1 : Int) (r2 : Int) (w : World) (hr0 : Kd.C (Kd.int .u8) w A0 l0.length l0) (hc0 : l0.length ≤ c0) (h : packet_number.f k l0 a1 = some (r1, r2)) :
  Calls Tryd.prog 55 #[.slice A0 l0.length c0, .int .u64 a1] w fun e w' => e = .returned (.tuple #[.int .u64 r1, .int .i64 r2]) ∧ Drawn0 w w' := by
 have HR0 := am hr0; have HC0 := am hc0; clear hr0 hc0; have H : (packet_number.l0 k a1 0 l0 (l0.length : Int) 0) = some (r1, r2) := h; clear h; have H' := am H; clear H
 go_enter Tryd.func55, Tryd.ntmps55
 go_wp2
 go_loopg [6, 12] k (fun kq v6 v12 w' => ∃ (x6_1 : Int) (x12_1 : Int), v6 = .int .u64 x6_1 ∧ v12 = .int .i64 x12_1 ∧ Aside0 (packet_number.l0 kq a1 x6_1 l0 (l0.length : Int) x12_1 = some (r1, r2)) ∧ Aside0 (kq ≤ k) ∧ Drawn0 w w')
 case atStart => exact ⟨(0), (0), ap3, ap3, H', ⟨Nat.le_refl _⟩, ap5⟩
 case round =>
  clear H'; (try clear p2); obtain ⟨x6_1, x12_1, rfl, rfl, HA, HK1, ⟨m1, rfl⟩⟩ := hrel
  cases gk with
  | zero => exact absurd HA.out (by simp [packet_number.l0])
  | succ k1 =>
   have H := HA.out; clear HA; simp only [packet_number.l0] at H
   by_cases c3 : x12_1 < (l0.length : Int)
   ·rw [if_pos c3] at H
    have c3b0 : decide (x12_1 < (l0.length : Int)) = true := decide_eq_true c3; clear c3
    by_cases c4 : 0 ≤ x12_1
    ·rw [if_pos c4] at H
     have c4b0 : decide (0 ≤ x12_1) = true := decide_eq_true c4; clear c4
     by_cases c5 : x12_1 < (l0.length : Int)
     ·rw [if_pos c5] at H
      have c5b0 : decide (x12_1 < (l0.length : Int)) = true := decide_eq_true c5; clear c5; have HC6 := am H; clear H; have p277 : 0 ≤ (x12_1 : Int) := of_decide_eq_true ap2; have q277 : x12_1 < (l0.length : Int) := of_decide_eq_true ap2; obtain ⟨ad277, e277, hx277_0⟩ := Kd.at_int HR0.out x12_1 p277 q277
      cases e277
      replace p277 := eq_true p277; replace q277 := eq_true q277
      go_upto_region 6 with (fail)
      go_cut [41] (fun v41 wc => ∃ (kq : Nat) (x41_5 : Bool), v41 = .bool x41_5 ∧ Aside0 (packet_number.j1 kq a1 x6_1 x12_1 (rd l0 x12_1) (IntKind.u64.wrap (Go.bits .and .u8 (rd l0 x12_1) 127)) l0 (l0.length : Int) x12_1 x41_5 = some (r1, r2)) ∧ Aside0 (kq ≤ k1) ∧ Drawn0 w wc)
      case first =>
       have H := HC6.out; clear HC6
       by_cases c7 : x12_1 = 9
       ·rw [if_pos c7] at H
        have c7b0 : (x12_1 == 9) = true := beq_iff_eq.mpr c7; have c7b1 : (x12_1 != 9) = false := bne_eq_false_iff_eq.mpr c7; clear c7
        (first | rw [c7b0] | (simp only [i64_w, i32_w]; rw [c7b0]) | skip)
        by_cases c8 : (rd l0 x12_1) > 1
        ·rw [if_pos c8] at H
         have c8b0 : decide (1 < (rd l0 x12_1)) = true := decide_eq_true c8; clear c8; have H' := am H; clear H
         go_wp2
         go_meet
         case rel => exact ⟨_, (true), ap3, H', ⟨by have := HK1.out; first | omega | exact Nat.le_refl _⟩, ap5⟩
        ·rw [if_neg c8] at H
         have c8b0 : decide (1 < (rd l0 x12_1)) = false := decide_eq_false c8; clear c8
         by_cases c9 : x12_1 > 0
         ·rw [if_pos c9] at H
          have c9b0 : decide (0 < x12_1) = true := decide_eq_true c9; clear c9
          by_cases c10 : (rd l0 x12_1) = 0
          ·rw [if_pos c10] at H
           have c10b0 : ((rd l0 x12_1) == 0) = true := beq_iff_eq.mpr c10; have c10b1 : ((rd l0 x12_1) != 0) = false := bne_eq_false_iff_eq.mpr c10; clear c10; have H' := am H; clear H
           go_wp2
           go_meet
           case rel => exact ⟨_, (true), ap3, H', ⟨by have := HK1.out; first | omega | exact Nat.le_refl _⟩, ap5⟩
          ·rw [if_neg c10] at H
           have c10b0 : ((rd l0 x12_1) == 0) = false := beq_eq_false_iff_ne.mpr c10; have c10b1 : ((rd l0 x12_1) != 0) = true := bne_iff_ne.mpr c10; obtain ⟨ji11, hji11⟩ : ∃ j_ : Int, (wrap64 (7 * x12_1)) = j_ := ⟨_, rfl⟩
           replace H : (if 0 ≤ (ji11) then (packet_number.j1 k1 a1 x6_1 x12_1 (rd l0 x12_1) (IntKind.u64.wrap (Go.bits .and .u8 (rd l0 x12_1) 127)) l0 (l0.length : Int) x12_1 (decide ((IntKind.u64.wrap (Go.bits .and .u8 (rd l0 x12_1) 127)) > (shr .u64 a1 (ji11))))) else (none)) = some (r1, r2) := by first | (rw [hji11] at H; exact H) | (simp only [hji11] at H ⊢; exact H)
           have hji11w : (IntKind.i64.wrap (7 * x12_1)) = ji11 := (i64_w _).trans hji11
           by_cases c12 : 0 ≤ (ji11)
           ·rw [if_pos c12] at H
            have c12b0 := eq_true c12; have c12b1 : decide (0 ≤ (ji11)) = true := decide_eq_true c12; clear c12; obtain ⟨ji13, hji13⟩ : ∃ j_ : Int, (shr .u64 a1 (ji11)) = j_ := ⟨_, rfl⟩
            replace H : (packet_number.j1 k1 a1 x6_1 x12_1 (rd l0 x12_1) (IntKind.u64.wrap (Go.bits .and .u8 (rd l0 x12_1) 127)) l0 (l0.length : Int) x12_1 (decide ((IntKind.u64.wrap (Go.bits .and .u8 (rd l0 x12_1) 127)) > (ji13)))) = some (r1, r2) := by first | (rw [hji13] at H; exact H) | (simp only [hji13] at H ⊢; exact H)
            have hji13_ : (a1 / 2 ^ min (ji11).toNat 64) = ji13 := hji13; have hji13z : (ji11) ≤ 64 → (a1 / 2 ^ (ji11).toNat) = ji13 := shr_small hji13; have H' := am H; clear H
            go_wp2
            go_meet
            case rel => exact ⟨_, (decide ((IntKind.u64.wrap (Go.bits .and .u8 (rd l0 x12_1) 127)) > (ji13))), (by first | rfl | (simp; done) | (simp only [← hji13] <;> (first | rfl | simp)) | (simp [*]; done)), H', ⟨by have := HK1.out; first | omega | exact Nat.le_refl _⟩, ap5⟩
           ·rw [if_neg c12] at H
            exact absurd H (by simp)
         ·rw [if_neg c9] at H
          have c9b0 : decide (0 < x12_1) = false := decide_eq_false c9; clear c9; obtain ⟨ji14, hji14⟩ : ∃ j_ : Int, (wrap64 (7 * x12_1)) = j_ := ⟨_, rfl⟩
          replace H : (if 0 ≤ (ji14) then (packet_number.j1 k1 a1 x6_1 x12_1 (rd l0 x12_1) (IntKind.u64.wrap (Go.bits .and .u8 (rd l0 x12_1) 127)) l0 (l0.length : Int) x12_1 (decide ((IntKind.u64.wrap (Go.bits .and .u8 (rd l0 x12_1) 127)) > (shr .u64 a1 (ji14))))) else (none)) = some (r1, r2) := by first | (rw [hji14] at H; exact H) | (simp only [hji14] at H ⊢; exact H)
          have hji14w : (IntKind.i64.wrap (7 * x12_1)) = ji14 := (i64_w _).trans hji14
          by_cases c15 : 0 ≤ (ji14)
          ·rw [if_pos c15] at H
           have c15b0 := eq_true c15; have c15b1 : decide (0 ≤ (ji14)) = true := decide_eq_true c15; clear c15; obtain ⟨ji16, hji16⟩ : ∃ j_ : Int, (shr .u64 a1 (ji14)) = j_ := ⟨_, rfl⟩
           replace H : (packet_number.j1 k1 a1 x6_1 x12_1 (rd l0 x12_1) (IntKind.u64.wrap (Go.bits .and .u8 (rd l0 x12_1) 127)) l0 (l0.length : Int) x12_1 (decide ((IntKind.u64.wrap (Go.bits .and .u8 (rd l0 x12_1) 127)) > (ji16)))) = some (r1, r2) := by first | (rw [hji16] at H; exact H) | (simp only [hji16] at H ⊢; exact H)
           have hji16_ : (a1 / 2 ^ min (ji14).toNat 64) = ji16 := hji16; have hji16z : (ji14) ≤ 64 → (a1 / 2 ^ (ji14).toNat) = ji16 := shr_small hji16; have H' := am H; clear H
           go_wp2
           go_meet
           case rel => exact ⟨_, (decide ((IntKind.u64.wrap (Go.bits .and .u8 (rd l0 x12_1) 127)) > (ji16))), (by first | rfl | (simp; done) | (simp only [← hji16] <;> (first | rfl | simp)) | (simp [*]; done)), H', ⟨by have := HK1.out; first | omega | exact Nat.le_refl _⟩, ap5⟩
          ·rw [if_neg c15] at H
           exact absurd H (by simp)
       ·rw [if_neg c7] at H
        have c7b0 : (x12_1 == 9) = false := beq_eq_false_iff_ne.mpr c7; have c7b1 : (x12_1 != 9) = true := bne_iff_ne.mpr c7
        (first | rw [c7b0] | (simp only [i64_w, i32_w]; rw [c7b0]) | skip)
        by_cases c17 : x12_1 > 0
        ·rw [if_pos c17] at H
         have c17b0 : decide (0 < x12_1) = true := decide_eq_true c17; clear c17
         by_cases c18 : (rd l0 x12_1) = 0
         ·rw [if_pos c18] at H
          have c18b0 : ((rd l0 x12_1) == 0) = true := beq_iff_eq.mpr c18; have c18b1 : ((rd l0 x12_1) != 0) = false := bne_eq_false_iff_eq.mpr c18; clear c18; have H' := am H; clear H
          go_wp2
          go_meet
          case rel => exact ⟨_, (true), ap3, H', ⟨by have := HK1.out; first | omega | exact Nat.le_refl _⟩, ap5⟩
         ·rw [if_neg c18] at H
          have c18b0 : ((rd l0 x12_1) == 0) = false := beq_eq_false_iff_ne.mpr c18; have c18b1 : ((rd l0 x12_1) != 0) = true := bne_iff_ne.mpr c18; obtain ⟨ji19, hji19⟩ : ∃ j_ : Int, (wrap64 (7 * x12_1)) = j_ := ⟨_, rfl⟩
          replace H : (if 0 ≤ (ji19) then (packet_number.j1 k1 a1 x6_1 x12_1 (rd l0 x12_1) (IntKind.u64.wrap (Go.bits .and .u8 (rd l0 x12_1) 127)) l0 (l0.length : Int) x12_1 (decide ((IntKind.u64.wrap (Go.bits .and .u8 (rd l0 x12_1) 127)) > (shr .u64 a1 (ji19))))) else (none)) = some (r1, r2) := by first | (rw [hji19] at H; exact H) | (simp only [hji19] at H ⊢; exact H)
          have hji19w : (IntKind.i64.wrap (7 * x12_1)) = ji19 := (i64_w _).trans hji19
          by_cases c20 : 0 ≤ (ji19)
          ·rw [if_pos c20] at H
           have c20b0 := eq_true c20; have c20b1 : decide (0 ≤ (ji19)) = true := decide_eq_true c20; clear c20; obtain ⟨ji21, hji21⟩ : ∃ j_ : Int, (shr .u64 a1 (ji19)) = j_ := ⟨_, rfl⟩
           replace H : (packet_number.j1 k1 a1 x6_1 x12_1 (rd l0 x12_1) (IntKind.u64.wrap (Go.bits .and .u8 (rd l0 x12_1) 127)) l0 (l0.length : Int) x12_1 (decide ((IntKind.u64.wrap (Go.bits .and .u8 (rd l0 x12_1) 127)) > (ji21)))) = some (r1, r2) := by first | (rw [hji21] at H; exact H) | (simp only [hji21] at H ⊢; exact H)
           have hji21_ : (a1 / 2 ^ min (ji19).toNat 64) = ji21 := hji21; have hji21z : (ji19) ≤ 64 → (a1 / 2 ^ (ji19).toNat) = ji21 := shr_small hji21; have H' := am H; clear H
           go_wp2
           go_meet
           case rel => exact ⟨_, (decide ((IntKind.u64.wrap (Go.bits .and .u8 (rd l0 x12_1) 127)) > (ji21))), (by first | rfl | (simp; done) | (simp only [← hji21] <;> (first | rfl | simp)) | (simp [*]; done)), H', ⟨by have := HK1.out; first | omega | exact Nat.le_refl _⟩, ap5⟩
          ·rw [if_neg c20] at H
           exact absurd H (by simp)
        ·rw [if_neg c17] at H
         have c17b0 : decide (0 < x12_1) = false := decide_eq_false c17; clear c17; obtain ⟨ji22, hji22⟩ : ∃ j_ : Int, (wrap64 (7 * x12_1)) = j_ := ⟨_, rfl⟩
         replace H : (if 0 ≤ (ji22) then (packet_number.j1 k1 a1 x6_1 x12_1 (rd l0 x12_1) (IntKind.u64.wrap (Go.bits .and .u8 (rd l0 x12_1) 127)) l0 (l0.length : Int) x12_1 (decide ((IntKind.u64.wrap (Go.bits .and .u8 (rd l0 x12_1) 127)) > (shr .u64 a1 (ji22))))) else (none)) = some (r1, r2) := by first | (rw [hji22] at H; exact H) | (simp only [hji22] at H ⊢; exact H)
         have hji22w : (IntKind.i64.wrap (7 * x12_1)) = ji22 := (i64_w _).trans hji22
         by_cases c23 : 0 ≤ (ji22)
         ·rw [if_pos c23] at H
          have c23b0 := eq_true c23; have c23b1 : decide (0 ≤ (ji22)) = true := decide_eq_true c23; clear c23; obtain ⟨ji24, hji24⟩ : ∃ j_ : Int, (shr .u64 a1 (ji22)) = j_ := ⟨_, rfl⟩
          replace H : (packet_number.j1 k1 a1 x6_1 x12_1 (rd l0 x12_1) (IntKind.u64.wrap (Go.bits .and .u8 (rd l0 x12_1) 127)) l0 (l0.length : Int) x12_1 (decide ((IntKind.u64.wrap (Go.bits .and .u8 (rd l0 x12_1) 127)) > (ji24)))) = some (r1, r2) := by first | (rw [hji24] at H; exact H) | (simp only [hji24] at H ⊢; exact H)
          have hji24_ : (a1 / 2 ^ min (ji22).toNat 64) = ji24 := hji24; have hji24z : (ji22) ≤ 64 → (a1 / 2 ^ (ji22).toNat) = ji24 := shr_small hji24; have H' := am H; clear H
          go_wp2
          go_meet
          case rel => exact ⟨_, (decide ((IntKind.u64.wrap (Go.bits .and .u8 (rd l0 x12_1) 127)) > (ji24))), (by first | rfl | (simp; done) | (simp only [← hji24] <;> (first | rfl | simp)) | (simp [*]; done)), H', ⟨by have := HK1.out; first | omega | exact Nat.le_refl _⟩, ap5⟩
         ·rw [if_neg c23] at H
          exact absurd H (by simp)
      case rest =>
       clear HC6; (try clear c1); (try clear c2); (try clear p2); (try clear q2); (try clear hx2); (try clear c3); (try clear c3b0); (try clear c4); (try clear c4b0); (try clear c5); (try clear c5b0); (try clear p6); (try clear c7); (try clear c7b0); (try clear c7b1); (try clear c8); (try clear c8b0); (try clear c9); (try clear c9b0); (try clear c10); (try clear c10b0); (try clear c10b1); (try clear c12); (try clear c12b0); (try clear c12b1); (try clear c15); (try clear c15b0); (try clear c15b1); (try clear c17); (try clear c17b0); (try clear c18); (try clear c18b0); (try clear c18b1); (try clear c20); (try clear c20b0); (try clear c20b1); (try clear c23); (try clear c23b0); (try clear c23b1); (try clear hx277_0); (try clear p2); (try clear p277); (try clear q277); obtain ⟨kq, x41_5, rfl, HA, HJ5, ⟨mc5, rfl⟩⟩ := hcut
       cases kq with
       | zero => exact absurd HA.out (by simp [packet_number.j1])
       | succ kj5 =>
        have H := HA.out; clear HA; simp only [packet_number.j1] at H
        by_cases c25 : x41_5 = true
        ·subst c25
         have H1 : (some (0, (-1))) = some (r1, r2) := by rw [if_pos rfl] at H; exact H
         clear H; have H := H1; clear H1; simp only [Option.some.injEq, Prod.mk.injEq] at H; obtain ⟨rfl, rfl⟩ := H
         go_wp2
         go_ret2
         exact ⟨ap3, ap5⟩
        ·replace c25 := Bool.eq_false_iff.mpr c25
         subst c25
         have H1 : (if 0 ≤ (wrap64 (7 * x12_1)) then (if (Go.bits .or .u64 x6_1 (shl .u64 (IntKind.u64.wrap (Go.bits .and .u8 (rd l0 x12_1) 127)) (wrap64 (7 * x12_1)))) > a1 then (some (0, (-1))) else (if (rd l0 x12_1) < 128 then (some (Go.bits .or .u64 x6_1 (shl .u64 (IntKind.u64.wrap (Go.bits .and .u8 (rd l0 x12_1) 127)) (wrap64 (7 * x12_1))), wrap64 (x12_1 + 1))) else (if 0 ≤ (wrap64 (7 * (wrap64 (x12_1 + 1)))) then (if (IntKind.u64.wrap (a1 - (Go.bits .or .u64 x6_1 (shl .u64 (IntKind.u64.wrap (Go.bits .and .u8 (rd l0 x12_1) 127)) (wrap64 (7 * x12_1)))))) < (shl .u64 1 (wrap64 (7 * (wrap64 (x12_1 + 1))))) then (some (0, (-1))) else (packet_number.l0 kj5 a1 (Go.bits .or .u64 x6_1 (shl .u64 (IntKind.u64.wrap (Go.bits .and .u8 (rd l0 x12_1) 127)) (wrap64 (7 * x12_1)))) l0 (l0.length : Int) (wrap64 (x12_1 + 1)))) else (none)))) else (none)) = some (r1, r2) := by rw [if_neg (show ¬ (false = true) by decide)] at H; exact H
         clear H; have H := H1; clear H1; obtain ⟨ji26, hji26⟩ : ∃ j_ : Int, (wrap64 (7 * x12_1)) = j_ := ⟨_, rfl⟩
         replace H : (if 0 ≤ (ji26) then (if (Go.bits .or .u64 x6_1 (shl .u64 (IntKind.u64.wrap (Go.bits .and .u8 (rd l0 x12_1) 127)) (ji26))) > a1 then (some (0, (-1))) else (if (rd l0 x12_1) < 128 then (some (Go.bits .or .u64 x6_1 (shl .u64 (IntKind.u64.wrap (Go.bits .and .u8 (rd l0 x12_1) 127)) (ji26)), wrap64 (x12_1 + 1))) else (if 0 ≤ (wrap64 (7 * (wrap64 (x12_1 + 1)))) then (if (IntKind.u64.wrap (a1 - (Go.bits .or .u64 x6_1 (shl .u64 (IntKind.u64.wrap (Go.bits .and .u8 (rd l0 x12_1) 127)) (ji26))))) < (shl .u64 1 (wrap64 (7 * (wrap64 (x12_1 + 1))))) then (some (0, (-1))) else (packet_number.l0 kj5 a1 (Go.bits .or .u64 x6_1 (shl .u64 (IntKind.u64.wrap (Go.bits .and .u8 (rd l0 x12_1) 127)) (ji26))) l0 (l0.length : Int) (wrap64 (x12_1 + 1)))) else (none)))) else (none)) = some (r1, r2) := by first | (rw [hji26] at H; exact H) | (simp only [hji26] at H ⊢; exact H)
         have hji26w : (IntKind.i64.wrap (7 * x12_1)) = ji26 := (i64_w _).trans hji26
         by_cases c27 : 0 ≤ (ji26)
         ·rw [if_pos c27] at H
          have c27b0 := eq_true c27; have c27b1 : decide (0 ≤ (ji26)) = true := decide_eq_true c27; clear c27; obtain ⟨ji28, hji28⟩ : ∃ j_ : Int, (shl .u64 (IntKind.u64.wrap (Go.bits .and .u8 (rd l0 x12_1) 127)) (ji26)) = j_ := ⟨_, rfl⟩
          replace H : (if (Go.bits .or .u64 x6_1 (ji28)) > a1 then (some (0, (-1))) else (if (rd l0 x12_1) < 128 then (some (Go.bits .or .u64 x6_1 (ji28), wrap64 (x12_1 + 1))) else (if 0 ≤ (wrap64 (7 * (wrap64 (x12_1 + 1)))) then (if (IntKind.u64.wrap (a1 - (Go.bits .or .u64 x6_1 (ji28)))) < (shl .u64 1 (wrap64 (7 * (wrap64 (x12_1 + 1))))) then (some (0, (-1))) else (packet_number.l0 kj5 a1 (Go.bits .or .u64 x6_1 (ji28)) l0 (l0.length : Int) (wrap64 (x12_1 + 1)))) else (none)))) = some (r1, r2) := by first | (rw [hji28] at H; exact H) | (simp only [hji28] at H ⊢; exact H)
          have hji28_ : (IntKind.u64.wrap ((IntKind.u64.wrap (Go.bits .and .u8 (rd l0 x12_1) 127)) * 2 ^ min (ji26).toNat 64)) = ji28 := hji28; have hji28z : (ji26) ≤ 64 → (IntKind.u64.wrap ((IntKind.u64.wrap (Go.bits .and .u8 (rd l0 x12_1) 127)) * 2 ^ (ji26).toNat)) = ji28 := shl_small hji28
          by_cases c29 : (Go.bits .or .u64 x6_1 (ji28)) > a1
          ·rw [if_pos c29] at H
           have c29b0 : decide (a1 < (Go.bits .or .u64 x6_1 (ji28))) = true := decide_eq_true c29; clear c29; simp only [Option.some.injEq, Prod.mk.injEq] at H; obtain ⟨rfl, rfl⟩ := H
           go_wp2
           go_ret2
           exact ⟨by first | rfl | (simp; done) | (simp only [← hji26, ← hji28] <;> (first | rfl | simp)) | (simp [*]; done), ap5⟩
          ·rw [if_neg c29] at H
           have c29b0 : decide (a1 < (Go.bits .or .u64 x6_1 (ji28))) = false := decide_eq_false c29; clear c29
           by_cases c30 : (rd l0 x12_1) < 128
           ·rw [if_pos c30] at H
            have c30b0 : decide ((rd l0 x12_1) < 128) = true := decide_eq_true c30; clear c30; simp only [Option.some.injEq, Prod.mk.injEq] at H; obtain ⟨rfl, rfl⟩ := H
            go_wp2
            go_ret2
            exact ⟨by first | rfl | (simp; done) | (simp only [← hji26, ← hji28] <;> (first | rfl | simp)) | (simp [*]; done), ap5⟩
           ·rw [if_neg c30] at H
            have c30b0 : decide ((rd l0 x12_1) < 128) = false := decide_eq_false c30; clear c30; obtain ⟨ji31, hji31⟩ : ∃ j_ : Int, (wrap64 (7 * (wrap64 (x12_1 + 1)))) = j_ := ⟨_, rfl⟩
            replace H : (if 0 ≤ (ji31) then (if (IntKind.u64.wrap (a1 - (Go.bits .or .u64 x6_1 (ji28)))) < (shl .u64 1 (ji31)) then (some (0, (-1))) else (packet_number.l0 kj5 a1 (Go.bits .or .u64 x6_1 (ji28)) l0 (l0.length : Int) (wrap64 (x12_1 + 1)))) else (none)) = some (r1, r2) := by first | (rw [hji31] at H; exact H) | (simp only [hji31] at H ⊢; exact H)
            have hji31w : (IntKind.i64.wrap (7 * (wrap64 (x12_1 + 1)))) = ji31 := (i64_w _).trans hji31
            by_cases c32 : 0 ≤ (ji31)
            ·rw [if_pos c32] at H
             have c32b0 := eq_true c32; have c32b1 : decide (0 ≤ (ji31)) = true := decide_eq_true c32; clear c32; obtain ⟨ji33, hji33⟩ : ∃ j_ : Int, (shl .u64 1 (ji31)) = j_ := ⟨_, rfl⟩
             replace H : (if (IntKind.u64.wrap (a1 - (Go.bits .or .u64 x6_1 (ji28)))) < (ji33) then (some (0, (-1))) else (packet_number.l0 kj5 a1 (Go.bits .or .u64 x6_1 (ji28)) l0 (l0.length : Int) (wrap64 (x12_1 + 1)))) = some (r1, r2) := by first | (rw [hji33] at H; exact H) | (simp only [hji33] at H ⊢; exact H)
             have hji33_ : (IntKind.u64.wrap (1 * 2 ^ min (ji31).toNat 64)) = ji33 := hji33; have hji33z : (ji31) ≤ 64 → (IntKind.u64.wrap (1 * 2 ^ (ji31).toNat)) = ji33 := shl_small hji33
             have hji33u : (IntKind.u64.wrap (2 ^ min (ji31).toNat 64)) = ji33 := by have h_ := hji33_; rw [Int.one_mul] at h_; exact h_
             have hji33v : (ji31) ≤ 64 → (IntKind.u64.wrap (2 ^ (ji31).toNat)) = ji33 := fun hle_ => by have h_ := hji33z hle_; rw [Int.one_mul] at h_; exact h_
             by_cases c34 : (IntKind.u64.wrap (a1 - (Go.bits .or .u64 x6_1 (ji28)))) < (ji33)
             ·rw [if_pos c34] at H
              have c34b0 : decide ((IntKind.u64.wrap (a1 - (Go.bits .or .u64 x6_1 (ji28)))) < (ji33)) = true := decide_eq_true c34; clear c34; simp only [Option.some.injEq, Prod.mk.injEq] at H; obtain ⟨rfl, rfl⟩ := H
              go_wp2
              go_ret2
              exact ⟨by first | rfl | (simp; done) | (simp only [← hji26, ← hji28, ← hji31, ← hji33] <;> (first | rfl | simp)) | (simp [*]; done), ap5⟩
             ·rw [if_neg c34] at H
              have c34b0 : decide ((IntKind.u64.wrap (a1 - (Go.bits .or .u64 x6_1 (ji28)))) < (ji33)) = false := decide_eq_false c34; clear c34; have H' := am H; clear H
              go_wp2
              go_roundg kj5
              case measure => have := HK1.out; have := HJ5.out; omega
              case rel => exact ⟨(Go.bits .or .u64 x6_1 (ji28)), (wrap64 (x12_1 + 1)), (by first | rfl | (simp; done) | (simp only [← hji28] <;> (first | rfl | simp)) | (simp [*]; done)), ap3, H', ⟨by have := HK1.out; have := HJ5.out; omega⟩, ap5⟩
            ·rw [if_neg c32] at H
             exact absurd H (by simp)
         ·rw [if_neg c27] at H
          exact absurd H (by simp)
     ·rw [if_neg c5] at H
      exact absurd H (by simp)
    ·rw [if_neg c4] at H
     exact absurd H (by simp)
   ·rw [if_neg c3] at H
    have c3b0 : decide (x12_1 < (l0.length : Int)) = false := decide_eq_false c3; clear c3; simp only [Option.some.injEq, Prod.mk.injEq] at H; obtain ⟨rfl, rfl⟩ := H
    go_wp2
    go_ret2
    exact ⟨ap3, ap5⟩
def IsS74 (w0 W : World) (g : Nat) (f0 : List Int) (f1 : Bool) : Prop := ∃ A0 c0, W.heap[g]? = some (.cells #[.slice A0 f0.length c0, .bool f1] 74 (0, 0)) ∧ w0.heap.size ≤ g ∧ (Kd.C (Kd.int .u8) w0 A0 f0.length f0 ∧ f0.length ≤ c0)
theorem IsS74.grown {w0 W : World} {g : Nat} {f0 : List Int} {f1 : Bool} {W1 : World} {row : Option Nat} (h : IsS74 w0 W g f0 f1) (hw : W.grownBy W1 row) (hne : some g ≠ row) : IsS74 w0 W1 g f0 f1 := by
 obtain ⟨A0, c0, hb, hg, hr0⟩ := h; exact ⟨A0, c0, blk_grown hb hw hne, hg, hr0⟩
theorem IsS74.below {w0 W : World} {g : Nat} {f0 : List Int} {f1 : Bool} {W1 : World} (h : IsS74 w0 W g f0 f1) (hw : Below W.heap.size W W1) : IsS74 w0 W1 g f0 f1 := h.grown (grown_of_below hw none) (by simp)
theorem IsS74.alloc {w0 W : World} {g : Nat} {f0 : List Int} {f1 : Bool} (h : IsS74 w0 W g f0 f1) (o : Obj) : IsS74 w0 (W.alloc o) g f0 f1 := h.below (below_alloc (Below.refl _ _) o)
theorem IsS74.drewN {w0 W : World} {g : Nat} {f0 : List Int} {f1 : Bool} (h : IsS74 w0 W g f0 f1) (m : Nat) : IsS74 w0 (W.drewN m) g f0 f1 := h
theorem IsS74.drew {w0 W : World} {g : Nat} {f0 : List Int} {f1 : Bool} (h : IsS74 w0 W g f0 f1) : IsS74 w0 W.drew g f0 f1 := h
theorem IsS74.apart {w0 W : World} {g : Nat} {f0 : List Int} {f1 : Bool} {α : Type} {d : Kd α} {e : Nat} {base : Nat} {ok : Nat → Prop} {v : Value} {xs : List α} (h : IsS74 w0 W g f0 f1) (ho : d.R e W base ok v xs) (ht : ∀ q, q ∈ e :: d.E → q ≠ 74) : d.R e W base (fun k => ok k ∧ k ≠ g) v xs := by
 obtain ⟨A0, c0, hb, hg, hr0⟩ := h; exact Kd.R_types ho hb ht
theorem IsS74.own_ne {w0 W : World} {g : Nat} {f0 : List Int} {f1 : Bool} {α : Type} {d : Kd α} {e : Nat} {base : Nat} {ok : Nat → Prop} {v : Value} {xs : List α} (h : IsS74 w0 W g f0 f1) (ho : d.R e W base ok v xs) (ht : e ≠ 74) : some g ≠ v.ownBlock := by
 obtain ⟨A0, c0, hb, hg, hr0⟩ := h; exact Kd.R_ne ho hb ht
theorem IsS74.lt {w0 W : World} {g : Nat} {f0 : List Int} {f1 : Bool} (h : IsS74 w0 W g f0 f1) : g < W.heap.size := by
 obtain ⟨A0, c0, hb, hg, hr0⟩ := h; exact blk_lt hb
theorem IsS74.ge {w0 W : World} {g : Nat} {f0 : List Int} {f1 : Bool} (h : IsS74 w0 W g f0 f1) : w0.heap.size ≤ g := by
 obtain ⟨A0, c0, hb, hg, hr0⟩ := h; exact hg
theorem IsS74.far {w0 W : World} {g : Nat} {f0 : List Int} {f1 : Bool} {p : Addr} (h : IsS74 w0 W g f0 f1) (hne : g ≠ p.block) (u : Value) : IsS74 w0 (W.setCell p u) g f0 f1 := by
 obtain ⟨A0, c0, hb, hg, hr0⟩ := h; exact ⟨A0, c0, blk_far hb hne u, hg, hr0⟩
theorem cellS74_0 {W : World} {g : Nat} {A0 : Option Addr} {c0 : Nat} {f0 : List Int} {f1 : Bool} (h : W.heap[g]? = some (.cells #[.slice A0 f0.length c0, .bool f1] 74 (0, 0))) : W.cell? ⟨g, 0, none⟩ = some (.slice A0 f0.length c0) := (blk_cell h 0).trans rfl
theorem cellS74_1 {W : World} {g : Nat} {A0 : Option Addr} {c0 : Nat} {f0 : List Int} {f1 : Bool} (h : W.heap[g]? = some (.cells #[.slice A0 f0.length c0, .bool f1] 74 (0, 0))) : W.cell? ⟨g, 1, none⟩ = some (.bool f1) := (blk_cell h 1).trans rfl
theorem IsS74.set_1 {w0 W : World} {g : Nat} {f0 : List Int} {f1 : Bool} (h : IsS74 w0 W g f0 f1) (x : Bool) : IsS74 w0 (W.setCell ⟨g, 1, none⟩ (.bool x)) g f0 x := by
 obtain ⟨A0, c0, hb, hg, hr0⟩ := h; exact ⟨A0, c0, by simpa using blk_set hb 1 (.bool x), hg, hr0⟩
theorem IsS74.u {w0 w W : World} {g : Nat} {f0 : List Int} {f1 : Bool} {f0' : List Int} {f1' : Bool} (h : IsS74 w0 w g f0 f1) (hu : IsS74 w0 w g f0 f1 → IsS74 w0 W g f0' f1' := by intro h_; (repeat (first | (with_reducible first | exact h_ | apply IsS74.alloc | apply IsS74.drewN | apply IsS74.drew | apply IsS74.set_1) | refine IsS74.far ?_ (Aside0.out (by assumption)) _ | exact h_)); first | done | fail) : IsS74 w0 W g f0' f1' := hu h
theorem IsS74.new (w0 W : World) (A0 : Option Addr) (c0 : Nat) (f0 : List Int) (f1 : Bool) (hB : Below w0.heap.size w0 W) (hr0 : (Kd.C (Kd.int .u8) w0 A0 f0.length f0 ∧ f0.length ≤ c0)) : IsS74 w0 (W.alloc (.cells #[.slice A0 f0.length c0, .bool f1] 74)) W.heap.size f0 f1 := ⟨A0, c0, by simpa using heap_alloc_new W _, hB.size, hr0⟩
theorem below_keepJ74 {B1 g : Nat} {u v W W' : World} (h : Below u.heap.size u W) (h1 : Below B1 v W) (h2 : Below B1 v W') (hk : KeepBut W W' g none) (hg : u.heap.size ≤ g) : Below u.heap.size u W' :=
 ⟨h2.os.trans (h1.os.symm.trans h.os), h2.tape.trans (h1.tape.symm.trans h.tape), h2.output.trans (h1.output.symm.trans h.output), Nat.le_trans h.size hk.1, fun k hlt => (hk.2 k (Nat.lt_of_lt_of_le hlt h.size) (by omega) (by simp)).trans (h.block k hlt)⟩
def JS74 (w0 W : World) (g : Nat) (f0 : List Int) (f1 : Bool) : Prop := ∃ wS : World, IsS74 wS W g f0 f1 ∧ Below wS.heap.size wS W ∧ Below w0.heap.size w0 wS
theorem JS74.below {w0 W : World} {g : Nat} {f0 : List Int} {f1 : Bool} {W1 : World} (h : JS74 w0 W g f0 f1) (hw : Below W.heap.size W W1) : JS74 w0 W1 g f0 f1 := by
 obtain ⟨wS, h1, h2, h3⟩ := h; exact ⟨wS, h1.below hw, below_then h2 h2.size hw, h3⟩
theorem JS74.alloc {w0 W : World} {g : Nat} {f0 : List Int} {f1 : Bool} (h : JS74 w0 W g f0 f1) (o : Obj) : JS74 w0 (W.alloc o) g f0 f1 := h.below (below_alloc (Below.refl _ _) o)
theorem JS74.drewN {w0 W : World} {g : Nat} {f0 : List Int} {f1 : Bool} (h : JS74 w0 W g f0 f1) (m : Nat) : JS74 w0 (W.drewN m) g f0 f1 := h.below (pw_below_drewN (Below.refl _ _) m)
theorem JS74.drew {w0 W : World} {g : Nat} {f0 : List Int} {f1 : Bool} (h : JS74 w0 W g f0 f1) : JS74 w0 W.drew g f0 f1 := h.below (below_drew (Below.refl _ _))
theorem JS74.far {w0 W : World} {g : Nat} {f0 : List Int} {f1 : Bool} {p : Addr} (h : JS74 w0 W g f0 f1) (hlt : g < p.block) (u : Value) : JS74 w0 (W.setCell p u) g f0 f1 := by
 obtain ⟨wS, h1, h2, h3⟩ := h; exact ⟨wS, h1.far (Nat.ne_of_lt hlt) u, h2.setCell (Nat.le_trans (IsS74.ge h1) (Nat.le_of_lt hlt)) u, h3⟩
theorem JS74.u {w0 w W : World} {g : Nat} {f0 : List Int} {f1 : Bool} {f0' : List Int} {f1' : Bool} (h : JS74 w0 w g f0 f1) (hu : JS74 w0 w g f0 f1 → JS74 w0 W g f0' f1' := by intro h_; (repeat (first | (with_reducible first | exact h_ | apply JS74.alloc | apply JS74.drewN | apply JS74.drew) | refine JS74.far ?_ (Aside0.out (by assumption)) _ | exact h_)); first | done | fail) : JS74 w0 W g f0' f1' := hu h
theorem JS74.apart {w0 W : World} {g : Nat} {f0 : List Int} {f1 : Bool} {α : Type} {d : Kd α} {e : Nat} {base : Nat} {ok : Nat → Prop} {v : Value} {xs : List α} (h : JS74 w0 W g f0 f1) (ho : d.R e W base ok v xs) (ht : ∀ q, q ∈ e :: d.E → q ≠ 74) : d.R e W base (fun k => ok k ∧ k ≠ g) v xs := by
 obtain ⟨wS, h1, h2, h3⟩ := h; exact h1.apart ho ht
theorem JS74.ge {w0 W : World} {g : Nat} {f0 : List Int} {f1 : Bool} (h : JS74 w0 W g f0 f1) : w0.heap.size ≤ g := by
 obtain ⟨wS, h1, h2, h3⟩ := h; exact Nat.le_trans h3.size h1.ge
def packet_Reader_Number.f (k : Nat) (s0_0 : List Int) (s0_1 : Bool) (a1 : Int) : Option (Int × List Int × Bool) := if s0_1 = true then some (0, s0_0, true) else (packet_number.f k s0_0 a1).bind fun p => if p.2 ≤ 0 then some (0, s0_0, true) else if p.2 ≤ (s0_0.length : Int) then some (p.1, s0_0.drop p.2.toNat, false) else none
theorem IsS74.cut {w0 W : World} {g : Nat} {f0 : List Int} {f1 : Bool} (h : IsS74 w0 W g f0 f1) (A' : Option Addr) (c' : Nat) (f0' : List Int) (hC : Kd.C (Kd.int .u8) w0 A' f0'.length f0' ∧ f0'.length ≤ c') : IsS74 w0 (W.setCell ⟨g, 0, none⟩ (.slice A' f0'.length c')) g f0' f1 := by
 obtain ⟨A0, c0, hb, hg, hr0⟩ := h; exact ⟨A', c', by simpa using blk_set hb 0 (.slice A' f0'.length c'), hg, hC⟩
set_option maxHeartbeats 8000000 in
set_option maxRecDepth 100000 in
theorem packet_Reader_Number.calls (k : Nat) (g : Nat) (s0_0 : List Int) (s0_1 : Bool) (a1 : Int) (r1 : Int) (r2 : List Int) (r3 : Bool) (w0 w : World) (hI : IsS74 w0 w g s0_0 s0_1) (hB : Below w0.heap.size w0 w) (h : packet_Reader_Number.f k s0_0 s0_1 a1 = some (r1, r2, r3)) :
  Calls Tryd.prog 37 #[.pointer (some ⟨g, 0, none⟩), .int .u64 a1] w fun e w' => e = .returned (.int .u64 r1) ∧ IsS74 w0 w' g r2 r3 ∧ Below w0.heap.size w0 w' ∧ KeepBut w w' g none := by
 have HI := am hI; have HB := am hB; obtain ⟨A0, c0, hblk, hge, hC, hle⟩ := hI; have HC := am hC; have HC2 := am (Kd.C_below hC hB); have HL := am hle; have HG := am hge; have hc0 := cellS74_0 hblk; have hc1 := cellS74_1 hblk; have hf0 := blk_frozen hblk 0; have hf1 := blk_frozen hblk 1; clear hB hblk hge hC hle; obtain ⟨i0, hi0, hzz⟩ := Option.map_eq_some_iff.1 info5; simp only [Prod.mk.injEq] at hzz; have HZ := am hzz.2.1; have HI0 := am hi0; clear hzz hi0
 unfold packet_Reader_Number.f at h
 cases s0_1 with
 | true =>
  rw [if_pos rfl] at h; have h := Option.some.inj h; simp only [Prod.mk.injEq] at h; obtain ⟨rfl, rfl, rfl⟩ := h; clear HC2 HL
  go_enter Tryd.func37, Tryd.ntmps37
  go_wp2_with fail
  go_ret
  exact ⟨rfl, HI.out, HB.out, KeepBut.refl w g none⟩
 | false =>
  rw [if_neg (by decide)] at h
  cases hn : packet_number.f k s0_0 a1 with
  | none => rw [hn] at h; cases h
  | some p =>
   obtain ⟨n, u⟩ := p; rw [hn] at h; simp only [Option.bind_some] at h; have HN := am hn; clear hn
   by_cases c1 : u ≤ 0
   ·rw [if_pos c1] at h
    have h := Option.some.inj h; simp only [Prod.mk.injEq] at h; obtain ⟨rfl, rfl, rfl⟩ := h; have c1b : decide (u ≤ 0) = true := decide_eq_true c1; clear c1
    go_enter Tryd.func37, Tryd.ntmps37
    go_wp2_with (go_at_call 55; refine (packet_number.calls k A0 c0 s0_0 a1 n u _ HC2.out HL.out HN.out).mono ?_; rintro e w' ⟨rfl, ⟨nd, rfl⟩⟩)
    go_ret
    exact ⟨rfl, (HI.out.drewN nd).set_1 true, below_set (pw_below_drewN HB.out nd) HG.out, KeepBut.set_ (keep_drewN (KeepBut.refl w g none) nd) _ _⟩
   ·rw [if_neg c1] at h
    have c1b : decide (u ≤ 0) = false := decide_eq_false c1
    by_cases c2 : u ≤ (s0_0.length : Int)
    ·rw [if_pos c2] at h
     have h := Option.some.inj h; simp only [Prod.mk.injEq] at h; obtain ⟨rfl, rfl, rfl⟩ := h; have hcut := cut_from (P := Tryd.prog) 49 5 .i64 Tryd.underlying49 HI0.out 1 HZ.out A0 s0_0.length c0 u (by omega) c2; have hdr := Kd.C_drop (m := u.toNat) HC.out (by omega) HL.out; rw [show (Kd.int .u8).sz = 1 from rfl] at hdr; obtain ⟨A', hA'⟩ : ∃ A' : Option Addr, A' = (if c0 = u.toNat then A0 else A0.map (·.add (u.toNat * 1))) := ⟨_, rfl⟩; rw [← hA'] at hdr hcut; rw [← List.length_drop] at hcut; have HD := am (show Kd.C (Kd.int .u8) w0 A' (s0_0.drop u.toNat).length (s0_0.drop u.toNat) ∧ (s0_0.drop u.toNat).length ≤ c0 - u.toNat from ⟨hdr, by rw [List.length_drop]; have := HL.out; omega⟩); clear hdr hA'; have HU := am c2; clear c2
     go_enter Tryd.func37, Tryd.ntmps37
     go_wp2_with (go_at_call 55; refine (packet_number.calls k A0 c0 s0_0 a1 n u _ HC2.out HL.out HN.out).mono ?_; rintro e w' ⟨rfl, ⟨nd, rfl⟩⟩)
     go_ret
     exact ⟨rfl, (by have z_ := (HI.out.drewN nd).cut _ _ _ HD.out; rw [List.length_drop] at z_; exact z_), below_set (pw_below_drewN HB.out nd) HG.out, KeepBut.set_ (keep_drewN (KeepBut.refl w g none) nd) _ _⟩
    ·rw [if_neg c2] at h; cases h
def packet_Reader_Bad.f (s0_0 : List Int) (s0_1 : Bool) : Option (Bool × List Int × Bool) := some (s0_1, s0_0, s0_1)
set_option maxHeartbeats 8000000 in
set_option maxRecDepth 100000 in
theorem packet_Reader_Bad.calls (g : Nat) (s0_0 : List Int) (s0_1 : Bool) (r1 : Bool) (r2 : List Int) (r3 : Bool) (w0 w : World) (hI : IsS74 w0 w g s0_0 s0_1) (hB : Below w0.heap.size w0 w) (h : packet_Reader_Bad.f s0_0 s0_1 = some (r1, r2, r3)) :
  Calls Tryd.prog 38 #[.pointer (some ⟨g, 0, none⟩)] w fun e w' => e = .returned (.bool r1) ∧ IsS74 w0 w' g r2 r3 ∧ Below w0.heap.size w0 w' ∧ KeepBut w w' g none := by
 have HI0 := am hI; have HK := am (KeepBut.refl w g none); have HL := am hB.size; clear hI; have HW0 := am hB.size; have HB := am hB; clear hB; have H : (some (s0_1, s0_0, s0_1)) = some (r1, r2, r3) := h; clear h; simp only [Option.some.injEq, Prod.mk.injEq] at H; obtain ⟨rfl, rfl, rfl⟩ := H; obtain ⟨ASz2_0, cSz2_0, HGz2, hgz2, HSz2_0⟩ := HI0.out; have hcz2_0 := cellS74_0 HGz2; have hcz2_1 := cellS74_1 HGz2; have hfz2_0 := blk_frozen HGz2 0; have hfz2_1 := blk_frozen HGz2 1; clear HGz2 hgz2
 go_enter Tryd.func38, Tryd.ntmps38
 go_wp2
 go_ret
 exact ⟨ap4, IsS74.u HI0.out, beg (IsS74.ge HI0.out) HB.out, ku HK.out⟩
def packet_Reader_Text.f (k : Nat) (s0_0 : List Int) (s0_1 : Bool) (a1 : Int) : Option (ByteArray × List Int × Bool) := if 0 ≤ a1 ∧ a1 ≤ 1000000 then (packet_Reader_Number.f k s0_0 s0_1 a1).bind fun p => if p.2.2 = true then some (⟨#[]⟩, p.2.1, true) else if (p.2.1.length : Int) < p.1 then some (⟨#[]⟩, p.2.1, true) else if 0 ≤ p.1 then some (strOfNums (p.2.1.take p.1.toNat), p.2.1.drop p.1.toNat, false) else none else none
set_option maxHeartbeats 8000000 in
set_option maxRecDepth 100000 in
theorem packet_Reader_Text.calls (k : Nat) (g : Nat) (s0_0 : List Int) (s0_1 : Bool) (a1 : Int) (r1 : ByteArray) (r2 : List Int) (r3 : Bool) (w0 w : World) (hI : IsS74 w0 w g s0_0 s0_1) (hB : Below w0.heap.size w0 w) (h : packet_Reader_Text.f k s0_0 s0_1 a1 = some (r1, r2, r3)) :
  Calls Tryd.prog 39 #[.pointer (some ⟨g, 0, none⟩), .int .i64 a1] w fun e w' => e = .returned (.string r1) ∧ IsS74 w0 w' g r2 r3 ∧ Below w0.heap.size w0 w' ∧ KeepBut w w' g none := by
 unfold packet_Reader_Text.f at h
 by_cases ca : 0 ≤ a1 ∧ a1 ≤ 1000000
 ·rw [if_pos ca] at h
  obtain ⟨ca0, ca1⟩ := ca
  cases hn : packet_Reader_Number.f k s0_0 s0_1 a1 with
  | none => rw [hn] at h; cases h
  | some p =>
   obtain ⟨n, s, b⟩ := p; rw [hn] at h; simp only [Option.bind_some] at h; have HN := am hn; clear hn; have HI := am hI; have HB := am hB; obtain ⟨A0, c0, hblk, hge, hC, hle⟩ := hI; have HG := am hge; have hc0 := cellS74_0 hblk; have hc1 := cellS74_1 hblk; have hf0 := blk_frozen hblk 0; have hf1 := blk_frozen hblk 1; clear hB hblk hge hC hle; obtain ⟨i0, hi0, hzz⟩ := Option.map_eq_some_iff.1 info5; simp only [Prod.mk.injEq] at hzz; have HZ := am hzz.2.1; have HI0 := am hi0; clear hzz hi0; have HS := am (HI.out.set_1 s0_1); have HBS := am (show Below w0.heap.size w0 (w.setCell ⟨g, 1, none⟩ (.bool s0_1)) from below_set HB.out HG.out); have HKS := am (KeepBut.set_ (KeepBut.refl w g none) 1 (.bool s0_1)); have hlt : decide (a1 < 0) = false := decide_eq_false (by omega)
   have hmx : mx a1 0 = a1 := by unfold mx; omega
   have hwr : IntKind.u64.wrap a1 = a1 := IntWalk.u64_in a1 ⟨ca0, by omega⟩; have CA := am ca1; clear ca1
   cases s0_1
   all_goals
    cases b
    ·-- false
     rw [if_neg (by decide)] at h
     by_cases cn : (s.length : Int) < n
     ·rw [if_pos cn] at h
      have cnb : decide ((s.length : Int) < n) = true := decide_eq_true cn; have h := Option.some.inj h; simp only [Prod.mk.injEq] at h; obtain ⟨rfl, rfl, rfl⟩ := h; clear cn
      go_enter Tryd.func39, Tryd.ntmps39
      go_wp2_with (go_at_call 37; refine (packet_Reader_Number.calls k g _ _ _ n s _ w0 _ HS.out HBS.out HN.out).mono ?_; rintro e w2 ⟨rfl, hi, hb, hk⟩; have HI2 := am hi; have HB2 := am hb; have HK2 := am (HKS.out.trans hk (.inl rfl)); obtain ⟨A2, c2, hblk2, hge2, hC2, hle2⟩ := hi; have hd0 := cellS74_0 hblk2; have hd1 := cellS74_1 hblk2; have he0 := blk_frozen hblk2 0; have he1 := blk_frozen hblk2 1; have HC2 := am hC2; have HL2 := am hle2; clear hb hk hblk2 hge2 hC2 hle2; have hsl := Kd.C_max HC2.out; have hlw : IntKind.u64.wrap ((s.length : Nat) : Int) = ((s.length : Nat) : Int) := IntWalk.u64_in _ ⟨by omega, by omega⟩)
      go_ret
      exact ⟨rfl, HI2.out.set_1 true, below_set HB2.out HG.out, KeepBut.set_ HK2.out _ _⟩
     ·rw [if_neg cn] at h
      have cnb : decide ((s.length : Int) < n) = false := decide_eq_false cn
      by_cases cp : 0 ≤ n
      ·rw [if_pos cp] at h
       have h := Option.some.inj h; simp only [Prod.mk.injEq] at h; obtain ⟨rfl, rfl, rfl⟩ := h; have HP := am cp; have HM := am (show n ≤ (s.length : Int) by omega); clear cn cp
       go_enter Tryd.func39, Tryd.ntmps39
       go_wp2_with (go_at_call 37; refine (packet_Reader_Number.calls k g _ _ _ n s _ w0 _ HS.out HBS.out HN.out).mono ?_; rintro e w2 ⟨rfl, hi, hb, hk⟩; have HI2 := am hi; have HB2 := am hb; have HK2 := am (HKS.out.trans hk (.inl rfl)); obtain ⟨A2, c2, hblk2, hge2, hC2, hle2⟩ := hi; have hd0 := cellS74_0 hblk2; have hd1 := cellS74_1 hblk2; have he0 := blk_frozen hblk2 0; have he1 := blk_frozen hblk2 1; have HC2 := am hC2; have HL2 := am hle2; clear hb hk hblk2 hge2 hC2 hle2; have htl : (s.take n.toNat).length = n.toNat := (by rw [List.length_take]; have := HM.out; omega); have hcut := cut_to (P := Tryd.prog) 49 5 .u64 Tryd.underlying49 HI0.out A2 s.length c2 n HP.out HM.out HL2.out; have hcu2 := cut_from (P := Tryd.prog) 49 5 .u64 Tryd.underlying49 HI0.out 1 HZ.out A2 s.length c2 n HP.out HM.out; obtain ⟨A3, hA3⟩ : ∃ A3 : Option Addr, A3 = (if c2 = n.toNat then A2 else A2.map (·.add (n.toNat * 1))) := ⟨_, rfl⟩; have HD := am (show Kd.C (Kd.int .u8) w0 A3 (s.drop n.toNat).length (s.drop n.toNat) ∧ (s.drop n.toNat).length ≤ c2 - n.toNat from ⟨by rw [hA3]; exact Kd.C_drop (m := n.toNat) HC2.out (by have := HM.out; omega) HL2.out, by rw [List.length_drop]; have := HL2.out; omega⟩); rw [← hA3] at hcu2; clear hA3; have hst := Kd.C_string (P := Tryd.prog) (w := w2) (src := 49) (dst := 9) (e := 5) (A := A2) (n := n.toNat) (c := c2) (xs := s.take n.toNat) Tryd.underlying49 Tryd.underlying5 Tryd.underlying9 (by have z_ := Kd.C_below (Kd.C_take (m := n.toNat) HC2.out (by have := HM.out; omega)) HB2.out; rw [htl] at z_; exact z_); clear htl; have hsl := Kd.C_max HC2.out; have hlw : IntKind.u64.wrap ((s.length : Nat) : Int) = ((s.length : Nat) : Int) := IntWalk.u64_in _ ⟨by omega, by omega⟩)
       go_ret
       exact ⟨rfl, (by have z_ := HI2.out.cut _ _ _ HD.out; rw [List.length_drop] at z_; exact z_), below_set HB2.out HG.out, KeepBut.set_ HK2.out _ _⟩
      ·rw [if_neg cp] at h; cases h
    ·-- true
     rw [if_pos rfl] at h; have h := Option.some.inj h; simp only [Prod.mk.injEq] at h; obtain ⟨rfl, rfl, rfl⟩ := h
     go_enter Tryd.func39, Tryd.ntmps39
     go_wp2_with (go_at_call 37; refine (packet_Reader_Number.calls k g _ _ _ n s _ w0 _ HS.out HBS.out HN.out).mono ?_; rintro e w2 ⟨rfl, hi, hb, hk⟩; have HI2 := am hi; have HB2 := am hb; have HK2 := am (HKS.out.trans hk (.inl rfl)); obtain ⟨A2, c2, hblk2, hge2, hC2, hle2⟩ := hi; have hd0 := cellS74_0 hblk2; have hd1 := cellS74_1 hblk2; have he0 := blk_frozen hblk2 0; have he1 := blk_frozen hblk2 1; have HC2 := am hC2; have HL2 := am hle2; clear hb hk hblk2 hge2 hC2 hle2)
     go_ret
     exact ⟨rfl, HI2.out.set_1 true, below_set HB2.out HG.out, KeepBut.set_ HK2.out _ _⟩
 ·rw [if_neg ca] at h; cases h
mutual
def outbox_Take.l0 : Nat → List (S27) → Int → List Int → Bool → Option ((List (S27)) × Bool × List Int × Bool)
 | 0, _, _, _, _ => none
 | k + 1, x4, x5, x1000, x1001 => if x5 > 0 then ((packet_Reader_Bad.f x1000 x1001).bind fun bt281 => (outbox_Take.j1 k x4 x5 (!bt281.1) bt281.2.1 bt281.2.2)) else (outbox_Take.j1 k x4 x5 false x1000 x1001)
def outbox_Take.j1 : Nat → List (S27) → Int → Bool → List Int → Bool → Option ((List (S27)) × Bool × List Int × Bool)
 | 0, _, _, _, _, _ => none
 | k + 1, x4, x5, x15, x1000, x1001 => if x15 = true then ((packet_Reader_Number.f k x1000 x1001 1000000000000).bind fun bt284 => ((packet_Reader_Number.f k bt284.2.1 bt284.2.2 7).bind fun bt287 => ((packet_Reader_Number.f k bt287.2.1 bt287.2.2 1000000).bind fun bt290 => ((packet_Reader_Number.f k bt290.2.1 bt290.2.2 1099511627776).bind fun bt293 => ((packet_Reader_Number.f k bt293.2.1 bt293.2.2 1000000000000).bind fun bt296 => ((packet_Reader_Text.f k bt296.2.1 bt296.2.2 32).bind fun bt300 => (if x4.length < 2513169434916 then (outbox_Take.l0 k (x4 ++ [(⟨wrap64 (bt284.1), wrap64 (bt296.1), wrap64 (bt293.1), wrap64 (bt287.1), wrap64 (bt290.1), bt300.1⟩ : S27)]) (IntKind.u64.wrap (x5 - 1)) bt300.2.1 bt300.2.2) else (none)))))))) else ((packet_Reader_Bad.f x1000 x1001).bind fun bt306 => (if bt306.1 = true then (some (([] : List (S27)), false, bt306.2.1, bt306.2.2)) else ((outbox_Right.f k x4).bind fun t309 => (if t309 = true then (some (x4, true, bt306.2.1, bt306.2.2)) else (some (([] : List (S27)), false, bt306.2.1, bt306.2.2))))))
end
def outbox_Take.f (k : Nat) (s0_0 : List Int) (s0_1 : Bool) : Option ((List (S27)) × Bool × List Int × Bool) := (packet_Reader_Number.f k s0_0 s0_1 1048576).bind fun bt278 => (outbox_Take.l0 k ([] : List (S27)) bt278.1 bt278.2.1 bt278.2.2)
set_option maxHeartbeats 8000000 in
set_option maxRecDepth 100000 in
theorem outbox_Take.calls (k : Nat) (g : Nat) (s0_0 : List Int) (s0_1 : Bool) (r1 : List (S27)) (r2 : Bool) (r3 : List Int) (r4 : Bool) (w0 w : World) (hI : IsS74 w0 w g s0_0 s0_1) (hB : Below w0.heap.size w0 w) (hT : Tabs w0) (h : outbox_Take.f k s0_0 s0_1 = some (r1, r2, r3, r4)) :
  Calls Tryd.prog 24 #[.pointer (some ⟨g, 0, none⟩)] w fun e w' => ∃ v0_ : Value, e = .returned (.tuple #[v0_, .bool r2]) ∧ Kd.R k27 27 w' w.heap.size (fun _ => True) v0_ r1 ∧ IsS74 w0 w' g r3 r4 ∧ Below w0.heap.size w0 w' ∧ KeepBut w w' g none := by
 have hu27 := Tryd.underlying27; have HT := am hT; clear hT; have HI0 := am hI; have HK := am (KeepBut.refl w g none); have HL := am hB.size; clear hI; have HW0 := am hB.size; have HB := am hB; clear hB; have H : ((packet_Reader_Number.f k s0_0 s0_1 1048576).bind fun bt278 => (outbox_Take.l0 k ([] : List (S27)) bt278.1 bt278.2.1 bt278.2.2)) = some (r1, r2, r3, r4) := h; clear h; replace H := obm H; obtain ⟨⟨t278, t279, t280⟩, A20, H⟩ := H; replace H : (outbox_Take.l0 k ([] : List (S27)) t278 t279 t280) = some (r1, r2, r3, r4) := H; have A2 := am A20; clear A20; have H' := am H; clear H
 go_enter Tryd.func24, Tryd.ntmps24
 go_wp2_with (first | ((with_reducible refine gate_callee (f := 37) rfl ?_); refine goesL_ (some 8) rfl rfl Tryd.func37 (by kernel_rfl) rfl #[.pointer (some ⟨g, 0, none⟩), .int .u64 1048576] rfl ap1 ?_; (with_reducible refine (packet_Reader_Number.calls k g s0_0 s0_1 1048576 t278 t279 t280 w0 _ ?side1 ?side2 A2.out).mono ?_); (case side1 => exact IsS74.u HI0.out); (case side2 => exact beg (IsS74.ge HI0.out) HB.out); rintro e w3 ⟨rfl, hi, hb, hk⟩; refine ⟨_, rfl, ?_⟩; have _ := am (KeepBut.trans (ku HK.out) hk (.inl rfl)); have _ := am (hb); have _ := am (hi); clear HK HB HI0; rename_i HK HB HI0; (try clear hb hk hi)))
 go_loopg [4, 5] k (fun kq v4 v5 w' => ∃ (x4_1 : List (S27)) (x5_1 : Int) (x1000_1 : List Int) (x1001_1 : Bool), v5 = .int .u64 x5_1 ∧ Aside0 (outbox_Take.l0 kq x4_1 x5_1 x1000_1 x1001_1 = some (r1, r2, r3, r4)) ∧ Aside0 (kq ≤ k) ∧ Aside0 (Kd.R k27 27 w' w.heap.size (fun _ => True) v4 x4_1) ∧ Aside0 (IsS74 w0 w' g x1000_1 x1001_1) ∧ Aside0 (KeepBut w w' g none) ∧ Aside0 (Below w0.heap.size w0 w'))
 case atStart => exact ⟨(([] : List (S27))), (t278), (t279), (t280), ap3, H', ⟨Nat.le_refl _⟩, ⟨by first | exact Kd.R_nil _ _ _ _ _ | exact Kd.N_nil _ _ _ _ _ | exact Kd.V_nil _ _ _ _ _ | exact Kd.Q_nil _ _ _ _ _ | exact Kd.S_nil _ _ _ _ _⟩, ⟨IsS74.u HI0.out⟩, ⟨ku HK.out⟩, ⟨beg (IsS74.ge HI0.out) HB.out⟩⟩
 case round =>
  clear H'; (try clear c2); (try clear p2); (try clear c3); obtain ⟨x4_1, x5_1, x1000_1, x1001_1, rfl, HA, HK1, HO_4, HI0, HK, HB⟩ := hrel
  cases gk with
  | zero => exact absurd HA.out (by simp [outbox_Take.l0])
  | succ k1 =>
   have H := HA.out; clear HA; simp only [outbox_Take.l0] at H; have HC4 := am H; clear H
   go_upto_region 3 with (fail)
   go_cut [15] (fun v15 wc => ∃ (kq : Nat) (x15_3 : Bool) (x1000_3 : List Int) (x1001_3 : Bool), v15 = .bool x15_3 ∧ Aside0 (outbox_Take.j1 kq x4_1 x5_1 x15_3 x1000_3 x1001_3 = some (r1, r2, r3, r4)) ∧ Aside0 (kq ≤ k1) ∧ Aside0 (Kd.R k27 27 wc w.heap.size (fun _ => True) u4 x4_1) ∧ Aside0 (IsS74 w0 wc g x1000_3 x1001_3) ∧ Aside0 (KeepBut w wc g none) ∧ Aside0 (Below w0.heap.size w0 wc))
   case first =>
    have H := HC4.out; clear HC4
    by_cases c5 : x5_1 > 0
    ·rw [if_pos c5] at H
     have c5b0 : decide (0 < x5_1) = true := decide_eq_true c5; clear c5
     (first | rw [c5b0] | (simp only [i64_w, i32_w]; rw [c5b0]) | skip)
     replace H := obm H; obtain ⟨⟨t281, t282, t283⟩, A60, H⟩ := H; replace H : (outbox_Take.j1 k1 x4_1 x5_1 (!t281) t282 t283) = some (r1, r2, r3, r4) := H; have A6 := am A60; clear A60; have H' := am H; clear H
     go_wp2_with (first | (go_at_call 38; (with_reducible refine (packet_Reader_Bad.calls g x1000_1 x1001_1 t281 t282 t283 w0 _ ?side1 ?side2 A6.out).mono ?_); (case side1 => exact IsS74.u HI0.out); (case side2 => exact beg (IsS74.ge HI0.out) HB.out); rintro e w7 ⟨rfl, hi, hb, hk⟩; have _ := am (Kd.R_mono (Kd.R_keep (IsS74.apart (show IsS74 w0 _ g x1000_1 x1001_1 from IsS74.u HI0.out) (ru HO_4.out) (by decide)) hk (fun _ h => h.2)) (fun _ h => h.1)); have _ := am (KeepBut.trans (ku HK.out) hk (.inl rfl)); have _ := am (hb); have _ := am (hi); clear HO_4 HK HB HI0; rename_i HO_4 HK HB HI0; (try clear hb hk hi)))
     go_meet
     case rel => exact ⟨_, (!t281), (t282), (t283), ap3, H', ⟨by have := HK1.out; first | omega | exact Nat.le_refl _⟩, ⟨ru HO_4.out⟩, ⟨IsS74.u HI0.out⟩, ⟨ku HK.out⟩, ⟨beg (IsS74.ge HI0.out) HB.out⟩⟩
    ·rw [if_neg c5] at H
     have c5b0 : decide (0 < x5_1) = false := decide_eq_false c5; clear c5
     (first | rw [c5b0] | (simp only [i64_w, i32_w]; rw [c5b0]) | skip)
     have H' := am H; clear H
     go_wp2
     go_meet
     case rel => exact ⟨_, (false), (x1000_1), (x1001_1), ap3, H', ⟨by have := HK1.out; first | omega | exact Nat.le_refl _⟩, ⟨ru HO_4.out⟩, ⟨IsS74.u HI0.out⟩, ⟨ku HK.out⟩, ⟨beg (IsS74.ge HI0.out) HB.out⟩⟩
   case rest =>
    clear HC4; (try clear c2); (try clear p2); (try clear c3); (try clear c5); (try clear c5b0); (try clear p2); obtain ⟨kq, x15_3, x1000_3, x1001_3, rfl, HA, HJ3, HO_4, HI0, HK, HB⟩ := hcut
    cases kq with
    | zero => exact absurd HA.out (by simp [outbox_Take.j1])
    | succ kj3 =>
     have H := HA.out; clear HA; simp only [outbox_Take.j1] at H
     by_cases c8 : x15_3 = true
     ·subst c8
      have H1 : ((packet_Reader_Number.f kj3 x1000_3 x1001_3 1000000000000).bind fun bt284 => ((packet_Reader_Number.f kj3 bt284.2.1 bt284.2.2 7).bind fun bt287 => ((packet_Reader_Number.f kj3 bt287.2.1 bt287.2.2 1000000).bind fun bt290 => ((packet_Reader_Number.f kj3 bt290.2.1 bt290.2.2 1099511627776).bind fun bt293 => ((packet_Reader_Number.f kj3 bt293.2.1 bt293.2.2 1000000000000).bind fun bt296 => ((packet_Reader_Text.f kj3 bt296.2.1 bt296.2.2 32).bind fun bt300 => (if x4_1.length < 2513169434916 then (outbox_Take.l0 kj3 (x4_1 ++ [(⟨wrap64 (bt284.1), wrap64 (bt296.1), wrap64 (bt293.1), wrap64 (bt287.1), wrap64 (bt290.1), bt300.1⟩ : S27)]) (IntKind.u64.wrap (x5_1 - 1)) bt300.2.1 bt300.2.2) else (none)))))))) = some (r1, r2, r3, r4) := by rw [if_pos rfl] at H; exact H
      clear H; have H := H1; clear H1; replace H := obm H; obtain ⟨⟨t284, t285, t286⟩, A90, H⟩ := H; replace H : ((packet_Reader_Number.f kj3 t285 t286 7).bind fun bt287 => ((packet_Reader_Number.f kj3 bt287.2.1 bt287.2.2 1000000).bind fun bt290 => ((packet_Reader_Number.f kj3 bt290.2.1 bt290.2.2 1099511627776).bind fun bt293 => ((packet_Reader_Number.f kj3 bt293.2.1 bt293.2.2 1000000000000).bind fun bt296 => ((packet_Reader_Text.f kj3 bt296.2.1 bt296.2.2 32).bind fun bt300 => (if x4_1.length < 2513169434916 then (outbox_Take.l0 kj3 (x4_1 ++ [(⟨wrap64 (t284), wrap64 (bt296.1), wrap64 (bt293.1), wrap64 (bt287.1), wrap64 (bt290.1), bt300.1⟩ : S27)]) (IntKind.u64.wrap (x5_1 - 1)) bt300.2.1 bt300.2.2) else (none))))))) = some (r1, r2, r3, r4) := H; have A9 := am A90; clear A90; replace H := obm H; obtain ⟨⟨t287, t288, t289⟩, A100, H⟩ := H; replace H : ((packet_Reader_Number.f kj3 t288 t289 1000000).bind fun bt290 => ((packet_Reader_Number.f kj3 bt290.2.1 bt290.2.2 1099511627776).bind fun bt293 => ((packet_Reader_Number.f kj3 bt293.2.1 bt293.2.2 1000000000000).bind fun bt296 => ((packet_Reader_Text.f kj3 bt296.2.1 bt296.2.2 32).bind fun bt300 => (if x4_1.length < 2513169434916 then (outbox_Take.l0 kj3 (x4_1 ++ [(⟨wrap64 (t284), wrap64 (bt296.1), wrap64 (bt293.1), wrap64 (t287), wrap64 (bt290.1), bt300.1⟩ : S27)]) (IntKind.u64.wrap (x5_1 - 1)) bt300.2.1 bt300.2.2) else (none)))))) = some (r1, r2, r3, r4) := H; have A10 := am A100; clear A100; replace H := obm H; obtain ⟨⟨t290, t291, t292⟩, A110, H⟩ := H; replace H : ((packet_Reader_Number.f kj3 t291 t292 1099511627776).bind fun bt293 => ((packet_Reader_Number.f kj3 bt293.2.1 bt293.2.2 1000000000000).bind fun bt296 => ((packet_Reader_Text.f kj3 bt296.2.1 bt296.2.2 32).bind fun bt300 => (if x4_1.length < 2513169434916 then (outbox_Take.l0 kj3 (x4_1 ++ [(⟨wrap64 (t284), wrap64 (bt296.1), wrap64 (bt293.1), wrap64 (t287), wrap64 (t290), bt300.1⟩ : S27)]) (IntKind.u64.wrap (x5_1 - 1)) bt300.2.1 bt300.2.2) else (none))))) = some (r1, r2, r3, r4) := H; have A11 := am A110; clear A110; replace H := obm H; obtain ⟨⟨t293, t294, t295⟩, A120, H⟩ := H; replace H : ((packet_Reader_Number.f kj3 t294 t295 1000000000000).bind fun bt296 => ((packet_Reader_Text.f kj3 bt296.2.1 bt296.2.2 32).bind fun bt300 => (if x4_1.length < 2513169434916 then (outbox_Take.l0 kj3 (x4_1 ++ [(⟨wrap64 (t284), wrap64 (bt296.1), wrap64 (t293), wrap64 (t287), wrap64 (t290), bt300.1⟩ : S27)]) (IntKind.u64.wrap (x5_1 - 1)) bt300.2.1 bt300.2.2) else (none)))) = some (r1, r2, r3, r4) := H; have A12 := am A120; clear A120; replace H := obm H; obtain ⟨⟨t296, t297, t298⟩, A130, H⟩ := H; replace H : ((packet_Reader_Text.f kj3 t297 t298 32).bind fun bt300 => (if x4_1.length < 2513169434916 then (outbox_Take.l0 kj3 (x4_1 ++ [(⟨wrap64 (t284), wrap64 (t296), wrap64 (t293), wrap64 (t287), wrap64 (t290), bt300.1⟩ : S27)]) (IntKind.u64.wrap (x5_1 - 1)) bt300.2.1 bt300.2.2) else (none))) = some (r1, r2, r3, r4) := H; have A13 := am A130; clear A130; replace H := obm H; obtain ⟨⟨t300, t301, t302⟩, A140, H⟩ := H; replace H : (if x4_1.length < 2513169434916 then (outbox_Take.l0 kj3 (x4_1 ++ [(⟨wrap64 (t284), wrap64 (t296), wrap64 (t293), wrap64 (t287), wrap64 (t290), t300⟩ : S27)]) (IntKind.u64.wrap (x5_1 - 1)) t301 t302) else (none)) = some (r1, r2, r3, r4) := H; have A14 := am A140; clear A140
      by_cases c15 : x4_1.length < 2513169434916
      ·rw [if_pos c15] at H
       have LMc15 := am c15; clear c15; obtain ⟨y303, hy303⟩ : ∃ y_ : List (S27), y_ = (x4_1 ++ [(⟨wrap64 (t284), wrap64 (t296), wrap64 (t293), wrap64 (t287), wrap64 (t290), t300⟩ : S27)]) := ⟨_, rfl⟩
       replace H : (outbox_Take.l0 kj3 y303 (IntKind.u64.wrap (x5_1 - 1)) t301 t302) = some (r1, r2, r3, r4) := by first | (rw [hy303]; with_reducible exact H) | (have H2_ := (Option.bind_some _ _).symm.trans H; rw [hy303]; with_reducible exact H2_) | (have H2_ := (Option.bind_some _ _).symm.trans H; with_reducible exact H2_) | with_reducible exact H | (rw [hy303]; exact H) | exact H
       have Ny303 := am hy303; clear hy303; have H' := am H; clear H
       go_wp2_with (first | ((with_reducible refine gate_callee (f := 37) rfl ?_); refine goesL_ (some 19) rfl rfl Tryd.func37 (by kernel_rfl) rfl #[.pointer (some ⟨g, 0, none⟩), .int .u64 1000000000000] rfl ap1 ?_; (with_reducible refine (packet_Reader_Number.calls kj3 g x1000_3 x1001_3 1000000000000 t284 t285 t286 w0 _ ?side1 ?side2 A9.out).mono ?_); (case side1 => exact IsS74.u HI0.out); (case side2 => exact beg (IsS74.ge HI0.out) HB.out); rintro e w16 ⟨rfl, hi, hb, hk⟩; refine ⟨_, rfl, ?_⟩; have _ := am (Kd.R_mono (Kd.R_keep (IsS74.apart (show IsS74 w0 _ g x1000_3 x1001_3 from IsS74.u HI0.out) (ru HO_4.out) (by decide)) hk (fun _ h => h.2)) (fun _ h => h.1)); have _ := am (KeepBut.trans (ku HK.out) hk (.inl rfl)); have _ := am (hb); have _ := am (hi); clear HO_4 HK HB HI0; rename_i HO_4 HK HB HI0; (try clear hb hk hi)) | ((with_reducible refine gate_callee (f := 37) rfl ?_); refine goesL_ (some 22) rfl rfl Tryd.func37 (by kernel_rfl) rfl #[.pointer (some ⟨g, 0, none⟩), .int .u64 7] rfl ap1 ?_; (with_reducible refine (packet_Reader_Number.calls kj3 g t285 t286 7 t287 t288 t289 w0 _ ?side1 ?side2 A10.out).mono ?_); (case side1 => exact IsS74.u HI0.out); (case side2 => exact beg (IsS74.ge HI0.out) HB.out); rintro e w17 ⟨rfl, hi, hb, hk⟩; refine ⟨_, rfl, ?_⟩; have _ := am (Kd.R_mono (Kd.R_keep (IsS74.apart (show IsS74 w0 _ g t285 t286 from IsS74.u HI0.out) (ru HO_4.out) (by decide)) hk (fun _ h => h.2)) (fun _ h => h.1)); have _ := am (KeepBut.trans (ku HK.out) hk (.inl rfl)); have _ := am (hb); have _ := am (hi); clear HO_4 HK HB HI0; rename_i HO_4 HK HB HI0; (try clear hb hk hi)) | ((with_reducible refine gate_callee (f := 37) rfl ?_); refine goesL_ (some 25) rfl rfl Tryd.func37 (by kernel_rfl) rfl #[.pointer (some ⟨g, 0, none⟩), .int .u64 1000000] rfl ap1 ?_; (with_reducible refine (packet_Reader_Number.calls kj3 g t288 t289 1000000 t290 t291 t292 w0 _ ?side1 ?side2 A11.out).mono ?_); (case side1 => exact IsS74.u HI0.out); (case side2 => exact beg (IsS74.ge HI0.out) HB.out); rintro e w18 ⟨rfl, hi, hb, hk⟩; refine ⟨_, rfl, ?_⟩; have _ := am (Kd.R_mono (Kd.R_keep (IsS74.apart (show IsS74 w0 _ g t288 t289 from IsS74.u HI0.out) (ru HO_4.out) (by decide)) hk (fun _ h => h.2)) (fun _ h => h.1)); have _ := am (KeepBut.trans (ku HK.out) hk (.inl rfl)); have _ := am (hb); have _ := am (hi); clear HO_4 HK HB HI0; rename_i HO_4 HK HB HI0; (try clear hb hk hi)) | ((with_reducible refine gate_callee (f := 37) rfl ?_); refine goesL_ (some 28) rfl rfl Tryd.func37 (by kernel_rfl) rfl #[.pointer (some ⟨g, 0, none⟩), .int .u64 1099511627776] rfl ap1 ?_; (with_reducible refine (packet_Reader_Number.calls kj3 g t291 t292 1099511627776 t293 t294 t295 w0 _ ?side1 ?side2 A12.out).mono ?_); (case side1 => exact IsS74.u HI0.out); (case side2 => exact beg (IsS74.ge HI0.out) HB.out); rintro e w19 ⟨rfl, hi, hb, hk⟩; refine ⟨_, rfl, ?_⟩; have _ := am (Kd.R_mono (Kd.R_keep (IsS74.apart (show IsS74 w0 _ g t291 t292 from IsS74.u HI0.out) (ru HO_4.out) (by decide)) hk (fun _ h => h.2)) (fun _ h => h.1)); have _ := am (KeepBut.trans (ku HK.out) hk (.inl rfl)); have _ := am (hb); have _ := am (hi); clear HO_4 HK HB HI0; rename_i HO_4 HK HB HI0; (try clear hb hk hi)) | ((with_reducible refine gate_callee (f := 37) rfl ?_); refine goesL_ (some 31) rfl rfl Tryd.func37 (by kernel_rfl) rfl #[.pointer (some ⟨g, 0, none⟩), .int .u64 1000000000000] rfl ap1 ?_; (with_reducible refine (packet_Reader_Number.calls kj3 g t294 t295 1000000000000 t296 t297 t298 w0 _ ?side1 ?side2 A13.out).mono ?_); (case side1 => exact IsS74.u HI0.out); (case side2 => exact beg (IsS74.ge HI0.out) HB.out); rintro e w20 ⟨rfl, hi, hb, hk⟩; refine ⟨_, rfl, ?_⟩; have _ := am (Kd.R_mono (Kd.R_keep (IsS74.apart (show IsS74 w0 _ g t294 t295 from IsS74.u HI0.out) (ru HO_4.out) (by decide)) hk (fun _ h => h.2)) (fun _ h => h.1)); have _ := am (KeepBut.trans (ku HK.out) hk (.inl rfl)); have _ := am (hb); have _ := am (hi); clear HO_4 HK HB HI0; rename_i HO_4 HK HB HI0; (try clear hb hk hi)) | ((with_reducible refine gate_dst (N := 6) rfl ?_); refine box_event ?hg (N := 6) ?hd (cs := #[.int .i64 0, .int .i64 0, .int .i64 0, .int .i64 0, .int .i64 0, .string ⟨#[]⟩]) (t := 27) ?hr ?_; (case hd => rfl); (case hg => rfl); (case hr => first | (go_simp; done) | (go_simp; rfl)); intro gb299 hg w21 hbox hb; have _ := am (Kd.R_below (Kd.R_elderB (ru HO_4.out) gb299 (Nat.le_of_eq hg.symm)) hb); have _ := am (IsS74.below (IsS74.u HI0.out) hb); have _ := am (KeepBut.trans (ku HK.out) (KeepBut.of_below hb g none) (.inl rfl)); have _ := am (below_step (beg (IsS74.ge HI0.out) HB.out) hb); have _ := am (hbox); have _ := am ((by rw [hg]; exact (keep_size (w := w) (g := g) (row := none) (ku HK.out)) : w.heap.size ≤ gb299)); have _ := am ((Nat.le_trans HW0.out (by rw [hg]; exact (keep_size (w := w) (g := g) (row := none) (ku HK.out)) : w.heap.size ≤ gb299) : w0.heap.size ≤ gb299)); have _ := am ((by rw [hg]; exact (IsS74.lt (show IsS74 w0 _ g t297 t298 from IsS74.u HI0.out)) : g < gb299)); have _ := am ((by rw [hg]; exact Nat.ne_of_lt (IsS74.lt (show IsS74 w0 _ g t297 t298 from IsS74.u HI0.out)) : g ≠ gb299)); have _ := am ((by rw [hg]; exact Nat.ne_of_gt (IsS74.lt (show IsS74 w0 _ g t297 t298 from IsS74.u HI0.out)) : gb299 ≠ g)); clear HO_4 HI0 HK HB; rename_i HO_4 HI0 HK HB BK299 GW299 GE299 NG0_299 NB0_299 NB299_0; clear hb hbox hg; have := NB299_0.out; have := NB0_299.out; obtain ⟨hcz23_0, hcz23_1, hcz23_2, hcz23_3, hcz23_4, hcz23_5⟩ := cells6 BK299.out; obtain ⟨hfz23_0, hfz23_1, hfz23_2, hfz23_3, hfz23_4, hfz23_5⟩ := frozens6 BK299.out) | ((with_reducible refine gate_callee (f := 39) rfl ?_); refine goesL_ (some 35) rfl rfl Tryd.func39 (by kernel_rfl) rfl #[.pointer (some ⟨g, 0, none⟩), .int .i64 32] rfl ap1 ?_; (with_reducible refine (packet_Reader_Text.calls kj3 g t297 t298 32 t300 t301 t302 w0 _ ?side1 ?side2 A14.out).mono ?_); (case side1 => exact IsS74.u HI0.out); (case side2 => exact beg (IsS74.ge HI0.out) HB.out); rintro e w24 ⟨rfl, hi, hb, hk⟩; refine ⟨_, rfl, ?_⟩; have _ := am (Kd.R_mono (Kd.R_keep (IsS74.apart (show IsS74 w0 _ g t297 t298 from IsS74.u HI0.out) (ru (Kd.R_mono (rf gb299 5 (rf gb299 4 (rf gb299 3 (rf gb299 2 (rf gb299 1 (rf gb299 0 (Kd.R_mono HO_4.out (fun k_ hk => (⟨hk, by first | exact hk.2 | exact hk.2.2.2 | exact hk.2.2 | exact hk.2.1 | exact hk.2.2.1⟩ : _ ∧ k_ ≠ gb299))) (.int .i64 (wrap64 (t284)))) (.int .i64 (wrap64 (t296)))) (.int .i64 (wrap64 (t293)))) (.int .i64 (wrap64 (t287)))) (.int .i64 (wrap64 (t290)))) (.string ⟨#[]⟩)) (fun _ h_ => h_.1))) (by decide)) hk (fun _ h => h.2)) (fun _ h => h.1)); have _ := am (KeepBut.blk hk (g' := gb299) (o := .cells #[.int .i64 (wrap64 (t284)), .int .i64 (wrap64 (t296)), .int .i64 (wrap64 (t293)), .int .i64 (wrap64 (t287)), .int .i64 (wrap64 (t290)), .string ⟨#[]⟩] 27 (0, 0)) (by refine bu ?_; refine blk_put (cs := #[.int .i64 (wrap64 (t284)), .int .i64 (wrap64 (t296)), .int .i64 (wrap64 (t293)), .int .i64 (wrap64 (t287)), .int .i64 (wrap64 (t290)), .string ⟨#[]⟩]) ?_ 5 _ rfl; refine bu ?_; refine blk_put (cs := #[.int .i64 (wrap64 (t284)), .int .i64 (wrap64 (t296)), .int .i64 (wrap64 (t293)), .int .i64 (wrap64 (t287)), .int .i64 0, .string ⟨#[]⟩]) ?_ 4 _ rfl; refine bu ?_; refine blk_put (cs := #[.int .i64 (wrap64 (t284)), .int .i64 (wrap64 (t296)), .int .i64 (wrap64 (t293)), .int .i64 0, .int .i64 0, .string ⟨#[]⟩]) ?_ 3 _ rfl; refine bu ?_; refine blk_put (cs := #[.int .i64 (wrap64 (t284)), .int .i64 (wrap64 (t296)), .int .i64 0, .int .i64 0, .int .i64 0, .string ⟨#[]⟩]) ?_ 2 _ rfl; refine bu ?_; refine blk_put (cs := #[.int .i64 (wrap64 (t284)), .int .i64 0, .int .i64 0, .int .i64 0, .int .i64 0, .string ⟨#[]⟩]) ?_ 1 _ rfl; refine bu ?_; refine blk_put (cs := #[.int .i64 0, .int .i64 0, .int .i64 0, .int .i64 0, .int .i64 0, .string ⟨#[]⟩]) ?_ 0 _ rfl; refine bu ?_; exact BK299.out) NB299_0.out (by simp)); have _ := am (KeepBut.trans (ku HK.out) hk (.inl rfl)); have _ := am (hb); have _ := am (hi); clear HO_4 BK299 HK HB HI0; rename_i HO_4 BK299 HK HB HI0; (try clear hb hk hi); obtain ⟨_, _, _, _, _, _⟩ := cells6 BK299.out; obtain ⟨_, _, _, _, _, _⟩ := frozens6 BK299.out) | ((with_reducible refine gate_builtin (b := .append) (xs := #[.tmp 37, .tmp 39]) rfl ?_); at_builtin; refine Kd.R_append k27 w.heap.size rfl (.tmp 37) (.tmp 39) 22 27 (.agg #[(.int .i64 0), (.int .i64 0), (.int .i64 0), (.int .i64 0), (.int .i64 0), (.string ⟨#[]⟩)]) 56 rfl Tryd.underlying22 info27 rfl (by decide) (by omega) u4 x4_1 (⟨wrap64 (t284), wrap64 (t296), wrap64 (t293), wrap64 (t287), wrap64 (t290), t300⟩ : S27) [.int .i64 (wrap64 (t284)), .int .i64 (wrap64 (t296)), .int .i64 (wrap64 (t293)), .int .i64 (wrap64 (t287)), .int .i64 (wrap64 (t290)), .string t300] (fun k_ => k_ ≠ gb299) (fun _ => False) rfl (by first | (go_simp; done) | (go_simp; rfl)) ?aP (fun _ hk => hk.elim) ?aF ?aO (Below.refl _ _) ?aS ?aL ?_; (case aP => exact k27_mkM _ _ _ (⟨wrap64 (t284), wrap64 (t296), wrap64 (t293), wrap64 (t287), wrap64 (t290), t300⟩ : S27)); (case aF => exact (fun k_ hk => Kd.freshB (g := gb299) (o := .cells #[.int .i64 (wrap64 (t284)), .int .i64 (wrap64 (t296)), .int .i64 (wrap64 (t293)), .int .i64 (wrap64 (t287)), .int .i64 (wrap64 (t290)), .string t300] 27 (0, 0)) (by refine bu ?_; refine blk_put (cs := #[.int .i64 (wrap64 (t284)), .int .i64 (wrap64 (t296)), .int .i64 (wrap64 (t293)), .int .i64 (wrap64 (t287)), .int .i64 (wrap64 (t290)), .string ⟨#[]⟩]) ?_ 5 _ rfl; refine bu ?_; exact BK299.out) k_ hk)); (case aO => exact (ru (Kd.R_mono (rf gb299 5 (Kd.R_mono HO_4.out (fun k_ hk => (⟨hk, by first | exact hk.2 | exact hk.2.2.2 | exact hk.2.2 | exact hk.2.1 | exact hk.2.2.1⟩ : _ ∧ k_ ≠ gb299))) (.string t300)) (fun _ hk => hk.1.2)))); (case aS => exact (keep_size (w := w) (g := g) (row := none) (ku HK.out))); (case aL => have := LMc15.out; omega); intro v304 w26 ho hb hg hat; rw [← Ny303.out] at ho; have _ := am (IsS74.grown (show IsS74 w0 _ g t301 t302 from IsS74.u HI0.out) hg (IsS74.own_ne HI0.out HO_4.out (by decide))); have _ := am (blk_grown (g := gb299) (o := .cells #[.int .i64 (wrap64 (t284)), .int .i64 (wrap64 (t296)), .int .i64 (wrap64 (t293)), .int .i64 (wrap64 (t287)), .int .i64 (wrap64 (t290)), .string t300] 27 (0, 0)) (by refine bu ?_; refine blk_put (cs := #[.int .i64 (wrap64 (t284)), .int .i64 (wrap64 (t296)), .int .i64 (wrap64 (t293)), .int .i64 (wrap64 (t287)), .int .i64 (wrap64 (t290)), .string ⟨#[]⟩]) ?_ 5 _ rfl; refine bu ?_; exact BK299.out) hg (Kd.R_away HO_4.out (fun _ hk => hk.2))); have _ := am (below_weaken (beg (IsS74.ge HI0.out) HB.out) HL.out hb); have _ := am (KeepBut.trans (ku HK.out) (KeepBut.of_grown hg g) (Kd.R_base2 HO_4.out)); have _ := am (ho); clear HI0 BK299 HB HK HO_4; rename_i HI0 BK299 HB HK HO305; clear ho hb hg hat))
       go_roundg kj3
       case measure => have := HK1.out; have := HJ3.out; omega
       case rel => exact ⟨(y303), (IntKind.u64.wrap (x5_1 - 1)), (t301), (t302), ap3, H', ⟨by have := HK1.out; have := HJ3.out; omega⟩, ⟨ru (Kd.R_mono HO305.out (fun _ hk => trivial))⟩, ⟨IsS74.u HI0.out⟩, ⟨ku HK.out⟩, ⟨beg (IsS74.ge HI0.out) HB.out⟩⟩
      ·rw [if_neg c15] at H
       exact absurd H (by simp)
     ·replace c8 := Bool.eq_false_iff.mpr c8
      subst c8
      have H1 : ((packet_Reader_Bad.f x1000_3 x1001_3).bind fun bt306 => (if bt306.1 = true then (some (([] : List (S27)), false, bt306.2.1, bt306.2.2)) else ((outbox_Right.f kj3 x4_1).bind fun t309 => (if t309 = true then (some (x4_1, true, bt306.2.1, bt306.2.2)) else (some (([] : List (S27)), false, bt306.2.1, bt306.2.2)))))) = some (r1, r2, r3, r4) := by rw [if_neg (show ¬ (false = true) by decide)] at H; exact H
      clear H; have H := H1; clear H1; replace H := obm H; obtain ⟨⟨t306, t307, t308⟩, A270, H⟩ := H; replace H : (if t306 = true then (some (([] : List (S27)), false, t307, t308)) else ((outbox_Right.f kj3 x4_1).bind fun t309 => (if t309 = true then (some (x4_1, true, t307, t308)) else (some (([] : List (S27)), false, t307, t308))))) = some (r1, r2, r3, r4) := H; have A27 := am A270; clear A270
      by_cases c28 : t306 = true
      ·subst c28
       have H1 : (some (([] : List (S27)), false, t307, t308)) = some (r1, r2, r3, r4) := by rw [if_pos rfl] at H; exact H
       clear H; have H := H1; clear H1; simp only [Option.some.injEq, Prod.mk.injEq] at H; obtain ⟨rfl, rfl, rfl, rfl⟩ := H
       go_wp2_with (first | ((with_reducible refine gate_callee (f := 38) rfl ?_); refine goesL_ (some 42) rfl rfl Tryd.func38 (by kernel_rfl) rfl #[.pointer (some ⟨g, 0, none⟩)] rfl ap1 ?_; (with_reducible refine (packet_Reader_Bad.calls g x1000_3 x1001_3 true t307 t308 w0 _ ?side1 ?side2 A27.out).mono ?_); (case side1 => exact IsS74.u HI0.out); (case side2 => exact beg (IsS74.ge HI0.out) HB.out); rintro e w29 ⟨rfl, hi, hb, hk⟩; refine ⟨_, rfl, ?_⟩; have _ := am (Kd.R_mono (Kd.R_keep (IsS74.apart (show IsS74 w0 _ g x1000_3 x1001_3 from IsS74.u HI0.out) (ru HO_4.out) (by decide)) hk (fun _ h => h.2)) (fun _ h => h.1)); have _ := am (KeepBut.trans (ku HK.out) hk (.inl rfl)); have _ := am (hb); have _ := am (hi); clear HO_4 HK HB HI0; rename_i HO_4 HK HB HI0; (try clear hb hk hi)))
       go_ret2
       exact ⟨_, ap4, by first | exact Kd.R_nil _ _ _ _ _ | exact Kd.N_nil _ _ _ _ _ | exact Kd.V_nil _ _ _ _ _ | exact Kd.Q_nil _ _ _ _ _ | exact Kd.S_nil _ _ _ _ _, IsS74.u HI0.out, beg (IsS74.ge HI0.out) HB.out, ku HK.out⟩
      ·replace c28 := Bool.eq_false_iff.mpr c28
       subst c28
       have H1 : ((outbox_Right.f kj3 x4_1).bind fun t309 => (if t309 = true then (some (x4_1, true, t307, t308)) else (some (([] : List (S27)), false, t307, t308)))) = some (r1, r2, r3, r4) := by rw [if_neg (show ¬ (false = true) by decide)] at H; exact H
       clear H; have H := H1; clear H1; replace H := obm H; obtain ⟨t309, A300, H⟩ := H; replace H : (if t309 = true then (some (x4_1, true, t307, t308)) else (some (([] : List (S27)), false, t307, t308))) = some (r1, r2, r3, r4) := H; have A30 := am A300; clear A300
       by_cases c31 : t309 = true
       ·subst c31
        have H1 : (some (x4_1, true, t307, t308)) = some (r1, r2, r3, r4) := by rw [if_pos rfl] at H; exact H
        clear H; have H := H1; clear H1; simp only [Option.some.injEq, Prod.mk.injEq] at H; obtain ⟨rfl, rfl, rfl, rfl⟩ := H
        go_wp2_with (first | ((with_reducible refine gate_callee (f := 38) rfl ?_); refine goesL_ (some 42) rfl rfl Tryd.func38 (by kernel_rfl) rfl #[.pointer (some ⟨g, 0, none⟩)] rfl ap1 ?_; (with_reducible refine (packet_Reader_Bad.calls g x1000_3 x1001_3 false t307 t308 w0 _ ?side1 ?side2 A27.out).mono ?_); (case side1 => exact IsS74.u HI0.out); (case side2 => exact beg (IsS74.ge HI0.out) HB.out); rintro e w32 ⟨rfl, hi, hb, hk⟩; refine ⟨_, rfl, ?_⟩; have _ := am (Kd.R_mono (Kd.R_keep (IsS74.apart (show IsS74 w0 _ g x1000_3 x1001_3 from IsS74.u HI0.out) (ru HO_4.out) (by decide)) hk (fun _ h => h.2)) (fun _ h => h.1)); have _ := am (KeepBut.trans (ku HK.out) hk (.inl rfl)); have _ := am (hb); have _ := am (hi); clear HO_4 HK HB HI0; rename_i HO_4 HK HB HI0; (try clear hb hk hi); obtain ⟨Ao33, co33, eo33⟩ := Kd.R_slice HO_4.out; subst eo33) | (go_at_call 16; (with_reducible refine (outbox_Right.calls kj3 _ _ x4_1 true _ ?side1 ?side2 ?side3 A30.out).mono ?_); (case side1 => exact cu (Kd.R_reads' HO_4.out).2.2); (case side2 => exact (Kd.R_reads' HO_4.out).2.1); (case side3 => first | (with_reducible exact HT.out) | exact Tabs.below HT.out (beg (IsS74.ge HI0.out) HB.out)); rintro e w34 ⟨rfl, hb⟩; have _ := am (Kd.R_below (ru HO_4.out) hb); have _ := am (IsS74.below (IsS74.u HI0.out) hb); have _ := am (KeepBut.trans (ku HK.out) (KeepBut.of_below hb g none) (.inl rfl)); have _ := am (below_step (beg (IsS74.ge HI0.out) HB.out) hb); clear HO_4 HI0 HK HB; rename_i HO_4 HI0 HK HB; (try clear hb)))
        go_ret2
        exact ⟨_, ap4, ru HO_4.out, IsS74.u HI0.out, beg (IsS74.ge HI0.out) HB.out, ku HK.out⟩
       ·replace c31 := Bool.eq_false_iff.mpr c31
        subst c31
        have H1 : (some (([] : List (S27)), false, t307, t308)) = some (r1, r2, r3, r4) := by rw [if_neg (show ¬ (false = true) by decide)] at H; exact H
        clear H; have H := H1; clear H1; simp only [Option.some.injEq, Prod.mk.injEq] at H; obtain ⟨rfl, rfl, rfl, rfl⟩ := H
        go_wp2_with (first | ((with_reducible refine gate_callee (f := 38) rfl ?_); refine goesL_ (some 42) rfl rfl Tryd.func38 (by kernel_rfl) rfl #[.pointer (some ⟨g, 0, none⟩)] rfl ap1 ?_; (with_reducible refine (packet_Reader_Bad.calls g x1000_3 x1001_3 false t307 t308 w0 _ ?side1 ?side2 A27.out).mono ?_); (case side1 => exact IsS74.u HI0.out); (case side2 => exact beg (IsS74.ge HI0.out) HB.out); rintro e w35 ⟨rfl, hi, hb, hk⟩; refine ⟨_, rfl, ?_⟩; have _ := am (Kd.R_mono (Kd.R_keep (IsS74.apart (show IsS74 w0 _ g x1000_3 x1001_3 from IsS74.u HI0.out) (ru HO_4.out) (by decide)) hk (fun _ h => h.2)) (fun _ h => h.1)); have _ := am (KeepBut.trans (ku HK.out) hk (.inl rfl)); have _ := am (hb); have _ := am (hi); clear HO_4 HK HB HI0; rename_i HO_4 HK HB HI0; (try clear hb hk hi); obtain ⟨Ao36, co36, eo36⟩ := Kd.R_slice HO_4.out; subst eo36) | (go_at_call 16; (with_reducible refine (outbox_Right.calls kj3 _ _ x4_1 false _ ?side1 ?side2 ?side3 A30.out).mono ?_); (case side1 => exact cu (Kd.R_reads' HO_4.out).2.2); (case side2 => exact (Kd.R_reads' HO_4.out).2.1); (case side3 => first | (with_reducible exact HT.out) | exact Tabs.below HT.out (beg (IsS74.ge HI0.out) HB.out)); rintro e w37 ⟨rfl, hb⟩; have _ := am (Kd.R_below (ru HO_4.out) hb); have _ := am (IsS74.below (IsS74.u HI0.out) hb); have _ := am (KeepBut.trans (ku HK.out) (KeepBut.of_below hb g none) (.inl rfl)); have _ := am (below_step (beg (IsS74.ge HI0.out) HB.out) hb); clear HO_4 HI0 HK HB; rename_i HO_4 HI0 HK HB; (try clear hb)))
        go_ret2
        exact ⟨_, ap4, by first | exact Kd.R_nil _ _ _ _ _ | exact Kd.N_nil _ _ _ _ _ | exact Kd.V_nil _ _ _ _ _ | exact Kd.Q_nil _ _ _ _ _ | exact Kd.S_nil _ _ _ _ _, IsS74.u HI0.out, beg (IsS74.ge HI0.out) HB.out, ku HK.out⟩
theorem outbox_Take.callsJ (k : Nat) (g : Nat) (s0_0 : List Int) (s0_1 : Bool) (r1 : List (S27)) (r2 : Bool) (r3 : List Int) (r4 : Bool) (w0 w : World) (hI : JS74 w0 w g s0_0 s0_1) (hB : Below w0.heap.size w0 w) (hT : Tabs w0) (h : outbox_Take.f k s0_0 s0_1 = some (r1, r2, r3, r4)) :
  Calls Tryd.prog 24 #[.pointer (some ⟨g, 0, none⟩)] w fun e w' => ∃ v0_ : Value, e = .returned (.tuple #[v0_, .bool r2]) ∧ Kd.R k27 27 w' w.heap.size (fun _ => True) v0_ r1 ∧ JS74 w0 w' g r3 r4 ∧ Below w0.heap.size w0 w' ∧ KeepBut w w' g none := by
 obtain ⟨wS, hIs, hBs, hle⟩ := hI
 exact (outbox_Take.calls k g s0_0 s0_1 r1 r2 r3 r4 wS w hIs hBs (Tabs.below hT hle) h).mono fun e w' hp_ => by
  obtain ⟨z0_, p0_, p1_, hi_, hb_, hk_⟩ := hp_; exact ⟨z0_, p0_, p1_, ⟨wS, hi_, hb_, hle⟩, below_keepJ74 hB hBs hb_ hk_ (Nat.le_trans hle.size (IsS74.ge hIs)), hk_⟩
end Go.Proofs.YtnacmehhmheooaaDoor.PAll
