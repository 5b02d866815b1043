
import Derived.Test.YtalcopjlofbfaaaDoorQLinesTellPAllx0
import Derived.Test.YtalcopjlofbfaaaDoorQLinesTellPAllx2
import Derived.Test.YtalcopjlofbfaaaDoorQLinesTellPAllx3
namespace Go.Proofs.YtalcopjlofbfaaaDoorW.PrintMore
end Go.Proofs.YtalcopjlofbfaaaDoorW.PrintMore
namespace Go.Proofs.YtalcopjlofbfaaaDoor.PAll
open Go.RowKit Go.Proofs.YtalcopjlofbfaaaDoorW.PrintWords Go.Proofs.YtalcopjlofbfaaaDoorW.PrintLast Go.Proofs.YtalcopjlofbfaaaDoorW.PrintMore
set_option linter.unusedVariables false
set_option linter.unusedSimpArgs false
mutual
def packhorseref04_Right.j0 : Nat → List (S37) → Bool → Option (Bool)
 | 0, _, _ => none
 | k + 1, x0, x12 => if x12 = true then (some false) else (packhorseref04_Right.l0 k x0 x0 (x0.length : Int) 0)
def packhorseref04_Right.l0 : Nat → List (S37) → List (S37) → Int → Int → Option (Bool)
 | 0, _, _, _, _ => none
 | k + 1, x0, x13, x14, x15 => if x15 < x14 then (if 0 ≤ x15 then (if x15 < (x13.length : Int) then ((packhorseref01_Right.f k ((rd_T37 x13 x15).f0)).bind fun t186 => (if t186 = true then (if ((rd_T37 x13 x15).f1) < 1 then (packhorseref04_Right.j2 k x0 x15 x13 x14 x15 true ((rd_T37 x13 x15).f0) ((rd_T37 x13 x15).f1) ((rd_T37 x13 x15).f2)) else (if ((rd_T37 x13 x15).f1) > 1000 then (packhorseref04_Right.j2 k x0 x15 x13 x14 x15 true ((rd_T37 x13 x15).f0) ((rd_T37 x13 x15).f1) ((rd_T37 x13 x15).f2)) else (if ((rd_T37 x13 x15).f2) < 0 then (packhorseref04_Right.j2 k x0 x15 x13 x14 x15 true ((rd_T37 x13 x15).f0) ((rd_T37 x13 x15).f1) ((rd_T37 x13 x15).f2)) else (packhorseref04_Right.j2 k x0 x15 x13 x14 x15 (decide (((rd_T37 x13 x15).f2) > 100000)) ((rd_T37 x13 x15).f0) ((rd_T37 x13 x15).f1) ((rd_T37 x13 x15).f2))))) else (packhorseref04_Right.j2 k x0 x15 x13 x14 x15 true ((rd_T37 x13 x15).f0) ((rd_T37 x13 x15).f1) ((rd_T37 x13 x15).f2)))) else (none)) else (none)) else (some true)
def packhorseref04_Right.j2 : Nat → List (S37) → Int → List (S37) → Int → Int → Bool → ByteArray → Int → Int → Option (Bool)
 | 0, _, _, _, _, _, _, _, _, _ => none
 | k + 1, x0, x3, x13, x14, x15, x43, X0, X1, X2 => if x43 = true then (some false) else (if x3 > 0 then (if 0 ≤ (wrap64 (x3 - 1)) then (if (wrap64 (x3 - 1)) < (x0.length : Int) then ((packhorseref01_Compare.f k ((rd_T37 x0 (wrap64 (x3 - 1))).f0) X0).bind fun t188 => (if t188 = (-1) then (packhorseref04_Right.l0 k x0 x13 x14 (wrap64 (x15 + 1))) else (some false))) else (none)) else (none)) else (packhorseref04_Right.l0 k x0 x13 x14 (wrap64 (x15 + 1))))
end
def packhorseref04_Right.f (k : Nat) (l0 : List (S37)) : Option (Bool) := if (l0.length : Int) < 1 then (packhorseref04_Right.j0 k l0 true) else (packhorseref04_Right.j0 k l0 (decide ((l0.length : Int) > 8)))
set_option maxHeartbeats 8000000 in
set_option maxRecDepth 100000 in
theorem packhorseref04_Right.calls (k : Nat) (A0 : Option Addr) (c0 : Nat) (l0 : List (S37)) (r : Bool) (w : World) (hr0 : Kd.C k37 w A0 l0.length l0) (hc0 : l0.length ≤ c0) (h : packhorseref04_Right.f k l0 = some r) :
  Calls Tryd.prog 15 #[.slice A0 l0.length c0] w fun e w' => e = .returned (.bool r) ∧ Below w.heap.size w w' := by
 have hu37 := Tryd.underlying37; have HR0 := am hr0; have HC0 := am hc0; clear hr0 hc0; have HB := am (Below.refl w.heap.size w); have H : (if (l0.length : Int) < 1 then (packhorseref04_Right.j0 k l0 true) else (packhorseref04_Right.j0 k l0 (decide ((l0.length : Int) > 8)))) = some r := h; clear h; have HC2 := am H; clear H
 go_enter Tryd.func15, Tryd.ntmps15
 go_upto_region 1 with (fail)
 repeat (go_quiet (fail); go_upto_region 1 with (fail))
 go_cut [12] (fun v12 wc => ∃ (kq : Nat) (x12_1 : Bool), v12 = .bool x12_1 ∧ Aside0 (packhorseref04_Right.j0 kq l0 x12_1 = some r) ∧ Aside0 (kq ≤ k) ∧ Aside0 (Below w.heap.size w wc))
 case first =>
  have H := HC2.out; clear HC2
  by_cases c3 : (l0.length : Int) < 1
  ·rw [if_pos c3] at H
   have c3b0 : decide ((l0.length : Int) < 1) = true := decide_eq_true c3; have c3b1 : decide (l0.length < 1) = true := decide_eq_true (by omega); clear c3
   (first | rw [c3b0] | (simp only [i64_w, i32_w]; rw [c3b0]) | skip)
   have H' := am H; clear H
   go_wp2
   repeat (go_quiet (fail); try go_wp2)
   go_meet
   case rel => exact ⟨_, (true), ap3, H', ⟨by first | omega | exact Nat.le_refl _⟩, ⟨beu HB.out⟩⟩
  ·rw [if_neg c3] at H
   have c3b0 : decide ((l0.length : Int) < 1) = false := decide_eq_false c3; have c3b1 : decide (l0.length < 1) = false := decide_eq_false (by omega); clear c3
   (first | rw [c3b0] | (simp only [i64_w, i32_w]; rw [c3b0]) | skip)
   have H' := am H; clear H
   go_wp2
   repeat (go_quiet (fail); try go_wp2)
   go_meet
   case rel => exact ⟨_, (decide ((l0.length : Int) > 8)), ap3, H', ⟨by first | omega | exact Nat.le_refl _⟩, ⟨beu HB.out⟩⟩
 case rest =>
  clear HC2; (try clear c1); (try clear p2); (try clear c3); (try clear c3b0); (try clear c3b1); obtain ⟨kq, x12_1, rfl, HA, HJ1, HB⟩ := hcut
  cases kq with
  | zero => exact absurd HA.out (by simp [packhorseref04_Right.j0])
  | succ kj1 =>
   have H := HA.out; clear HA; simp only [packhorseref04_Right.j0] at H
   by_cases c4 : x12_1 = true
   ·subst c4
    have H1 : (some false) = some r := by rw [if_pos rfl] at H; exact H
    clear H; have H := H1; clear H1; obtain rfl := Option.some.inj H; simp only [Option.some.injEq, Prod.mk.injEq] at H; obtain ⟨rfl⟩ := H
    go_wp2
    repeat (go_quiet (fail); try go_wp2)
    go_ret
    exact ⟨ap4, beu HB.out⟩
   ·replace c4 := Bool.eq_false_iff.mpr c4
    subst c4
    have H1 : (packhorseref04_Right.l0 kj1 l0 l0 (l0.length : Int) 0) = some r := by rw [if_neg (show ¬ (false = true) by decide)] at H; exact H
    clear H; have H := H1; clear H1; have H' := am H; clear H
    go_wp2
    repeat (go_quiet (fail); try go_wp2)
    go_loopg [15] kj1 (fun kq v15 w' => ∃ (x15_2 : Int), v15 = .int .i64 x15_2 ∧ Aside0 (packhorseref04_Right.l0 kq l0 l0 (l0.length : Int) x15_2 = some r) ∧ Aside0 (kq ≤ kj1) ∧ Aside0 (Below w.heap.size w w'))
    case atStart => exact ⟨(0), ap3, H', ⟨Nat.le_refl _⟩, ⟨beu HB.out⟩⟩
    case round =>
     clear H'; (try clear c1); (try clear p2); (try clear c3); (try clear c3b0); (try clear c3b1); (try clear c4); (try clear p2); obtain ⟨x15_2, rfl, HA, HK2, HB⟩ := hrel
     cases gk with
     | zero => exact absurd HA.out (by simp [packhorseref04_Right.l0])
     | succ k2 =>
      have H := HA.out; clear HA; simp only [packhorseref04_Right.l0] at H
      by_cases c5 : x15_2 < (l0.length : Int)
      ·rw [if_pos c5] at H
       have c5b0 : decide (x15_2 < (l0.length : Int)) = true := decide_eq_true c5; clear c5
       by_cases c6 : 0 ≤ x15_2
       ·rw [if_pos c6] at H
        have c6b0 : decide (0 ≤ x15_2) = true := decide_eq_true c6; clear c6
        by_cases c7 : x15_2 < (l0.length : Int)
        ·rw [if_pos c7] at H
         have c7b0 : decide (x15_2 < (l0.length : Int)) = true := decide_eq_true c7; clear c7; have HC8 := am H; clear H; have p184 : 0 ≤ (x15_2 : Int) := of_decide_eq_true ap2; have q184 : x15_2 < (l0.length : Int) := of_decide_eq_true ap2; obtain ⟨ad184, e184, hx184_0, hx184_1, hx184_2⟩ := at_T37 HR0.out x15_2 p184 q184
         cases e184
         replace hx184_0 := (HB.out.cell (World.block_lt_of_cell? w _ hx184_0)).trans hx184_0; replace hx184_1 := (HB.out.cell (World.block_lt_of_cell? w _ hx184_1)).trans hx184_1; replace hx184_2 := (HB.out.cell (World.block_lt_of_cell? w _ hx184_2)).trans hx184_2; replace p184 := eq_true p184; replace q184 := eq_true q184
         go_upto_region 6 with (first | ((with_reducible refine gate_dst (N := 4) rfl ?_); (try (refine gate_guard (by rfl) ?_; dsimp only)); refine box_event ?hg (N := 4) ?hd (cs := #[.string ⟨#[]⟩, .int .i64 0, .int .i64 0]) (t := 37) ?hr ?_; (case hd => rfl); (case hg => rfl); (case hr => first | (go_simp; done) | (go_simp; rfl)); intro gb185 hg w9 hbox hb; have _ := am (below_step (beu HB.out) hb); have _ := am (hbox); have _ := am ((by rw [hg]; exact (below_size (beu HB.out)) : w.heap.size ≤ gb185)); have _ := am ((by rw [hg]; exact (below_size (beu HB.out)) : w.heap.size ≤ gb185)); clear HB; rename_i HB BK185 GW185 GE185; clear hb hbox hg; obtain ⟨hcz10_0, hcz10_1, hcz10_2⟩ := cells3 BK185.out; obtain ⟨hfz10_0, hfz10_1, hfz10_2⟩ := frozens3 BK185.out))
         repeat (go_quiet (first | ((with_reducible refine gate_dst (N := 4) rfl ?_); (try (refine gate_guard (by rfl) ?_; dsimp only)); refine box_event ?hg (N := 4) ?hd (cs := #[.string ⟨#[]⟩, .int .i64 0, .int .i64 0]) (t := 37) ?hr ?_; (case hd => rfl); (case hg => rfl); (case hr => first | (go_simp; done) | (go_simp; rfl)); intro gb185 hg w9 hbox hb; have _ := am (below_step (beu HB.out) hb); have _ := am (hbox); have _ := am ((by rw [hg]; exact (below_size (beu HB.out)) : w.heap.size ≤ gb185)); have _ := am ((by rw [hg]; exact (below_size (beu HB.out)) : w.heap.size ≤ gb185)); clear HB; rename_i HB BK185 GW185 GE185; clear hb hbox hg; obtain ⟨hcz10_0, hcz10_1, hcz10_2⟩ := cells3 BK185.out; obtain ⟨hfz10_0, hfz10_1, hfz10_2⟩ := frozens3 BK185.out)); go_upto_region 6 with (first | ((with_reducible refine gate_dst (N := 4) rfl ?_); (try (refine gate_guard (by rfl) ?_; dsimp only)); refine box_event ?hg (N := 4) ?hd (cs := #[.string ⟨#[]⟩, .int .i64 0, .int .i64 0]) (t := 37) ?hr ?_; (case hd => rfl); (case hg => rfl); (case hr => first | (go_simp; done) | (go_simp; rfl)); intro gb185 hg w9 hbox hb; have _ := am (below_step (beu HB.out) hb); have _ := am (hbox); have _ := am ((by rw [hg]; exact (below_size (beu HB.out)) : w.heap.size ≤ gb185)); have _ := am ((by rw [hg]; exact (below_size (beu HB.out)) : w.heap.size ≤ gb185)); clear HB; rename_i HB BK185 GW185 GE185; clear hb hbox hg; obtain ⟨hcz10_0, hcz10_1, hcz10_2⟩ := cells3 BK185.out; obtain ⟨hfz10_0, hfz10_1, hfz10_2⟩ := frozens3 BK185.out)))
         (try simp only [Act.put, sA, sB, sC])
         go_cut [43] (fun v43 wc => ∃ (kq : Nat) (x43_7 : Bool), v43 = .bool x43_7 ∧ Aside0 (packhorseref04_Right.j2 kq l0 x15_2 l0 (l0.length : Int) x15_2 x43_7 ((rd_T37 l0 x15_2).f0) ((rd_T37 l0 x15_2).f1) ((rd_T37 l0 x15_2).f2) = some r) ∧ Aside0 (kq ≤ k2) ∧ Aside0 (wc.heap[gb185]? = some (.cells #[.string ((rd_T37 l0 x15_2).f0), .int .i64 ((rd_T37 l0 x15_2).f1), .int .i64 ((rd_T37 l0 x15_2).f2)] 37 (0, 0))) ∧ Aside0 (Below w.heap.size w wc))
         case first =>
          have H := HC8.out; clear HC8; replace H := obm H; obtain ⟨t186, A110, H⟩ := H; replace H : (if t186 = true then (if ((rd_T37 l0 x15_2).f1) < 1 then (packhorseref04_Right.j2 k2 l0 x15_2 l0 (l0.length : Int) x15_2 true ((rd_T37 l0 x15_2).f0) ((rd_T37 l0 x15_2).f1) ((rd_T37 l0 x15_2).f2)) else (if ((rd_T37 l0 x15_2).f1) > 1000 then (packhorseref04_Right.j2 k2 l0 x15_2 l0 (l0.length : Int) x15_2 true ((rd_T37 l0 x15_2).f0) ((rd_T37 l0 x15_2).f1) ((rd_T37 l0 x15_2).f2)) else (if ((rd_T37 l0 x15_2).f2) < 0 then (packhorseref04_Right.j2 k2 l0 x15_2 l0 (l0.length : Int) x15_2 true ((rd_T37 l0 x15_2).f0) ((rd_T37 l0 x15_2).f1) ((rd_T37 l0 x15_2).f2)) else (packhorseref04_Right.j2 k2 l0 x15_2 l0 (l0.length : Int) x15_2 (decide (((rd_T37 l0 x15_2).f2) > 100000)) ((rd_T37 l0 x15_2).f0) ((rd_T37 l0 x15_2).f1) ((rd_T37 l0 x15_2).f2))))) else (packhorseref04_Right.j2 k2 l0 x15_2 l0 (l0.length : Int) x15_2 true ((rd_T37 l0 x15_2).f0) ((rd_T37 l0 x15_2).f1) ((rd_T37 l0 x15_2).f2))) = some r := H; have A11 := am A110; clear A110
          by_cases c12 : t186 = true
          ·subst c12
           have H1 : (if ((rd_T37 l0 x15_2).f1) < 1 then (packhorseref04_Right.j2 k2 l0 x15_2 l0 (l0.length : Int) x15_2 true ((rd_T37 l0 x15_2).f0) ((rd_T37 l0 x15_2).f1) ((rd_T37 l0 x15_2).f2)) else (if ((rd_T37 l0 x15_2).f1) > 1000 then (packhorseref04_Right.j2 k2 l0 x15_2 l0 (l0.length : Int) x15_2 true ((rd_T37 l0 x15_2).f0) ((rd_T37 l0 x15_2).f1) ((rd_T37 l0 x15_2).f2)) else (if ((rd_T37 l0 x15_2).f2) < 0 then (packhorseref04_Right.j2 k2 l0 x15_2 l0 (l0.length : Int) x15_2 true ((rd_T37 l0 x15_2).f0) ((rd_T37 l0 x15_2).f1) ((rd_T37 l0 x15_2).f2)) else (packhorseref04_Right.j2 k2 l0 x15_2 l0 (l0.length : Int) x15_2 (decide (((rd_T37 l0 x15_2).f2) > 100000)) ((rd_T37 l0 x15_2).f0) ((rd_T37 l0 x15_2).f1) ((rd_T37 l0 x15_2).f2))))) = some r := by rw [if_pos rfl] at H; exact H
           clear H; have H := H1; clear H1
           by_cases c13 : ((rd_T37 l0 x15_2).f1) < 1
           ·rw [if_pos c13] at H
            have c13b0 : decide (((rd_T37 l0 x15_2).f1) < 1) = true := decide_eq_true c13; clear c13
            (first | rw [c13b0] | (simp only [i64_w, i32_w]; rw [c13b0]) | skip)
            have H' := am H; clear H; obtain ⟨hcz14_0, hcz14_1, hcz14_2⟩ := cells3 BK185.out; obtain ⟨hfz14_0, hfz14_1, hfz14_2⟩ := frozens3 BK185.out
            go_wp2_with (first | (go_at_call 29; (with_reducible refine (packhorseref01_Right.calls k2 ((rd_T37 l0 x15_2).f0) true _ A11.out).mono ?_); rintro e w15 ⟨rfl, hb⟩; have _ := am (blk_below (g := gb185) (o := .cells #[.string ((rd_T37 l0 x15_2).f0), .int .i64 ((rd_T37 l0 x15_2).f1), .int .i64 ((rd_T37 l0 x15_2).f2)] 37 (0, 0)) (by refine bu ?_; refine blk_put (cs := #[.string ((rd_T37 l0 x15_2).f0), .int .i64 ((rd_T37 l0 x15_2).f1), .int .i64 0]) ?_ 2 _ rfl; refine bu ?_; refine blk_put (cs := #[.string ((rd_T37 l0 x15_2).f0), .int .i64 0, .int .i64 0]) ?_ 1 _ rfl; refine bu ?_; refine blk_put (cs := #[.string ⟨#[]⟩, .int .i64 0, .int .i64 0]) ?_ 0 _ rfl; refine bu ?_; exact BK185.out) hb); have _ := am (below_step (beu HB.out) hb); clear BK185 HB; rename_i BK185 HB; (try clear hb); obtain ⟨hcz16_0, hcz16_1, hcz16_2⟩ := cells3 BK185.out; obtain ⟨hfz16_0, hfz16_1, hfz16_2⟩ := frozens3 BK185.out))
            repeat (go_quiet (first | (go_at_call 29; (with_reducible refine (packhorseref01_Right.calls k2 ((rd_T37 l0 x15_2).f0) true _ A11.out).mono ?_); rintro e w15 ⟨rfl, hb⟩; have _ := am (blk_below (g := gb185) (o := .cells #[.string ((rd_T37 l0 x15_2).f0), .int .i64 ((rd_T37 l0 x15_2).f1), .int .i64 ((rd_T37 l0 x15_2).f2)] 37 (0, 0)) (by refine bu ?_; refine blk_put (cs := #[.string ((rd_T37 l0 x15_2).f0), .int .i64 ((rd_T37 l0 x15_2).f1), .int .i64 0]) ?_ 2 _ rfl; refine bu ?_; refine blk_put (cs := #[.string ((rd_T37 l0 x15_2).f0), .int .i64 0, .int .i64 0]) ?_ 1 _ rfl; refine bu ?_; refine blk_put (cs := #[.string ⟨#[]⟩, .int .i64 0, .int .i64 0]) ?_ 0 _ rfl; refine bu ?_; exact BK185.out) hb); have _ := am (below_step (beu HB.out) hb); clear BK185 HB; rename_i BK185 HB; (try clear hb); obtain ⟨hcz16_0, hcz16_1, hcz16_2⟩ := cells3 BK185.out; obtain ⟨hfz16_0, hfz16_1, hfz16_2⟩ := frozens3 BK185.out)); try go_wp2_with (first | (go_at_call 29; (with_reducible refine (packhorseref01_Right.calls k2 ((rd_T37 l0 x15_2).f0) true _ A11.out).mono ?_); rintro e w15 ⟨rfl, hb⟩; have _ := am (blk_below (g := gb185) (o := .cells #[.string ((rd_T37 l0 x15_2).f0), .int .i64 ((rd_T37 l0 x15_2).f1), .int .i64 ((rd_T37 l0 x15_2).f2)] 37 (0, 0)) (by refine bu ?_; refine blk_put (cs := #[.string ((rd_T37 l0 x15_2).f0), .int .i64 ((rd_T37 l0 x15_2).f1), .int .i64 0]) ?_ 2 _ rfl; refine bu ?_; refine blk_put (cs := #[.string ((rd_T37 l0 x15_2).f0), .int .i64 0, .int .i64 0]) ?_ 1 _ rfl; refine bu ?_; refine blk_put (cs := #[.string ⟨#[]⟩, .int .i64 0, .int .i64 0]) ?_ 0 _ rfl; refine bu ?_; exact BK185.out) hb); have _ := am (below_step (beu HB.out) hb); clear BK185 HB; rename_i BK185 HB; (try clear hb); obtain ⟨hcz16_0, hcz16_1, hcz16_2⟩ := cells3 BK185.out; obtain ⟨hfz16_0, hfz16_1, hfz16_2⟩ := frozens3 BK185.out)))
            go_meet
            case rel => exact ⟨_, (true), ap3, H', ⟨by have := HJ1.out; have := HK2.out; first | omega | exact Nat.le_refl _⟩, ⟨by refine bu ?_; exact BK185.out⟩, ⟨beu HB.out⟩⟩
           ·rw [if_neg c13] at H
            have c13b0 : decide (((rd_T37 l0 x15_2).f1) < 1) = false := decide_eq_false c13; clear c13
            (first | rw [c13b0] | (simp only [i64_w, i32_w]; rw [c13b0]) | skip)
            by_cases c17 : ((rd_T37 l0 x15_2).f1) > 1000
            ·rw [if_pos c17] at H
             have c17b0 : decide (1000 < ((rd_T37 l0 x15_2).f1)) = true := decide_eq_true c17; clear c17; have H' := am H; clear H; obtain ⟨hcz18_0, hcz18_1, hcz18_2⟩ := cells3 BK185.out; obtain ⟨hfz18_0, hfz18_1, hfz18_2⟩ := frozens3 BK185.out
             go_wp2_with (first | (go_at_call 29; (with_reducible refine (packhorseref01_Right.calls k2 ((rd_T37 l0 x15_2).f0) true _ A11.out).mono ?_); rintro e w19 ⟨rfl, hb⟩; have _ := am (blk_below (g := gb185) (o := .cells #[.string ((rd_T37 l0 x15_2).f0), .int .i64 ((rd_T37 l0 x15_2).f1), .int .i64 ((rd_T37 l0 x15_2).f2)] 37 (0, 0)) (by refine bu ?_; refine blk_put (cs := #[.string ((rd_T37 l0 x15_2).f0), .int .i64 ((rd_T37 l0 x15_2).f1), .int .i64 0]) ?_ 2 _ rfl; refine bu ?_; refine blk_put (cs := #[.string ((rd_T37 l0 x15_2).f0), .int .i64 0, .int .i64 0]) ?_ 1 _ rfl; refine bu ?_; refine blk_put (cs := #[.string ⟨#[]⟩, .int .i64 0, .int .i64 0]) ?_ 0 _ rfl; refine bu ?_; exact BK185.out) hb); have _ := am (below_step (beu HB.out) hb); clear BK185 HB; rename_i BK185 HB; (try clear hb); obtain ⟨hcz20_0, hcz20_1, hcz20_2⟩ := cells3 BK185.out; obtain ⟨hfz20_0, hfz20_1, hfz20_2⟩ := frozens3 BK185.out))
             repeat (go_quiet (first | (go_at_call 29; (with_reducible refine (packhorseref01_Right.calls k2 ((rd_T37 l0 x15_2).f0) true _ A11.out).mono ?_); rintro e w19 ⟨rfl, hb⟩; have _ := am (blk_below (g := gb185) (o := .cells #[.string ((rd_T37 l0 x15_2).f0), .int .i64 ((rd_T37 l0 x15_2).f1), .int .i64 ((rd_T37 l0 x15_2).f2)] 37 (0, 0)) (by refine bu ?_; refine blk_put (cs := #[.string ((rd_T37 l0 x15_2).f0), .int .i64 ((rd_T37 l0 x15_2).f1), .int .i64 0]) ?_ 2 _ rfl; refine bu ?_; refine blk_put (cs := #[.string ((rd_T37 l0 x15_2).f0), .int .i64 0, .int .i64 0]) ?_ 1 _ rfl; refine bu ?_; refine blk_put (cs := #[.string ⟨#[]⟩, .int .i64 0, .int .i64 0]) ?_ 0 _ rfl; refine bu ?_; exact BK185.out) hb); have _ := am (below_step (beu HB.out) hb); clear BK185 HB; rename_i BK185 HB; (try clear hb); obtain ⟨hcz20_0, hcz20_1, hcz20_2⟩ := cells3 BK185.out; obtain ⟨hfz20_0, hfz20_1, hfz20_2⟩ := frozens3 BK185.out)); try go_wp2_with (first | (go_at_call 29; (with_reducible refine (packhorseref01_Right.calls k2 ((rd_T37 l0 x15_2).f0) true _ A11.out).mono ?_); rintro e w19 ⟨rfl, hb⟩; have _ := am (blk_below (g := gb185) (o := .cells #[.string ((rd_T37 l0 x15_2).f0), .int .i64 ((rd_T37 l0 x15_2).f1), .int .i64 ((rd_T37 l0 x15_2).f2)] 37 (0, 0)) (by refine bu ?_; refine blk_put (cs := #[.string ((rd_T37 l0 x15_2).f0), .int .i64 ((rd_T37 l0 x15_2).f1), .int .i64 0]) ?_ 2 _ rfl; refine bu ?_; refine blk_put (cs := #[.string ((rd_T37 l0 x15_2).f0), .int .i64 0, .int .i64 0]) ?_ 1 _ rfl; refine bu ?_; refine blk_put (cs := #[.string ⟨#[]⟩, .int .i64 0, .int .i64 0]) ?_ 0 _ rfl; refine bu ?_; exact BK185.out) hb); have _ := am (below_step (beu HB.out) hb); clear BK185 HB; rename_i BK185 HB; (try clear hb); obtain ⟨hcz20_0, hcz20_1, hcz20_2⟩ := cells3 BK185.out; obtain ⟨hfz20_0, hfz20_1, hfz20_2⟩ := frozens3 BK185.out)))
             go_meet
             case rel => exact ⟨_, (true), ap3, H', ⟨by have := HJ1.out; have := HK2.out; first | omega | exact Nat.le_refl _⟩, ⟨by refine bu ?_; exact BK185.out⟩, ⟨beu HB.out⟩⟩
            ·rw [if_neg c17] at H
             have c17b0 : decide (1000 < ((rd_T37 l0 x15_2).f1)) = false := decide_eq_false c17; clear c17
             by_cases c21 : ((rd_T37 l0 x15_2).f2) < 0
             ·rw [if_pos c21] at H
              have c21b0 : decide (((rd_T37 l0 x15_2).f2) < 0) = true := decide_eq_true c21; clear c21; have H' := am H; clear H; obtain ⟨hcz22_0, hcz22_1, hcz22_2⟩ := cells3 BK185.out; obtain ⟨hfz22_0, hfz22_1, hfz22_2⟩ := frozens3 BK185.out
              go_wp2_with (first | (go_at_call 29; (with_reducible refine (packhorseref01_Right.calls k2 ((rd_T37 l0 x15_2).f0) true _ A11.out).mono ?_); rintro e w23 ⟨rfl, hb⟩; have _ := am (blk_below (g := gb185) (o := .cells #[.string ((rd_T37 l0 x15_2).f0), .int .i64 ((rd_T37 l0 x15_2).f1), .int .i64 ((rd_T37 l0 x15_2).f2)] 37 (0, 0)) (by refine bu ?_; refine blk_put (cs := #[.string ((rd_T37 l0 x15_2).f0), .int .i64 ((rd_T37 l0 x15_2).f1), .int .i64 0]) ?_ 2 _ rfl; refine bu ?_; refine blk_put (cs := #[.string ((rd_T37 l0 x15_2).f0), .int .i64 0, .int .i64 0]) ?_ 1 _ rfl; refine bu ?_; refine blk_put (cs := #[.string ⟨#[]⟩, .int .i64 0, .int .i64 0]) ?_ 0 _ rfl; refine bu ?_; exact BK185.out) hb); have _ := am (below_step (beu HB.out) hb); clear BK185 HB; rename_i BK185 HB; (try clear hb); obtain ⟨hcz24_0, hcz24_1, hcz24_2⟩ := cells3 BK185.out; obtain ⟨hfz24_0, hfz24_1, hfz24_2⟩ := frozens3 BK185.out))
              repeat (go_quiet (first | (go_at_call 29; (with_reducible refine (packhorseref01_Right.calls k2 ((rd_T37 l0 x15_2).f0) true _ A11.out).mono ?_); rintro e w23 ⟨rfl, hb⟩; have _ := am (blk_below (g := gb185) (o := .cells #[.string ((rd_T37 l0 x15_2).f0), .int .i64 ((rd_T37 l0 x15_2).f1), .int .i64 ((rd_T37 l0 x15_2).f2)] 37 (0, 0)) (by refine bu ?_; refine blk_put (cs := #[.string ((rd_T37 l0 x15_2).f0), .int .i64 ((rd_T37 l0 x15_2).f1), .int .i64 0]) ?_ 2 _ rfl; refine bu ?_; refine blk_put (cs := #[.string ((rd_T37 l0 x15_2).f0), .int .i64 0, .int .i64 0]) ?_ 1 _ rfl; refine bu ?_; refine blk_put (cs := #[.string ⟨#[]⟩, .int .i64 0, .int .i64 0]) ?_ 0 _ rfl; refine bu ?_; exact BK185.out) hb); have _ := am (below_step (beu HB.out) hb); clear BK185 HB; rename_i BK185 HB; (try clear hb); obtain ⟨hcz24_0, hcz24_1, hcz24_2⟩ := cells3 BK185.out; obtain ⟨hfz24_0, hfz24_1, hfz24_2⟩ := frozens3 BK185.out)); try go_wp2_with (first | (go_at_call 29; (with_reducible refine (packhorseref01_Right.calls k2 ((rd_T37 l0 x15_2).f0) true _ A11.out).mono ?_); rintro e w23 ⟨rfl, hb⟩; have _ := am (blk_below (g := gb185) (o := .cells #[.string ((rd_T37 l0 x15_2).f0), .int .i64 ((rd_T37 l0 x15_2).f1), .int .i64 ((rd_T37 l0 x15_2).f2)] 37 (0, 0)) (by refine bu ?_; refine blk_put (cs := #[.string ((rd_T37 l0 x15_2).f0), .int .i64 ((rd_T37 l0 x15_2).f1), .int .i64 0]) ?_ 2 _ rfl; refine bu ?_; refine blk_put (cs := #[.string ((rd_T37 l0 x15_2).f0), .int .i64 0, .int .i64 0]) ?_ 1 _ rfl; refine bu ?_; refine blk_put (cs := #[.string ⟨#[]⟩, .int .i64 0, .int .i64 0]) ?_ 0 _ rfl; refine bu ?_; exact BK185.out) hb); have _ := am (below_step (beu HB.out) hb); clear BK185 HB; rename_i BK185 HB; (try clear hb); obtain ⟨hcz24_0, hcz24_1, hcz24_2⟩ := cells3 BK185.out; obtain ⟨hfz24_0, hfz24_1, hfz24_2⟩ := frozens3 BK185.out)))
              go_meet
              case rel => exact ⟨_, (true), ap3, H', ⟨by have := HJ1.out; have := HK2.out; first | omega | exact Nat.le_refl _⟩, ⟨by refine bu ?_; exact BK185.out⟩, ⟨beu HB.out⟩⟩
             ·rw [if_neg c21] at H
              have c21b0 : decide (((rd_T37 l0 x15_2).f2) < 0) = false := decide_eq_false c21; clear c21; have H' := am H; clear H; obtain ⟨hcz25_0, hcz25_1, hcz25_2⟩ := cells3 BK185.out; obtain ⟨hfz25_0, hfz25_1, hfz25_2⟩ := frozens3 BK185.out
              go_wp2_with (first | (go_at_call 29; (with_reducible refine (packhorseref01_Right.calls k2 ((rd_T37 l0 x15_2).f0) true _ A11.out).mono ?_); rintro e w26 ⟨rfl, hb⟩; have _ := am (blk_below (g := gb185) (o := .cells #[.string ((rd_T37 l0 x15_2).f0), .int .i64 ((rd_T37 l0 x15_2).f1), .int .i64 ((rd_T37 l0 x15_2).f2)] 37 (0, 0)) (by refine bu ?_; refine blk_put (cs := #[.string ((rd_T37 l0 x15_2).f0), .int .i64 ((rd_T37 l0 x15_2).f1), .int .i64 0]) ?_ 2 _ rfl; refine bu ?_; refine blk_put (cs := #[.string ((rd_T37 l0 x15_2).f0), .int .i64 0, .int .i64 0]) ?_ 1 _ rfl; refine bu ?_; refine blk_put (cs := #[.string ⟨#[]⟩, .int .i64 0, .int .i64 0]) ?_ 0 _ rfl; refine bu ?_; exact BK185.out) hb); have _ := am (below_step (beu HB.out) hb); clear BK185 HB; rename_i BK185 HB; (try clear hb); obtain ⟨hcz27_0, hcz27_1, hcz27_2⟩ := cells3 BK185.out; obtain ⟨hfz27_0, hfz27_1, hfz27_2⟩ := frozens3 BK185.out))
              repeat (go_quiet (first | (go_at_call 29; (with_reducible refine (packhorseref01_Right.calls k2 ((rd_T37 l0 x15_2).f0) true _ A11.out).mono ?_); rintro e w26 ⟨rfl, hb⟩; have _ := am (blk_below (g := gb185) (o := .cells #[.string ((rd_T37 l0 x15_2).f0), .int .i64 ((rd_T37 l0 x15_2).f1), .int .i64 ((rd_T37 l0 x15_2).f2)] 37 (0, 0)) (by refine bu ?_; refine blk_put (cs := #[.string ((rd_T37 l0 x15_2).f0), .int .i64 ((rd_T37 l0 x15_2).f1), .int .i64 0]) ?_ 2 _ rfl; refine bu ?_; refine blk_put (cs := #[.string ((rd_T37 l0 x15_2).f0), .int .i64 0, .int .i64 0]) ?_ 1 _ rfl; refine bu ?_; refine blk_put (cs := #[.string ⟨#[]⟩, .int .i64 0, .int .i64 0]) ?_ 0 _ rfl; refine bu ?_; exact BK185.out) hb); have _ := am (below_step (beu HB.out) hb); clear BK185 HB; rename_i BK185 HB; (try clear hb); obtain ⟨hcz27_0, hcz27_1, hcz27_2⟩ := cells3 BK185.out; obtain ⟨hfz27_0, hfz27_1, hfz27_2⟩ := frozens3 BK185.out)); try go_wp2_with (first | (go_at_call 29; (with_reducible refine (packhorseref01_Right.calls k2 ((rd_T37 l0 x15_2).f0) true _ A11.out).mono ?_); rintro e w26 ⟨rfl, hb⟩; have _ := am (blk_below (g := gb185) (o := .cells #[.string ((rd_T37 l0 x15_2).f0), .int .i64 ((rd_T37 l0 x15_2).f1), .int .i64 ((rd_T37 l0 x15_2).f2)] 37 (0, 0)) (by refine bu ?_; refine blk_put (cs := #[.string ((rd_T37 l0 x15_2).f0), .int .i64 ((rd_T37 l0 x15_2).f1), .int .i64 0]) ?_ 2 _ rfl; refine bu ?_; refine blk_put (cs := #[.string ((rd_T37 l0 x15_2).f0), .int .i64 0, .int .i64 0]) ?_ 1 _ rfl; refine bu ?_; refine blk_put (cs := #[.string ⟨#[]⟩, .int .i64 0, .int .i64 0]) ?_ 0 _ rfl; refine bu ?_; exact BK185.out) hb); have _ := am (below_step (beu HB.out) hb); clear BK185 HB; rename_i BK185 HB; (try clear hb); obtain ⟨hcz27_0, hcz27_1, hcz27_2⟩ := cells3 BK185.out; obtain ⟨hfz27_0, hfz27_1, hfz27_2⟩ := frozens3 BK185.out)))
              go_meet
              case rel => exact ⟨_, (decide (((rd_T37 l0 x15_2).f2) > 100000)), ap3, H', ⟨by have := HJ1.out; have := HK2.out; first | omega | exact Nat.le_refl _⟩, ⟨by refine bu ?_; exact BK185.out⟩, ⟨beu HB.out⟩⟩
          ·replace c12 := Bool.eq_false_iff.mpr c12
           subst c12
           have H1 : (packhorseref04_Right.j2 k2 l0 x15_2 l0 (l0.length : Int) x15_2 true ((rd_T37 l0 x15_2).f0) ((rd_T37 l0 x15_2).f1) ((rd_T37 l0 x15_2).f2)) = some r := by rw [if_neg (show ¬ (false = true) by decide)] at H; exact H
           clear H; have H := H1; clear H1; have H' := am H; clear H; obtain ⟨hcz28_0, hcz28_1, hcz28_2⟩ := cells3 BK185.out; obtain ⟨hfz28_0, hfz28_1, hfz28_2⟩ := frozens3 BK185.out
           go_wp2_with (first | (go_at_call 29; (with_reducible refine (packhorseref01_Right.calls k2 ((rd_T37 l0 x15_2).f0) false _ A11.out).mono ?_); rintro e w29 ⟨rfl, hb⟩; have _ := am (blk_below (g := gb185) (o := .cells #[.string ((rd_T37 l0 x15_2).f0), .int .i64 ((rd_T37 l0 x15_2).f1), .int .i64 ((rd_T37 l0 x15_2).f2)] 37 (0, 0)) (by refine bu ?_; refine blk_put (cs := #[.string ((rd_T37 l0 x15_2).f0), .int .i64 ((rd_T37 l0 x15_2).f1), .int .i64 0]) ?_ 2 _ rfl; refine bu ?_; refine blk_put (cs := #[.string ((rd_T37 l0 x15_2).f0), .int .i64 0, .int .i64 0]) ?_ 1 _ rfl; refine bu ?_; refine blk_put (cs := #[.string ⟨#[]⟩, .int .i64 0, .int .i64 0]) ?_ 0 _ rfl; refine bu ?_; exact BK185.out) hb); have _ := am (below_step (beu HB.out) hb); clear BK185 HB; rename_i BK185 HB; (try clear hb)))
           repeat (go_quiet (first | (go_at_call 29; (with_reducible refine (packhorseref01_Right.calls k2 ((rd_T37 l0 x15_2).f0) false _ A11.out).mono ?_); rintro e w29 ⟨rfl, hb⟩; have _ := am (blk_below (g := gb185) (o := .cells #[.string ((rd_T37 l0 x15_2).f0), .int .i64 ((rd_T37 l0 x15_2).f1), .int .i64 ((rd_T37 l0 x15_2).f2)] 37 (0, 0)) (by refine bu ?_; refine blk_put (cs := #[.string ((rd_T37 l0 x15_2).f0), .int .i64 ((rd_T37 l0 x15_2).f1), .int .i64 0]) ?_ 2 _ rfl; refine bu ?_; refine blk_put (cs := #[.string ((rd_T37 l0 x15_2).f0), .int .i64 0, .int .i64 0]) ?_ 1 _ rfl; refine bu ?_; refine blk_put (cs := #[.string ⟨#[]⟩, .int .i64 0, .int .i64 0]) ?_ 0 _ rfl; refine bu ?_; exact BK185.out) hb); have _ := am (below_step (beu HB.out) hb); clear BK185 HB; rename_i BK185 HB; (try clear hb))); try go_wp2_with (first | (go_at_call 29; (with_reducible refine (packhorseref01_Right.calls k2 ((rd_T37 l0 x15_2).f0) false _ A11.out).mono ?_); rintro e w29 ⟨rfl, hb⟩; have _ := am (blk_below (g := gb185) (o := .cells #[.string ((rd_T37 l0 x15_2).f0), .int .i64 ((rd_T37 l0 x15_2).f1), .int .i64 ((rd_T37 l0 x15_2).f2)] 37 (0, 0)) (by refine bu ?_; refine blk_put (cs := #[.string ((rd_T37 l0 x15_2).f0), .int .i64 ((rd_T37 l0 x15_2).f1), .int .i64 0]) ?_ 2 _ rfl; refine bu ?_; refine blk_put (cs := #[.string ((rd_T37 l0 x15_2).f0), .int .i64 0, .int .i64 0]) ?_ 1 _ rfl; refine bu ?_; refine blk_put (cs := #[.string ⟨#[]⟩, .int .i64 0, .int .i64 0]) ?_ 0 _ rfl; refine bu ?_; exact BK185.out) hb); have _ := am (below_step (beu HB.out) hb); clear BK185 HB; rename_i BK185 HB; (try clear hb))))
           go_meet
           case rel => exact ⟨_, (true), ap3, H', ⟨by have := HJ1.out; have := HK2.out; first | omega | exact Nat.le_refl _⟩, ⟨by refine bu ?_; exact BK185.out⟩, ⟨beu HB.out⟩⟩
         case rest =>
          clear HC8; (try clear c1); (try clear p1); (try clear q1); (try clear hx1); (try clear c2); (try clear p2); (try clear c3); (try clear c3b0); (try clear c3b1); (try clear c4); (try clear c5); (try clear c5b0); (try clear c6); (try clear c6b0); (try clear c7); (try clear c7b0); (try clear c12); (try clear c13); (try clear c13b0); (try clear c15); (try clear c17); (try clear c17b0); (try clear p18); (try clear q18); (try clear hx18); (try clear c21); (try clear c21b0); (try clear hcz10_0); (try clear hcz10_1); (try clear hcz10_2); (try clear hcz14_0); (try clear hcz14_1); (try clear hcz14_2); (try clear hcz16_0); (try clear hcz16_1); (try clear hcz16_2); (try clear hcz18_0); (try clear hcz18_1); (try clear hcz18_2); (try clear hcz20_0); (try clear hcz20_1); (try clear hcz20_2); (try clear hcz22_0); (try clear hcz22_1); (try clear hcz22_2); (try clear hcz24_0); (try clear hcz24_1); (try clear hcz24_2); (try clear hcz25_0); (try clear hcz25_1); (try clear hcz25_2); (try clear hcz27_0); (try clear hcz27_1); (try clear hcz27_2); (try clear hcz28_0); (try clear hcz28_1); (try clear hcz28_2); (try clear hfz10_0); (try clear hfz10_1); (try clear hfz10_2); (try clear hfz14_0); (try clear hfz14_1); (try clear hfz14_2); (try clear hfz16_0); (try clear hfz16_1); (try clear hfz16_2); (try clear hfz18_0); (try clear hfz18_1); (try clear hfz18_2); (try clear hfz20_0); (try clear hfz20_1); (try clear hfz20_2); (try clear hfz22_0); (try clear hfz22_1); (try clear hfz22_2); (try clear hfz24_0); (try clear hfz24_1); (try clear hfz24_2); (try clear hfz25_0); (try clear hfz25_1); (try clear hfz25_2); (try clear hfz27_0); (try clear hfz27_1); (try clear hfz27_2); (try clear hfz28_0); (try clear hfz28_1); (try clear hfz28_2); (try clear hx184_0); (try clear hx184_1); (try clear hx184_2); (try clear p184); (try clear p2); (try clear q184); obtain ⟨kq, x43_7, rfl, HA, HJ7, BK185, HB⟩ := hcut
          cases kq with
          | zero => exact absurd HA.out (by simp [packhorseref04_Right.j2])
          | succ kj7 =>
           have H := HA.out; clear HA; simp only [packhorseref04_Right.j2] at H
           by_cases c30 : x43_7 = true
           ·subst c30
            have H1 : (some false) = some r := by rw [if_pos rfl] at H; exact H
            clear H; have H := H1; clear H1; obtain rfl := Option.some.inj H; simp only [Option.some.injEq, Prod.mk.injEq] at H; obtain ⟨rfl⟩ := H
            go_wp2
            repeat (go_quiet (fail); try go_wp2)
            go_ret
            exact ⟨ap4, beu HB.out⟩
           ·replace c30 := Bool.eq_false_iff.mpr c30
            subst c30
            have H1 : (if x15_2 > 0 then (if 0 ≤ (wrap64 (x15_2 - 1)) then (if (wrap64 (x15_2 - 1)) < (l0.length : Int) then ((packhorseref01_Compare.f kj7 ((rd_T37 l0 (wrap64 (x15_2 - 1))).f0) ((rd_T37 l0 x15_2).f0)).bind fun t188 => (if t188 = (-1) then (packhorseref04_Right.l0 kj7 l0 l0 (l0.length : Int) (wrap64 (x15_2 + 1))) else (some false))) else (none)) else (none)) else (packhorseref04_Right.l0 kj7 l0 l0 (l0.length : Int) (wrap64 (x15_2 + 1)))) = some r := by rw [if_neg (show ¬ (false = true) by decide)] at H; exact H
            clear H; have H := H1; clear H1
            by_cases c31 : x15_2 > 0
            ·rw [if_pos c31] at H
             have c31b0 : decide (0 < x15_2) = true := decide_eq_true c31; clear c31; obtain ⟨ji32, hji32⟩ : ∃ j_ : Int, (wrap64 (x15_2 - 1)) = j_ := ⟨_, rfl⟩
             replace H : (if 0 ≤ (ji32) then (if (ji32) < (l0.length : Int) then ((packhorseref01_Compare.f kj7 ((rd_T37 l0 (ji32)).f0) ((rd_T37 l0 x15_2).f0)).bind fun t188 => (if t188 = (-1) then (packhorseref04_Right.l0 kj7 l0 l0 (l0.length : Int) (wrap64 (x15_2 + 1))) else (some false))) else (none)) else (none)) = some r := by first | (rw [hji32] at H; exact H) | (simp only [hji32] at H ⊢; exact H)
             have hji32w : (IntKind.i64.wrap (x15_2 - 1)) = ji32 := (i64_w _).trans hji32
             by_cases c33 : 0 ≤ (ji32)
             ·rw [if_pos c33] at H
              have c33b0 : decide (0 ≤ (ji32)) = true := decide_eq_true c33; clear c33
              by_cases c34 : (ji32) < (l0.length : Int)
              ·rw [if_pos c34] at H
               have c34b0 : decide ((ji32) < (l0.length : Int)) = true := decide_eq_true c34; clear c34; replace H := obm H; obtain ⟨t188, A350, H⟩ := H; replace H : (if t188 = (-1) then (packhorseref04_Right.l0 kj7 l0 l0 (l0.length : Int) (wrap64 (x15_2 + 1))) else (some false)) = some r := H; have A35 := am A350; clear A350
               by_cases c36 : t188 = (-1)
               ·rw [if_pos c36] at H
                have c36b0 : (t188 == (-1)) = true := beq_iff_eq.mpr c36; have c36b1 : (t188 != (-1)) = false := bne_eq_false_iff_eq.mpr c36; clear c36; have H' := am H; clear H; have p187 : 0 ≤ ((ji32) : Int) := of_decide_eq_true ap2; have q187 : (ji32) < (l0.length : Int) := of_decide_eq_true ap2; obtain ⟨ad187, e187, hx187_0, hx187_1, hx187_2⟩ := at_T37 HR0.out (ji32) p187 q187; obtain rfl : ad184 = ad187 := (by injection e187); replace hx187_0 := (HB.out.cell (World.block_lt_of_cell? w _ hx187_0)).trans hx187_0; replace hx187_1 := (HB.out.cell (World.block_lt_of_cell? w _ hx187_1)).trans hx187_1; replace hx187_2 := (HB.out.cell (World.block_lt_of_cell? w _ hx187_2)).trans hx187_2; replace p187 := eq_true p187; replace q187 := eq_true q187; obtain ⟨_, _, _⟩ := cells3 BK185.out; obtain ⟨_, _, _⟩ := frozens3 BK185.out
                go_wp2_with (first | (go_at_call 28; (with_reducible refine (packhorseref01_Compare.calls kj7 ((rd_T37 l0 (ji32)).f0) ((rd_T37 l0 x15_2).f0) t188 _ A35.out).mono ?_); rintro e w' ⟨rfl, ⟨nd, rfl⟩⟩; (try first | exact ⟨rfl, _, World.drewN_drewN _ _ _⟩ | exact ⟨rfl, _, Eq.trans (World.drewN_drewN _ _ _) (congrArg (World.drewN _) (Nat.add_assoc _ _ _))⟩)))
                repeat (go_quiet (first | (go_at_call 28; (with_reducible refine (packhorseref01_Compare.calls kj7 ((rd_T37 l0 (ji32)).f0) ((rd_T37 l0 x15_2).f0) t188 _ A35.out).mono ?_); rintro e w' ⟨rfl, ⟨nd, rfl⟩⟩; (try first | exact ⟨rfl, _, World.drewN_drewN _ _ _⟩ | exact ⟨rfl, _, Eq.trans (World.drewN_drewN _ _ _) (congrArg (World.drewN _) (Nat.add_assoc _ _ _))⟩))); try go_wp2_with (first | (go_at_call 28; (with_reducible refine (packhorseref01_Compare.calls kj7 ((rd_T37 l0 (ji32)).f0) ((rd_T37 l0 x15_2).f0) t188 _ A35.out).mono ?_); rintro e w' ⟨rfl, ⟨nd, rfl⟩⟩; (try first | exact ⟨rfl, _, World.drewN_drewN _ _ _⟩ | exact ⟨rfl, _, Eq.trans (World.drewN_drewN _ _ _) (congrArg (World.drewN _) (Nat.add_assoc _ _ _))⟩))))
                go_roundg kj7
                case measure => have := HJ1.out; have := HK2.out; have := HJ7.out; omega
                case rel => exact ⟨(wrap64 (x15_2 + 1)), ap3, H', ⟨by have := HJ1.out; have := HK2.out; have := HJ7.out; omega⟩, ⟨beu HB.out⟩⟩
               ·rw [if_neg c36] at H
                have c36b0 : (t188 == (-1)) = false := beq_eq_false_iff_ne.mpr c36; have c36b1 : (t188 != (-1)) = true := bne_iff_ne.mpr c36; obtain rfl := Option.some.inj H; simp only [Option.some.injEq, Prod.mk.injEq] at H; obtain ⟨rfl⟩ := H; have p187 : 0 ≤ ((ji32) : Int) := of_decide_eq_true ap2; have q187 : (ji32) < (l0.length : Int) := of_decide_eq_true ap2; obtain ⟨ad187, e187, hx187_0, hx187_1, hx187_2⟩ := at_T37 HR0.out (ji32) p187 q187; obtain rfl : ad184 = ad187 := (by injection e187); replace hx187_0 := (HB.out.cell (World.block_lt_of_cell? w _ hx187_0)).trans hx187_0; replace hx187_1 := (HB.out.cell (World.block_lt_of_cell? w _ hx187_1)).trans hx187_1; replace hx187_2 := (HB.out.cell (World.block_lt_of_cell? w _ hx187_2)).trans hx187_2; replace p187 := eq_true p187; replace q187 := eq_true q187; obtain ⟨hcz38_0, hcz38_1, hcz38_2⟩ := cells3 BK185.out; obtain ⟨hfz38_0, hfz38_1, hfz38_2⟩ := frozens3 BK185.out
                go_wp2_with (first | (go_at_call 28; (with_reducible refine (packhorseref01_Compare.calls kj7 ((rd_T37 l0 (ji32)).f0) ((rd_T37 l0 x15_2).f0) t188 _ A35.out).mono ?_); rintro e w' ⟨rfl, ⟨nd, rfl⟩⟩; (try first | exact ⟨rfl, _, World.drewN_drewN _ _ _⟩ | exact ⟨rfl, _, Eq.trans (World.drewN_drewN _ _ _) (congrArg (World.drewN _) (Nat.add_assoc _ _ _))⟩)))
                repeat (go_quiet (first | (go_at_call 28; (with_reducible refine (packhorseref01_Compare.calls kj7 ((rd_T37 l0 (ji32)).f0) ((rd_T37 l0 x15_2).f0) t188 _ A35.out).mono ?_); rintro e w' ⟨rfl, ⟨nd, rfl⟩⟩; (try first | exact ⟨rfl, _, World.drewN_drewN _ _ _⟩ | exact ⟨rfl, _, Eq.trans (World.drewN_drewN _ _ _) (congrArg (World.drewN _) (Nat.add_assoc _ _ _))⟩))); try go_wp2_with (first | (go_at_call 28; (with_reducible refine (packhorseref01_Compare.calls kj7 ((rd_T37 l0 (ji32)).f0) ((rd_T37 l0 x15_2).f0) t188 _ A35.out).mono ?_); rintro e w' ⟨rfl, ⟨nd, rfl⟩⟩; (try first | exact ⟨rfl, _, World.drewN_drewN _ _ _⟩ | exact ⟨rfl, _, Eq.trans (World.drewN_drewN _ _ _) (congrArg (World.drewN _) (Nat.add_assoc _ _ _))⟩))))
                go_ret
                exact ⟨by first | rfl | (simp [errW_none, errW_some] <;> rfl) | (simp only [← hji32]; first | rfl | (simp [errW_none, errW_some] <;> rfl)) | (simp [*, errW_none, errW_some] <;> rfl), beu HB.out⟩
              ·rw [if_neg c34] at H
               exact absurd H (by simp)
             ·rw [if_neg c33] at H
              exact absurd H (by simp)
            ·rw [if_neg c31] at H
             have c31b0 : decide (0 < x15_2) = false := decide_eq_false c31; clear c31; have H' := am H; clear H
             go_wp2
             repeat (go_quiet (fail); try go_wp2)
             go_roundg kj7
             case measure => have := HJ1.out; have := HK2.out; have := HJ7.out; omega
             case rel => exact ⟨(wrap64 (x15_2 + 1)), ap3, H', ⟨by have := HJ1.out; have := HK2.out; have := HJ7.out; omega⟩, ⟨beu HB.out⟩⟩
        ·rw [if_neg c7] at H
         exact absurd H (by simp)
       ·rw [if_neg c6] at H
        exact absurd H (by simp)
      ·rw [if_neg c5] at H
       have c5b0 : decide (x15_2 < (l0.length : Int)) = false := decide_eq_false c5; clear c5; obtain rfl := Option.some.inj H; simp only [Option.some.injEq, Prod.mk.injEq] at H; obtain ⟨rfl⟩ := H
       go_wp2
       repeat (go_quiet (fail); try go_wp2)
       go_ret
       exact ⟨ap4, beu HB.out⟩
def packhorseref04_Pieces.l0 : Nat → List (S37) → Int → List (S37) → Int → Int → Option (Int)
 | 0, _, _, _, _, _ => none
 | k + 1, x0, x3, x6, x7, x8 => if x8 < x7 then (if 0 ≤ x8 then (if x8 < (x6.length : Int) then ((packhorseref04_Right.f k x0).bind fun t191 => (if t191 = true then (packhorseref04_Pieces.l0 k x0 (wrap64 (x3 + ((rd_T37 x6 x8).f1))) x6 x7 (wrap64 (x8 + 1))) else (packhorseref04_Pieces.l0 k x0 x3 x6 x7 (wrap64 (x8 + 1))))) else (none)) else (none)) else (some x3)
def packhorseref04_Pieces.f (k : Nat) (l0 : List (S37)) : Option (Int) := packhorseref04_Pieces.l0 k l0 0 l0 (l0.length : Int) 0
set_option maxHeartbeats 8000000 in
set_option maxRecDepth 100000 in
theorem packhorseref04_Pieces.calls (k : Nat) (A0 : Option Addr) (c0 : Nat) (l0 : List (S37)) (r : Int) (w : World) (hr0 : Kd.C k37 w A0 l0.length l0) (hc0 : l0.length ≤ c0) (h : packhorseref04_Pieces.f k l0 = some r) :
  Calls Tryd.prog 17 #[.slice A0 l0.length c0] w fun e w' => e = .returned (.int .i64 r) ∧ Below w.heap.size w w' := by
 have hu37 := Tryd.underlying37; have HR0 := am hr0; have HC0 := am hc0; clear hr0 hc0; have HB := am (Below.refl w.heap.size w); have H : (packhorseref04_Pieces.l0 k l0 0 l0 (l0.length : Int) 0) = some r := h; clear h; have H' := am H; clear H
 go_enter Tryd.func17, Tryd.ntmps17
 go_wp2
 go_loopg [3, 8] k (fun kq v3 v8 w' => ∃ (x3_1 : Int) (x8_1 : Int), v3 = .int .i64 x3_1 ∧ v8 = .int .i64 x8_1 ∧ Aside0 (packhorseref04_Pieces.l0 kq l0 x3_1 l0 (l0.length : Int) x8_1 = some r) ∧ Aside0 (kq ≤ k) ∧ Aside0 (Below w.heap.size w w'))
 case atStart => exact ⟨(0), (0), ap3, ap3, H', ⟨Nat.le_refl _⟩, ⟨beu HB.out⟩⟩
 case round =>
  clear H'; (try clear c1); obtain ⟨x3_1, x8_1, rfl, rfl, HA, HK1, HB⟩ := hrel
  cases gk with
  | zero => exact absurd HA.out (by simp [packhorseref04_Pieces.l0])
  | succ k1 =>
   have H := HA.out; clear HA; simp only [packhorseref04_Pieces.l0] at H
   by_cases c2 : x8_1 < (l0.length : Int)
   ·rw [if_pos c2] at H
    have c2b0 : decide (x8_1 < (l0.length : Int)) = true := decide_eq_true c2; clear c2
    by_cases c3 : 0 ≤ x8_1
    ·rw [if_pos c3] at H
     have c3b0 : decide (0 ≤ x8_1) = true := decide_eq_true c3; clear c3
     by_cases c4 : x8_1 < (l0.length : Int)
     ·rw [if_pos c4] at H
      have c4b0 : decide (x8_1 < (l0.length : Int)) = true := decide_eq_true c4; clear c4; replace H := obm H; obtain ⟨t191, A50, H⟩ := H; replace H : (if t191 = true then (packhorseref04_Pieces.l0 k1 l0 (wrap64 (x3_1 + ((rd_T37 l0 x8_1).f1))) l0 (l0.length : Int) (wrap64 (x8_1 + 1))) else (packhorseref04_Pieces.l0 k1 l0 x3_1 l0 (l0.length : Int) (wrap64 (x8_1 + 1)))) = some r := H; have A5 := am A50; clear A50
      by_cases c6 : t191 = true
      ·subst c6
       have H1 : (packhorseref04_Pieces.l0 k1 l0 (wrap64 (x3_1 + ((rd_T37 l0 x8_1).f1))) l0 (l0.length : Int) (wrap64 (x8_1 + 1))) = some r := by rw [if_pos rfl] at H; exact H
       clear H; have H := H1; clear H1; have H' := am H; clear H; have p189 : 0 ≤ (x8_1 : Int) := of_decide_eq_true ap2; have q189 : x8_1 < (l0.length : Int) := of_decide_eq_true ap2; obtain ⟨ad189, e189, hx189_0, hx189_1, hx189_2⟩ := at_T37 HR0.out x8_1 p189 q189
       cases e189
       replace hx189_0 := (HB.out.cell (World.block_lt_of_cell? w _ hx189_0)).trans hx189_0; replace hx189_1 := (HB.out.cell (World.block_lt_of_cell? w _ hx189_1)).trans hx189_1; replace hx189_2 := (HB.out.cell (World.block_lt_of_cell? w _ hx189_2)).trans hx189_2; replace p189 := eq_true p189; replace q189 := eq_true q189
       go_wp2_with (first | ((with_reducible refine gate_dst (N := 5) rfl ?_); refine box_event ?hg (N := 5) ?hd (cs := #[.string ⟨#[]⟩, .int .i64 0, .int .i64 0]) (t := 37) ?hr ?_; (case hd => rfl); (case hg => rfl); (case hr => first | (go_simp; done) | (go_simp; rfl)); intro gb190 hg w7 hbox hb; have _ := am (below_step (beu HB.out) hb); have _ := am (hbox); have _ := am ((by rw [hg]; exact (below_size (beu HB.out)) : w.heap.size ≤ gb190)); have _ := am ((by rw [hg]; exact (below_size (beu HB.out)) : w.heap.size ≤ gb190)); clear HB; rename_i HB BK190 GW190 GE190; clear hb hbox hg; obtain ⟨hcz8_0, hcz8_1, hcz8_2⟩ := cells3 BK190.out; obtain ⟨hfz8_0, hfz8_1, hfz8_2⟩ := frozens3 BK190.out) | ((with_reducible refine gate_callee (f := 15) rfl ?_); refine goesL_ (some 13) rfl rfl Tryd.func15 (by kernel_rfl) rfl #[.slice (some ad189) l0.length c0] rfl ap1 ?_; (with_reducible refine (packhorseref04_Right.calls k1 _ _ l0 true _ ?side1 ?side2 A5.out).mono ?_); (case side1 => exact Kd.C_below HR0.out (beu HB.out)); (case side2 => exact HC0.out); rintro e w9 ⟨rfl, hb⟩; refine ⟨_, rfl, ?_⟩; have _ := am (blk_below (g := gb190) (o := .cells #[.string ((rd_T37 l0 x8_1).f0), .int .i64 ((rd_T37 l0 x8_1).f1), .int .i64 ((rd_T37 l0 x8_1).f2)] 37 (0, 0)) (by refine bu ?_; refine blk_put (cs := #[.string ((rd_T37 l0 x8_1).f0), .int .i64 ((rd_T37 l0 x8_1).f1), .int .i64 0]) ?_ 2 _ rfl; refine bu ?_; refine blk_put (cs := #[.string ((rd_T37 l0 x8_1).f0), .int .i64 0, .int .i64 0]) ?_ 1 _ rfl; refine bu ?_; refine blk_put (cs := #[.string ⟨#[]⟩, .int .i64 0, .int .i64 0]) ?_ 0 _ rfl; refine bu ?_; exact BK190.out) hb); have _ := am (below_step (beu HB.out) hb); clear BK190 HB; rename_i BK190 HB; (try clear hb); obtain ⟨hcz10_0, hcz10_1, hcz10_2⟩ := cells3 BK190.out; obtain ⟨hfz10_0, hfz10_1, hfz10_2⟩ := frozens3 BK190.out))
       go_roundg k1
       case measure => have := HK1.out; omega
       case rel => exact ⟨(wrap64 (x3_1 + ((rd_T37 l0 x8_1).f1))), (wrap64 (x8_1 + 1)), ap3, ap3, H', ⟨by have := HK1.out; omega⟩, ⟨beu HB.out⟩⟩
      ·replace c6 := Bool.eq_false_iff.mpr c6
       subst c6
       have H1 : (packhorseref04_Pieces.l0 k1 l0 x3_1 l0 (l0.length : Int) (wrap64 (x8_1 + 1))) = some r := by rw [if_neg (show ¬ (false = true) by decide)] at H; exact H
       clear H; have H := H1; clear H1; have H' := am H; clear H; have p189 : 0 ≤ (x8_1 : Int) := of_decide_eq_true ap2; have q189 : x8_1 < (l0.length : Int) := of_decide_eq_true ap2; obtain ⟨ad189, e189, hx189_0, hx189_1, hx189_2⟩ := at_T37 HR0.out x8_1 p189 q189
       cases e189
       replace hx189_0 := (HB.out.cell (World.block_lt_of_cell? w _ hx189_0)).trans hx189_0; replace hx189_1 := (HB.out.cell (World.block_lt_of_cell? w _ hx189_1)).trans hx189_1; replace hx189_2 := (HB.out.cell (World.block_lt_of_cell? w _ hx189_2)).trans hx189_2; replace p189 := eq_true p189; replace q189 := eq_true q189
       go_wp2_with (first | ((with_reducible refine gate_dst (N := 5) rfl ?_); refine box_event ?hg (N := 5) ?hd (cs := #[.string ⟨#[]⟩, .int .i64 0, .int .i64 0]) (t := 37) ?hr ?_; (case hd => rfl); (case hg => rfl); (case hr => first | (go_simp; done) | (go_simp; rfl)); intro gb190 hg w11 hbox hb; have _ := am (below_step (beu HB.out) hb); have _ := am (hbox); have _ := am ((by rw [hg]; exact (below_size (beu HB.out)) : w.heap.size ≤ gb190)); have _ := am ((by rw [hg]; exact (below_size (beu HB.out)) : w.heap.size ≤ gb190)); clear HB; rename_i HB BK190 GW190 GE190; clear hb hbox hg; obtain ⟨hcz12_0, hcz12_1, hcz12_2⟩ := cells3 BK190.out; obtain ⟨hfz12_0, hfz12_1, hfz12_2⟩ := frozens3 BK190.out) | ((with_reducible refine gate_callee (f := 15) rfl ?_); refine goesL_ (some 13) rfl rfl Tryd.func15 (by kernel_rfl) rfl #[.slice (some ad189) l0.length c0] rfl ap1 ?_; (with_reducible refine (packhorseref04_Right.calls k1 _ _ l0 false _ ?side1 ?side2 A5.out).mono ?_); (case side1 => exact Kd.C_below HR0.out (beu HB.out)); (case side2 => exact HC0.out); rintro e w13 ⟨rfl, hb⟩; refine ⟨_, rfl, ?_⟩; have _ := am (blk_below (g := gb190) (o := .cells #[.string ((rd_T37 l0 x8_1).f0), .int .i64 ((rd_T37 l0 x8_1).f1), .int .i64 ((rd_T37 l0 x8_1).f2)] 37 (0, 0)) (by refine bu ?_; refine blk_put (cs := #[.string ((rd_T37 l0 x8_1).f0), .int .i64 ((rd_T37 l0 x8_1).f1), .int .i64 0]) ?_ 2 _ rfl; refine bu ?_; refine blk_put (cs := #[.string ((rd_T37 l0 x8_1).f0), .int .i64 0, .int .i64 0]) ?_ 1 _ rfl; refine bu ?_; refine blk_put (cs := #[.string ⟨#[]⟩, .int .i64 0, .int .i64 0]) ?_ 0 _ rfl; refine bu ?_; exact BK190.out) hb); have _ := am (below_step (beu HB.out) hb); clear BK190 HB; rename_i BK190 HB; (try clear hb)))
       go_roundg k1
       case measure => have := HK1.out; omega
       case rel => exact ⟨(x3_1), (wrap64 (x8_1 + 1)), ap3, ap3, H', ⟨by have := HK1.out; omega⟩, ⟨beu HB.out⟩⟩
     ·rw [if_neg c4] at H
      exact absurd H (by simp)
    ·rw [if_neg c3] at H
     exact absurd H (by simp)
   ·rw [if_neg c2] at H
    have c2b0 : decide (x8_1 < (l0.length : Int)) = false := decide_eq_false c2; clear c2; obtain rfl := Option.some.inj H; simp only [Option.some.injEq, Prod.mk.injEq] at H; obtain ⟨rfl⟩ := H
    go_wp2
    go_ret
    exact ⟨ap4, beu HB.out⟩
def lines_Weight_1.f (a0_0 : ByteArray) (a0_1 : Int) (a0_2 : Int) : Option (Int) := some (wrap64 (a0_1 * a0_2))
set_option maxHeartbeats 8000000 in
set_option maxRecDepth 100000 in
theorem lines_Weight_1.calls (a0_0 : ByteArray) (a0_1 : Int) (a0_2 : Int) (r : Int) (w : World) (h : lines_Weight_1.f a0_0 a0_1 a0_2 = some r) :
  Calls Tryd.prog 32 #[.agg #[.string a0_0, .int .i64 a0_1, .int .i64 a0_2]] w fun e w' => e = .returned (.int .i64 r) ∧ Below w.heap.size w w' := by
 have hu37 := Tryd.underlying37; have HB := am (Below.refl w.heap.size w); have H : (some (wrap64 (a0_1 * a0_2))) = some r := h; clear h; obtain rfl := Option.some.inj H; simp only [Option.some.injEq, Prod.mk.injEq] at H; obtain ⟨rfl⟩ := H
 go_enter Tryd.func32, Tryd.ntmps32
 go_wp2_with (first | ((with_reducible refine gate_dst (N := 1) rfl ?_); refine box_event ?hg (N := 1) ?hd (cs := #[.string a0_0, .int .i64 a0_1, .int .i64 a0_2]) (t := 37) ?hr ?_; (case hd => rfl); (case hg => rfl); (case hr => first | (go_simp; done) | (go_simp; rfl)); intro gb192 hg w2 hbox hb; have _ := am (below_step (beu HB.out) hb); have _ := am (hbox); have _ := am ((by rw [hg]; exact (below_size (beu HB.out)) : w.heap.size ≤ gb192)); have _ := am ((by rw [hg]; exact (below_size (beu HB.out)) : w.heap.size ≤ gb192)); clear HB; rename_i HB BK192 GW192 GE192; clear hb hbox hg; obtain ⟨_, _, _⟩ := cells3 BK192.out; obtain ⟨_, _, _⟩ := frozens3 BK192.out))
 go_ret
 exact ⟨ap4, beu HB.out⟩
def lines_total.l0 : Nat → Int → List (S37) → Int → Int → Option (Int)
 | 0, _, _, _, _ => none
 | k + 1, x5, x12, x13, x14 => if x14 < x13 then (if 0 ≤ x14 then (if x14 < (x12.length : Int) then ((lines_Weight_1.f ((rd_T37 x12 x14).f0) ((rd_T37 x12 x14).f1) ((rd_T37 x12 x14).f2)).bind fun t196 => (lines_total.l0 k (wrap64 (x5 + t196)) x12 x13 (wrap64 (x14 + 1)))) else (none)) else (none)) else (some x5)
def lines_total.f (k : Nat) (l0 : List (S37)) (a1 : Int) : Option (Int) := (lines_Right.f k l0).bind fun t193 => (if t193 = true then (lines_total.l0 k 0 l0 (l0.length : Int) 0) else (some 0))
set_option maxHeartbeats 8000000 in
set_option maxRecDepth 100000 in
theorem lines_total.calls (k : Nat) (A0 : Option Addr) (c0 : Nat) (l0 : List (S37)) (a1 : Int) (r : Int) (w : World) (hr0 : Kd.C k37 w A0 l0.length l0) (hc0 : l0.length ≤ c0) (hT : Tabs w) (h : lines_total.f k l0 a1 = some r) :
  Calls Tryd.prog 30 #[.slice A0 l0.length c0, (.func (.func 32) #[] #[])] w fun e w' => e = .returned (.int .i64 r) ∧ Below w.heap.size w w' := by
 have hu37 := Tryd.underlying37; have HR0 := am hr0; have HC0 := am hc0; clear hr0 hc0; have HT := am hT; clear hT; have HB := am (Below.refl w.heap.size w); have H : ((lines_Right.f k l0).bind fun t193 => (if t193 = true then (lines_total.l0 k 0 l0 (l0.length : Int) 0) else (some 0))) = some r := h; clear h; replace H := obm H; obtain ⟨t193, A30, H⟩ := H; replace H : (if t193 = true then (lines_total.l0 k 0 l0 (l0.length : Int) 0) else (some 0)) = some r := H; have A3 := am A30; clear A30
 by_cases c4 : t193 = true
 ·subst c4
  have H1 : (lines_total.l0 k 0 l0 (l0.length : Int) 0) = some r := by rw [if_pos rfl] at H; exact H
  clear H; have H := H1; clear H1; have H' := am H; clear H
  go_enter Tryd.func30, Tryd.ntmps30
  go_wp2_with (first | ((with_reducible refine gate_callee (f := 14) rfl ?_); refine goesL_ (some 9) rfl rfl Tryd.func14 (by kernel_rfl) rfl #[.slice A0 l0.length c0] rfl ap1 ?_; (with_reducible refine (lines_Right.calls k _ _ l0 true _ ?side1 ?side2 ?side3 A3.out).mono ?_); (case side1 => repeat (first | exact HR0.out | (with_reducible refine Kd.C_alloc ?_ _) | (with_reducible refine Kd.C_drewN ?_ _) | (with_reducible refine Kd.C_drew ?_))); (case side2 => exact HC0.out); (case side3 => first | (with_reducible exact HT.out) | exact Tabs.below HT.out (beu HB.out)); rintro e w5 ⟨rfl, hb⟩; refine ⟨_, rfl, ?_⟩; have _ := am (below_step (beu HB.out) hb); clear HB; rename_i HB; (try clear hb)))
  go_loopg [5, 14] k (fun kq v5 v14 w' => ∃ (x5_1 : Int) (x14_1 : Int), v5 = .int .i64 x5_1 ∧ v14 = .int .i64 x14_1 ∧ Aside0 (lines_total.l0 kq x5_1 l0 (l0.length : Int) x14_1 = some r) ∧ Aside0 (kq ≤ k) ∧ Aside0 (Below w.heap.size w w'))
  case atStart => exact ⟨(0), (0), ap3, ap3, H', ⟨Nat.le_refl _⟩, ⟨beu HB.out⟩⟩
  case round =>
   clear H'; (try clear c1); (try clear p2); (try clear c3); (try clear c4); obtain ⟨x5_1, x14_1, rfl, rfl, HA, HK1, HB⟩ := hrel
   cases gk with
   | zero => exact absurd HA.out (by simp [lines_total.l0])
   | succ k1 =>
    have H := HA.out; clear HA; simp only [lines_total.l0] at H
    by_cases c6 : x14_1 < (l0.length : Int)
    ·rw [if_pos c6] at H
     have c6b0 : decide (x14_1 < (l0.length : Int)) = true := decide_eq_true c6; clear c6
     by_cases c7 : 0 ≤ x14_1
     ·rw [if_pos c7] at H
      have c7b0 : decide (0 ≤ x14_1) = true := decide_eq_true c7; clear c7
      by_cases c8 : x14_1 < (l0.length : Int)
      ·rw [if_pos c8] at H
       have c8b0 : decide (x14_1 < (l0.length : Int)) = true := decide_eq_true c8; clear c8; replace H := obm H; obtain ⟨t196, A90, H⟩ := H; replace H : (lines_total.l0 k1 (wrap64 (x5_1 + t196)) l0 (l0.length : Int) (wrap64 (x14_1 + 1))) = some r := H; have A9 := am A90; clear A90; have H' := am H; clear H; have p194 : 0 ≤ (x14_1 : Int) := of_decide_eq_true ap2; have q194 : x14_1 < (l0.length : Int) := of_decide_eq_true ap2; obtain ⟨ad194, e194, hx194_0, hx194_1, hx194_2⟩ := at_T37 HR0.out x14_1 p194 q194
       cases e194
       replace hx194_0 := (HB.out.cell (World.block_lt_of_cell? w _ hx194_0)).trans hx194_0; replace hx194_1 := (HB.out.cell (World.block_lt_of_cell? w _ hx194_1)).trans hx194_1; replace hx194_2 := (HB.out.cell (World.block_lt_of_cell? w _ hx194_2)).trans hx194_2; replace p194 := eq_true p194; replace q194 := eq_true q194
       go_wp2_with (first | ((with_reducible refine gate_dst (N := 7) rfl ?_); refine box_event ?hg (N := 7) ?hd (cs := #[.string ⟨#[]⟩, .int .i64 0, .int .i64 0]) (t := 37) ?hr ?_; (case hd => rfl); (case hg => rfl); (case hr => first | (go_simp; done) | (go_simp; rfl)); intro gb195 hg w10 hbox hb; have _ := am (below_step (beu HB.out) hb); have _ := am (hbox); have _ := am ((by rw [hg]; exact (below_size (beu HB.out)) : w.heap.size ≤ gb195)); have _ := am ((by rw [hg]; exact (below_size (beu HB.out)) : w.heap.size ≤ gb195)); clear HB; rename_i HB BK195 GW195 GE195; clear hb hbox hg; obtain ⟨_, _, _⟩ := cells3 BK195.out; obtain ⟨_, _, _⟩ := frozens3 BK195.out) | ((with_reducible refine gate_dyn (x := .tmp 19) rfl ?_); refine goesD_ (some 21) (.tmp 19) rfl rfl rfl Tryd.func32 (by kernel_rfl) rfl #[.agg #[.string ((rd_T37 l0 x14_1).f0), .int .i64 ((rd_T37 l0 x14_1).f1), .int .i64 ((rd_T37 l0 x14_1).f2)]] rfl ap1 ?_; (with_reducible refine (lines_Weight_1.calls ((rd_T37 l0 x14_1).f0) ((rd_T37 l0 x14_1).f1) ((rd_T37 l0 x14_1).f2) t196 _ A9.out).mono ?_); rintro e w12 ⟨rfl, hb⟩; refine ⟨_, rfl, ?_⟩; have _ := am (blk_below (g := gb195) (o := .cells #[.string ((rd_T37 l0 x14_1).f0), .int .i64 ((rd_T37 l0 x14_1).f1), .int .i64 ((rd_T37 l0 x14_1).f2)] 37 (0, 0)) (by refine bu ?_; refine blk_put (cs := #[.string ((rd_T37 l0 x14_1).f0), .int .i64 ((rd_T37 l0 x14_1).f1), .int .i64 0]) ?_ 2 _ rfl; refine bu ?_; refine blk_put (cs := #[.string ((rd_T37 l0 x14_1).f0), .int .i64 0, .int .i64 0]) ?_ 1 _ rfl; refine bu ?_; refine blk_put (cs := #[.string ⟨#[]⟩, .int .i64 0, .int .i64 0]) ?_ 0 _ rfl; refine bu ?_; exact BK195.out) hb); have _ := am (below_step (beu HB.out) hb); clear BK195 HB; rename_i BK195 HB; (try clear hb)))
       go_roundg k1
       case measure => have := HK1.out; omega
       case rel => exact ⟨(wrap64 (x5_1 + t196)), (wrap64 (x14_1 + 1)), ap3, ap3, H', ⟨by have := HK1.out; omega⟩, ⟨beu HB.out⟩⟩
      ·rw [if_neg c8] at H
       exact absurd H (by simp)
     ·rw [if_neg c7] at H
      exact absurd H (by simp)
    ·rw [if_neg c6] at H
     have c6b0 : decide (x14_1 < (l0.length : Int)) = false := decide_eq_false c6; clear c6; obtain rfl := Option.some.inj H; simp only [Option.some.injEq, Prod.mk.injEq] at H; obtain ⟨rfl⟩ := H
     go_wp2
     go_ret
     exact ⟨ap4, beu HB.out⟩
 ·replace c4 := Bool.eq_false_iff.mpr c4
  subst c4
  have H1 : (some 0) = some r := by rw [if_neg (show ¬ (false = true) by decide)] at H; exact H
  clear H; have H := H1; clear H1; obtain rfl := Option.some.inj H; simp only [Option.some.injEq, Prod.mk.injEq] at H; obtain ⟨rfl⟩ := H
  go_enter Tryd.func30, Tryd.ntmps30
  go_wp2_with (first | ((with_reducible refine gate_callee (f := 14) rfl ?_); refine goesL_ (some 9) rfl rfl Tryd.func14 (by kernel_rfl) rfl #[.slice A0 l0.length c0] rfl ap1 ?_; (with_reducible refine (lines_Right.calls k _ _ l0 false _ ?side1 ?side2 ?side3 A3.out).mono ?_); (case side1 => repeat (first | exact HR0.out | (with_reducible refine Kd.C_alloc ?_ _) | (with_reducible refine Kd.C_drewN ?_ _) | (with_reducible refine Kd.C_drew ?_))); (case side2 => exact HC0.out); (case side3 => first | (with_reducible exact HT.out) | exact Tabs.below HT.out (beu HB.out)); rintro e w13 ⟨rfl, hb⟩; refine ⟨_, rfl, ?_⟩; have _ := am (below_step (beu HB.out) hb); clear HB; rename_i HB; (try clear hb)))
  go_ret
  exact ⟨ap4, beu HB.out⟩
def lines_Weight.f (k : Nat) (l0 : List (S37)) : Option (Int) := (lines_total.f k l0 32).bind fun t197 => (some t197)
set_option maxHeartbeats 8000000 in
set_option maxRecDepth 100000 in
theorem lines_Weight.calls (k : Nat) (A0 : Option Addr) (c0 : Nat) (l0 : List (S37)) (r : Int) (w : World) (hr0 : Kd.C k37 w A0 l0.length l0) (hc0 : l0.length ≤ c0) (hT : Tabs w) (h : lines_Weight.f k l0 = some r) :
  Calls Tryd.prog 18 #[.slice A0 l0.length c0] w fun e w' => e = .returned (.int .i64 r) ∧ Below w.heap.size w w' := by
 have HR0 := am hr0; have HC0 := am hc0; clear hr0 hc0; have HT := am hT; clear hT; have HB := am (Below.refl w.heap.size w); have H : ((lines_total.f k l0 32).bind fun t197 => (some t197)) = some r := h; clear h; replace H := obm H; obtain ⟨t197, A20, H⟩ := H; replace H : (some t197) = some r := H; have A2 := am A20; clear A20; obtain rfl := Option.some.inj H; simp only [Option.some.injEq, Prod.mk.injEq] at H; obtain ⟨rfl⟩ := H
 go_enter Tryd.func18, Tryd.ntmps18
 go_wp2_with (first | ((with_reducible refine gate_callee (f := 30) rfl ?_); refine goesL_ (some 4) rfl rfl Tryd.func30 (by kernel_rfl) rfl #[.slice A0 l0.length c0, (.func (.func 32) #[] #[])] rfl ap1 ?_; (with_reducible refine (lines_total.calls k _ _ l0 32 t197 _ ?side1 ?side2 ?side3 A2.out).mono ?_); (case side1 => repeat (first | exact HR0.out | (with_reducible refine Kd.C_alloc ?_ _) | (with_reducible refine Kd.C_drewN ?_ _) | (with_reducible refine Kd.C_drew ?_))); (case side2 => exact HC0.out); (case side3 => first | (with_reducible exact HT.out) | exact Tabs.below HT.out (beu HB.out)); rintro e w3 ⟨rfl, hb⟩; refine ⟨_, rfl, ?_⟩; have _ := am (below_step (beu HB.out) hb); clear HB; rename_i HB; (try clear hb)))
 go_ret
 exact ⟨ap4, beu HB.out⟩
def packhorseref04_Weight.l0 : Nat → List (S37) → Int → List (S37) → Int → Int → Option (Int)
 | 0, _, _, _, _, _ => none
 | k + 1, x0, x3, x6, x7, x8 => if x8 < x7 then (if 0 ≤ x8 then (if x8 < (x6.length : Int) then ((packhorseref04_Right.f k x0).bind fun t200 => (if t200 = true then (packhorseref04_Weight.l0 k x0 (wrap64 (x3 + (wrap64 (((rd_T37 x6 x8).f1) * ((rd_T37 x6 x8).f2))))) x6 x7 (wrap64 (x8 + 1))) else (packhorseref04_Weight.l0 k x0 x3 x6 x7 (wrap64 (x8 + 1))))) else (none)) else (none)) else (some x3)
def packhorseref04_Weight.f (k : Nat) (l0 : List (S37)) : Option (Int) := packhorseref04_Weight.l0 k l0 0 l0 (l0.length : Int) 0
set_option maxHeartbeats 8000000 in
set_option maxRecDepth 100000 in
theorem packhorseref04_Weight.calls (k : Nat) (A0 : Option Addr) (c0 : Nat) (l0 : List (S37)) (r : Int) (w : World) (hr0 : Kd.C k37 w A0 l0.length l0) (hc0 : l0.length ≤ c0) (h : packhorseref04_Weight.f k l0 = some r) :
  Calls Tryd.prog 19 #[.slice A0 l0.length c0] w fun e w' => e = .returned (.int .i64 r) ∧ Below w.heap.size w w' := by
 have hu37 := Tryd.underlying37; have HR0 := am hr0; have HC0 := am hc0; clear hr0 hc0; have HB := am (Below.refl w.heap.size w); have H : (packhorseref04_Weight.l0 k l0 0 l0 (l0.length : Int) 0) = some r := h; clear h; have H' := am H; clear H
 go_enter Tryd.func19, Tryd.ntmps19
 go_wp2
 go_loopg [3, 8] k (fun kq v3 v8 w' => ∃ (x3_1 : Int) (x8_1 : Int), v3 = .int .i64 x3_1 ∧ v8 = .int .i64 x8_1 ∧ Aside0 (packhorseref04_Weight.l0 kq l0 x3_1 l0 (l0.length : Int) x8_1 = some r) ∧ Aside0 (kq ≤ k) ∧ Aside0 (Below w.heap.size w w'))
 case atStart => exact ⟨(0), (0), ap3, ap3, H', ⟨Nat.le_refl _⟩, ⟨beu HB.out⟩⟩
 case round =>
  clear H'; (try clear c1); obtain ⟨x3_1, x8_1, rfl, rfl, HA, HK1, HB⟩ := hrel
  cases gk with
  | zero => exact absurd HA.out (by simp [packhorseref04_Weight.l0])
  | succ k1 =>
   have H := HA.out; clear HA; simp only [packhorseref04_Weight.l0] at H
   by_cases c2 : x8_1 < (l0.length : Int)
   ·rw [if_pos c2] at H
    have c2b0 : decide (x8_1 < (l0.length : Int)) = true := decide_eq_true c2; clear c2
    by_cases c3 : 0 ≤ x8_1
    ·rw [if_pos c3] at H
     have c3b0 : decide (0 ≤ x8_1) = true := decide_eq_true c3; clear c3
     by_cases c4 : x8_1 < (l0.length : Int)
     ·rw [if_pos c4] at H
      have c4b0 : decide (x8_1 < (l0.length : Int)) = true := decide_eq_true c4; clear c4; replace H := obm H; obtain ⟨t200, A50, H⟩ := H; replace H : (if t200 = true then (packhorseref04_Weight.l0 k1 l0 (wrap64 (x3_1 + (wrap64 (((rd_T37 l0 x8_1).f1) * ((rd_T37 l0 x8_1).f2))))) l0 (l0.length : Int) (wrap64 (x8_1 + 1))) else (packhorseref04_Weight.l0 k1 l0 x3_1 l0 (l0.length : Int) (wrap64 (x8_1 + 1)))) = some r := H; have A5 := am A50; clear A50
      by_cases c6 : t200 = true
      ·subst c6
       have H1 : (packhorseref04_Weight.l0 k1 l0 (wrap64 (x3_1 + (wrap64 (((rd_T37 l0 x8_1).f1) * ((rd_T37 l0 x8_1).f2))))) l0 (l0.length : Int) (wrap64 (x8_1 + 1))) = some r := by rw [if_pos rfl] at H; exact H
       clear H; have H := H1; clear H1; have H' := am H; clear H; have p198 : 0 ≤ (x8_1 : Int) := of_decide_eq_true ap2; have q198 : x8_1 < (l0.length : Int) := of_decide_eq_true ap2; obtain ⟨ad198, e198, hx198_0, hx198_1, hx198_2⟩ := at_T37 HR0.out x8_1 p198 q198
       cases e198
       replace hx198_0 := (HB.out.cell (World.block_lt_of_cell? w _ hx198_0)).trans hx198_0; replace hx198_1 := (HB.out.cell (World.block_lt_of_cell? w _ hx198_1)).trans hx198_1; replace hx198_2 := (HB.out.cell (World.block_lt_of_cell? w _ hx198_2)).trans hx198_2; replace p198 := eq_true p198; replace q198 := eq_true q198
       go_wp2_with (first | ((with_reducible refine gate_dst (N := 5) rfl ?_); refine box_event ?hg (N := 5) ?hd (cs := #[.string ⟨#[]⟩, .int .i64 0, .int .i64 0]) (t := 37) ?hr ?_; (case hd => rfl); (case hg => rfl); (case hr => first | (go_simp; done) | (go_simp; rfl)); intro gb199 hg w7 hbox hb; have _ := am (below_step (beu HB.out) hb); have _ := am (hbox); have _ := am ((by rw [hg]; exact (below_size (beu HB.out)) : w.heap.size ≤ gb199)); have _ := am ((by rw [hg]; exact (below_size (beu HB.out)) : w.heap.size ≤ gb199)); clear HB; rename_i HB BK199 GW199 GE199; clear hb hbox hg; obtain ⟨hcz8_0, hcz8_1, hcz8_2⟩ := cells3 BK199.out; obtain ⟨hfz8_0, hfz8_1, hfz8_2⟩ := frozens3 BK199.out) | ((with_reducible refine gate_callee (f := 15) rfl ?_); refine goesL_ (some 13) rfl rfl Tryd.func15 (by kernel_rfl) rfl #[.slice (some ad198) l0.length c0] rfl ap1 ?_; (with_reducible refine (packhorseref04_Right.calls k1 _ _ l0 true _ ?side1 ?side2 A5.out).mono ?_); (case side1 => exact Kd.C_below HR0.out (beu HB.out)); (case side2 => exact HC0.out); rintro e w9 ⟨rfl, hb⟩; refine ⟨_, rfl, ?_⟩; have _ := am (blk_below (g := gb199) (o := .cells #[.string ((rd_T37 l0 x8_1).f0), .int .i64 ((rd_T37 l0 x8_1).f1), .int .i64 ((rd_T37 l0 x8_1).f2)] 37 (0, 0)) (by refine bu ?_; refine blk_put (cs := #[.string ((rd_T37 l0 x8_1).f0), .int .i64 ((rd_T37 l0 x8_1).f1), .int .i64 0]) ?_ 2 _ rfl; refine bu ?_; refine blk_put (cs := #[.string ((rd_T37 l0 x8_1).f0), .int .i64 0, .int .i64 0]) ?_ 1 _ rfl; refine bu ?_; refine blk_put (cs := #[.string ⟨#[]⟩, .int .i64 0, .int .i64 0]) ?_ 0 _ rfl; refine bu ?_; exact BK199.out) hb); have _ := am (below_step (beu HB.out) hb); clear BK199 HB; rename_i BK199 HB; (try clear hb); obtain ⟨hcz10_0, hcz10_1, hcz10_2⟩ := cells3 BK199.out; obtain ⟨hfz10_0, hfz10_1, hfz10_2⟩ := frozens3 BK199.out))
       go_roundg k1
       case measure => have := HK1.out; omega
       case rel => exact ⟨(wrap64 (x3_1 + (wrap64 (((rd_T37 l0 x8_1).f1) * ((rd_T37 l0 x8_1).f2))))), (wrap64 (x8_1 + 1)), ap3, ap3, H', ⟨by have := HK1.out; omega⟩, ⟨beu HB.out⟩⟩
      ·replace c6 := Bool.eq_false_iff.mpr c6
       subst c6
       have H1 : (packhorseref04_Weight.l0 k1 l0 x3_1 l0 (l0.length : Int) (wrap64 (x8_1 + 1))) = some r := by rw [if_neg (show ¬ (false = true) by decide)] at H; exact H
       clear H; have H := H1; clear H1; have H' := am H; clear H; have p198 : 0 ≤ (x8_1 : Int) := of_decide_eq_true ap2; have q198 : x8_1 < (l0.length : Int) := of_decide_eq_true ap2; obtain ⟨ad198, e198, hx198_0, hx198_1, hx198_2⟩ := at_T37 HR0.out x8_1 p198 q198
       cases e198
       replace hx198_0 := (HB.out.cell (World.block_lt_of_cell? w _ hx198_0)).trans hx198_0; replace hx198_1 := (HB.out.cell (World.block_lt_of_cell? w _ hx198_1)).trans hx198_1; replace hx198_2 := (HB.out.cell (World.block_lt_of_cell? w _ hx198_2)).trans hx198_2; replace p198 := eq_true p198; replace q198 := eq_true q198
       go_wp2_with (first | ((with_reducible refine gate_dst (N := 5) rfl ?_); refine box_event ?hg (N := 5) ?hd (cs := #[.string ⟨#[]⟩, .int .i64 0, .int .i64 0]) (t := 37) ?hr ?_; (case hd => rfl); (case hg => rfl); (case hr => first | (go_simp; done) | (go_simp; rfl)); intro gb199 hg w11 hbox hb; have _ := am (below_step (beu HB.out) hb); have _ := am (hbox); have _ := am ((by rw [hg]; exact (below_size (beu HB.out)) : w.heap.size ≤ gb199)); have _ := am ((by rw [hg]; exact (below_size (beu HB.out)) : w.heap.size ≤ gb199)); clear HB; rename_i HB BK199 GW199 GE199; clear hb hbox hg; obtain ⟨hcz12_0, hcz12_1, hcz12_2⟩ := cells3 BK199.out; obtain ⟨hfz12_0, hfz12_1, hfz12_2⟩ := frozens3 BK199.out) | ((with_reducible refine gate_callee (f := 15) rfl ?_); refine goesL_ (some 13) rfl rfl Tryd.func15 (by kernel_rfl) rfl #[.slice (some ad198) l0.length c0] rfl ap1 ?_; (with_reducible refine (packhorseref04_Right.calls k1 _ _ l0 false _ ?side1 ?side2 A5.out).mono ?_); (case side1 => exact Kd.C_below HR0.out (beu HB.out)); (case side2 => exact HC0.out); rintro e w13 ⟨rfl, hb⟩; refine ⟨_, rfl, ?_⟩; have _ := am (blk_below (g := gb199) (o := .cells #[.string ((rd_T37 l0 x8_1).f0), .int .i64 ((rd_T37 l0 x8_1).f1), .int .i64 ((rd_T37 l0 x8_1).f2)] 37 (0, 0)) (by refine bu ?_; refine blk_put (cs := #[.string ((rd_T37 l0 x8_1).f0), .int .i64 ((rd_T37 l0 x8_1).f1), .int .i64 0]) ?_ 2 _ rfl; refine bu ?_; refine blk_put (cs := #[.string ((rd_T37 l0 x8_1).f0), .int .i64 0, .int .i64 0]) ?_ 1 _ rfl; refine bu ?_; refine blk_put (cs := #[.string ⟨#[]⟩, .int .i64 0, .int .i64 0]) ?_ 0 _ rfl; refine bu ?_; exact BK199.out) hb); have _ := am (below_step (beu HB.out) hb); clear BK199 HB; rename_i BK199 HB; (try clear hb)))
       go_roundg k1
       case measure => have := HK1.out; omega
       case rel => exact ⟨(x3_1), (wrap64 (x8_1 + 1)), ap3, ap3, H', ⟨by have := HK1.out; omega⟩, ⟨beu HB.out⟩⟩
     ·rw [if_neg c4] at H
      exact absurd H (by simp)
    ·rw [if_neg c3] at H
     exact absurd H (by simp)
   ·rw [if_neg c2] at H
    have c2b0 : decide (x8_1 < (l0.length : Int)) = false := decide_eq_false c2; clear c2; obtain rfl := Option.some.inj H; simp only [Option.some.injEq, Prod.mk.injEq] at H; obtain ⟨rfl⟩ := H
    go_wp2
    go_ret
    exact ⟨ap4, beu HB.out⟩
def packhorselaw04_LinesTell.f (k : Nat) (l0 : List (S37)) : Option (Bool) := (packhorselaw04_linesAlive.f k).bind fun t201 => (if t201 = true then (if (l0.length : Int) > 50 then (some true) else ((lines_Right.f k l0).bind fun t202 => ((packhorseref04_Right.f k l0).bind fun t203 => (if (t202 == t203) = true then ((lines_Pieces.f k l0).bind fun t204 => ((packhorseref04_Pieces.f k l0).bind fun t205 => (if t204 = t205 then ((lines_Weight.f k l0).bind fun t206 => ((packhorseref04_Weight.f k l0).bind fun t207 => (some (t206 == t207)))) else (some false)))) else (some false))))) else (some false))
set_option maxHeartbeats 8000000 in
set_option maxRecDepth 100000 in
theorem packhorselaw04_LinesTell.calls (k : Nat) (A0 : Option Addr) (c0 : Nat) (l0 : List (S37)) (r : Bool) (w : World) (hr0 : Kd.C k37 w A0 l0.length l0) (hc0 : l0.length ≤ c0) (hT : Tabs w) (h : packhorselaw04_LinesTell.f k l0 = some r) (hr_ : r = true) :
  Calls Tryd.prog 5 #[.slice A0 l0.length c0] w fun e w' => e = .returned (.bool r) ∧ Below w.heap.size w w' := by
 have HR0 := am hr0; have HC0 := am hc0; clear hr0 hc0; have HRT := am hr_; clear hr_; have HT := am hT; clear hT; have HB := am (Below.refl w.heap.size w); have H : ((packhorselaw04_linesAlive.f k).bind fun t201 => (if t201 = true then (if (l0.length : Int) > 50 then (some true) else ((lines_Right.f k l0).bind fun t202 => ((packhorseref04_Right.f k l0).bind fun t203 => (if (t202 == t203) = true then ((lines_Pieces.f k l0).bind fun t204 => ((packhorseref04_Pieces.f k l0).bind fun t205 => (if t204 = t205 then ((lines_Weight.f k l0).bind fun t206 => ((packhorseref04_Weight.f k l0).bind fun t207 => (some (t206 == t207)))) else (some false)))) else (some false))))) else (some false))) = some r := h; clear h; replace H := obm H; obtain ⟨t201, A20, H⟩ := H; replace H : (if t201 = true then (if (l0.length : Int) > 50 then (some true) else ((lines_Right.f k l0).bind fun t202 => ((packhorseref04_Right.f k l0).bind fun t203 => (if (t202 == t203) = true then ((lines_Pieces.f k l0).bind fun t204 => ((packhorseref04_Pieces.f k l0).bind fun t205 => (if t204 = t205 then ((lines_Weight.f k l0).bind fun t206 => ((packhorseref04_Weight.f k l0).bind fun t207 => (some (t206 == t207)))) else (some false)))) else (some false))))) else (some false)) = some r := H; have A2 := am A20; clear A20
 by_cases c3 : t201 = true
 ·subst c3
  have H1 : (if (l0.length : Int) > 50 then (some true) else ((lines_Right.f k l0).bind fun t202 => ((packhorseref04_Right.f k l0).bind fun t203 => (if (t202 == t203) = true then ((lines_Pieces.f k l0).bind fun t204 => ((packhorseref04_Pieces.f k l0).bind fun t205 => (if t204 = t205 then ((lines_Weight.f k l0).bind fun t206 => ((packhorseref04_Weight.f k l0).bind fun t207 => (some (t206 == t207)))) else (some false)))) else (some false))))) = some r := by rw [if_pos rfl] at H; exact H
  clear H; have H := H1; clear H1
  by_cases c4 : (l0.length : Int) > 50
  ·rw [if_pos c4] at H
   have c4b0 : decide (50 < (l0.length : Int)) = true := decide_eq_true c4; have c4b1 : decide (50 < l0.length) = true := decide_eq_true (by omega); clear c4; obtain rfl := Option.some.inj H; simp only [Option.some.injEq, Prod.mk.injEq] at H; obtain ⟨rfl⟩ := H
   go_enter Tryd.func5, Tryd.ntmps5
   go_wp2_with (first | ((with_reducible refine gate_callee (f := 10) rfl ?_); refine goesL_ (some 3) rfl rfl Tryd.func10 (by kernel_rfl) rfl #[] rfl ap1 ?_; (with_reducible refine (packhorselaw04_linesAlive.calls k  true _ ?side1 A2.out rfl).mono ?_); (case side1 => first | (with_reducible exact HT.out) | exact Tabs.below HT.out (beu HB.out)); rintro e w5 ⟨rfl, hb⟩; refine ⟨_, rfl, ?_⟩; have _ := am (below_step (beu HB.out) hb); clear HB; rename_i HB; (try clear hb)))
   go_ret
   exact ⟨ap4, beu HB.out⟩
  ·rw [if_neg c4] at H
   have c4b0 : decide (50 < (l0.length : Int)) = false := decide_eq_false c4; have c4b1 : decide (50 < l0.length) = false := decide_eq_false (by omega); clear c4; replace H := obm H; obtain ⟨t202, A60, H⟩ := H; replace H : ((packhorseref04_Right.f k l0).bind fun t203 => (if (t202 == t203) = true then ((lines_Pieces.f k l0).bind fun t204 => ((packhorseref04_Pieces.f k l0).bind fun t205 => (if t204 = t205 then ((lines_Weight.f k l0).bind fun t206 => ((packhorseref04_Weight.f k l0).bind fun t207 => (some (t206 == t207)))) else (some false)))) else (some false))) = some r := H; have A6 := am A60; clear A60; replace H := obm H; obtain ⟨t203, A70, H⟩ := H; replace H : (if (t202 == t203) = true then ((lines_Pieces.f k l0).bind fun t204 => ((packhorseref04_Pieces.f k l0).bind fun t205 => (if t204 = t205 then ((lines_Weight.f k l0).bind fun t206 => ((packhorseref04_Weight.f k l0).bind fun t207 => (some (t206 == t207)))) else (some false)))) else (some false)) = some r := H; have A7 := am A70; clear A70
   by_cases c8 : (t202 == t203) = true
   ·rw [if_pos c8] at H
    have c8b0 : (t202 == t203) = true := c8
    (try (have c8b1 : decide (t202 = t203) = true := by simpa using c8))
    (try (have c8b2 : (t202 == t203) = true := by simpa using c8))
    clear c8; replace H := obm H; obtain ⟨t204, A90, H⟩ := H; replace H : ((packhorseref04_Pieces.f k l0).bind fun t205 => (if t204 = t205 then ((lines_Weight.f k l0).bind fun t206 => ((packhorseref04_Weight.f k l0).bind fun t207 => (some (t206 == t207)))) else (some false))) = some r := H; have A9 := am A90; clear A90; replace H := obm H; obtain ⟨t205, A100, H⟩ := H; replace H : (if t204 = t205 then ((lines_Weight.f k l0).bind fun t206 => ((packhorseref04_Weight.f k l0).bind fun t207 => (some (t206 == t207)))) else (some false)) = some r := H; have A10 := am A100; clear A100
    by_cases c11 : t204 = t205
    ·rw [if_pos c11] at H
     have c11b0 : (t204 == t205) = true := beq_iff_eq.mpr c11; have c11b1 : (t204 != t205) = false := bne_eq_false_iff_eq.mpr c11; clear c11; replace H := obm H; obtain ⟨t206, A120, H⟩ := H; replace H : ((packhorseref04_Weight.f k l0).bind fun t207 => (some (t206 == t207))) = some r := H; have A12 := am A120; clear A120; replace H := obm H; obtain ⟨t207, A130, H⟩ := H; replace H : (some (t206 == t207)) = some r := H; have A13 := am A130; clear A130; obtain rfl := Option.some.inj H; simp only [Option.some.injEq, Prod.mk.injEq] at H; obtain ⟨rfl⟩ := H
     go_enter Tryd.func5, Tryd.ntmps5
     go_wp2_with (first | ((with_reducible refine gate_callee (f := 10) rfl ?_); refine goesL_ (some 3) rfl rfl Tryd.func10 (by kernel_rfl) rfl #[] rfl ap1 ?_; (with_reducible refine (packhorselaw04_linesAlive.calls k  true _ ?side1 A2.out rfl).mono ?_); (case side1 => first | (with_reducible exact HT.out) | exact Tabs.below HT.out (beu HB.out)); rintro e w14 ⟨rfl, hb⟩; refine ⟨_, rfl, ?_⟩; have _ := am (below_step (beu HB.out) hb); clear HB; rename_i HB; (try clear hb)) | ((with_reducible refine gate_callee (f := 14) rfl ?_); refine goesL_ (some 9) rfl rfl Tryd.func14 (by kernel_rfl) rfl #[.slice A0 l0.length c0] rfl ap1 ?_; (with_reducible refine (lines_Right.calls k _ _ l0 t202 _ ?side1 ?side2 ?side3 A6.out).mono ?_); (case side1 => exact cu (Kd.C_below HR0.out HB.out)); (case side2 => exact HC0.out); (case side3 => first | (with_reducible exact HT.out) | exact Tabs.below HT.out (beu HB.out)); rintro e w15 ⟨rfl, hb⟩; refine ⟨_, rfl, ?_⟩; have _ := am (below_step (beu HB.out) hb); clear HB; rename_i HB; (try clear hb)) | ((with_reducible refine gate_callee (f := 15) rfl ?_); refine goesL_ (some 11) rfl rfl Tryd.func15 (by kernel_rfl) rfl #[.slice A0 l0.length c0] rfl ap1 ?_; (with_reducible refine (packhorseref04_Right.calls k _ _ l0 t203 _ ?side1 ?side2 A7.out).mono ?_); (case side1 => exact cu (Kd.C_below HR0.out HB.out)); (case side2 => exact HC0.out); rintro e w16 ⟨rfl, hb⟩; refine ⟨_, rfl, ?_⟩; have _ := am (below_step (beu HB.out) hb); clear HB; rename_i HB; (try clear hb)) | (go_at_call 16; (with_reducible refine (lines_Pieces.calls k _ _ l0 t204 _ ?side1 ?side2 ?side3 A9.out).mono ?_); (case side1 => exact cu (Kd.C_below HR0.out HB.out)); (case side2 => exact HC0.out); (case side3 => first | (with_reducible exact HT.out) | exact Tabs.below HT.out (beu HB.out)); rintro e w17 ⟨rfl, hb⟩; have _ := am (below_step (beu HB.out) hb); clear HB; rename_i HB; (try clear hb)) | (go_at_call 17; (with_reducible refine (packhorseref04_Pieces.calls k _ _ l0 t205 _ ?side1 ?side2 A10.out).mono ?_); (case side1 => exact cu (Kd.C_below HR0.out HB.out)); (case side2 => exact HC0.out); rintro e w18 ⟨rfl, hb⟩; have _ := am (below_step (beu HB.out) hb); clear HB; rename_i HB; (try clear hb)) | (go_at_call 18; (with_reducible refine (lines_Weight.calls k _ _ l0 t206 _ ?side1 ?side2 ?side3 A12.out).mono ?_); (case side1 => exact cu (Kd.C_below HR0.out HB.out)); (case side2 => exact HC0.out); (case side3 => first | (with_reducible exact HT.out) | exact Tabs.below HT.out (beu HB.out)); rintro e w19 ⟨rfl, hb⟩; have _ := am (below_step (beu HB.out) hb); clear HB; rename_i HB; (try clear hb)) | (go_at_call 19; (with_reducible refine (packhorseref04_Weight.calls k _ _ l0 t207 _ ?side1 ?side2 A13.out).mono ?_); (case side1 => exact cu (Kd.C_below HR0.out HB.out)); (case side2 => exact HC0.out); rintro e w20 ⟨rfl, hb⟩; have _ := am (below_step (beu HB.out) hb); clear HB; rename_i HB; (try clear hb)))
     go_ret
     exact ⟨ap4, beu HB.out⟩
    ·rw [if_neg c11] at H
     have c11b0 : (t204 == t205) = false := beq_eq_false_iff_ne.mpr c11; have c11b1 : (t204 != t205) = true := bne_iff_ne.mpr c11; obtain rfl := Option.some.inj H; exact absurd HRT.out (by decide)
   ·rw [if_neg c8] at H
    have c8b0 : (t202 == t203) = false := by simpa using c8
    (try (have c8b1 : decide (t202 = t203) = false := by simpa using c8))
    (try (have c8b2 : (t202 == t203) = false := by simpa using c8))
    (try (have c8b3 : ¬ (t202 = t203) := by simpa using c8))
    clear c8; obtain rfl := Option.some.inj H; exact absurd HRT.out (by decide)
 ·replace c3 := Bool.eq_false_iff.mpr c3
  subst c3
  have H1 : (some false) = some r := by rw [if_neg (show ¬ (false = true) by decide)] at H; exact H
  clear H; have H := H1; clear H1; obtain rfl := Option.some.inj H; exact absurd HRT.out (by decide)
end Go.Proofs.YtalcopjlofbfaaaDoor.PAll
