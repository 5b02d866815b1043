
import Derived.Test.YtapfpdjcbeiibaaDoorQBatchBackPAllx0
namespace Go.Proofs.YtapfpdjcbeiibaaDoor.PAll
open Go.RowKit Go.Proofs.YtapfpdjcbeiibaaDoorW.PrintWords Go.Proofs.YtapfpdjcbeiibaaDoorW.PrintLast Go.Proofs.YtapfpdjcbeiibaaDoorW.PrintMore
attribute [local go_sem] max2_int max_two
set_option linter.unusedVariables false
set_option linter.unusedSimpArgs false
def packhorselaw11_empty.f  : Option (Int × Int × Int × Int × Int × ByteArray × ByteArray × ByteArray × List ByteArray) := some (1, 0, 0, 1, 1, (⟨#[99]⟩ : ByteArray), (⟨#[122]⟩ : ByteArray), (⟨#[115]⟩ : ByteArray), ([] : List ByteArray))
set_option maxHeartbeats 8000000 in
set_option maxRecDepth 100000 in
theorem packhorselaw11_empty.calls  (r1 : Int) (r2 : Int) (r3 : Int) (r4 : Int) (r5 : Int) (r6 : ByteArray) (r7 : ByteArray) (r8 : ByteArray) (r9 : List ByteArray) (w : World) (h : packhorselaw11_empty.f  = some (r1, r2, r3, r4, r5, r6, r7, r8, r9)) :
    Calls Tryd.prog 12 #[] w fun e w' => ∃ v8_ : Value, e = .returned (.agg #[.int .i64 r1, .int .i64 r2, .int .i64 r3, .int .i64 r4, .int .i64 r5, .string r6, .string r7, .string r8, v8_]) ∧ Kd.R Kd.string 9 w' w.heap.size (fun _ => True) v8_ r9 ∧ Below w.heap.size w w' := by
  have hu31 := Tryd.underlying31; have hu28 := Tryd.underlying28; have HB := am (Below.refl w.heap.size w); have H : (some (1, 0, 0, 1, 1, (⟨#[99]⟩ : ByteArray), (⟨#[122]⟩ : ByteArray), (⟨#[115]⟩ : ByteArray), ([] : List ByteArray))) = some (r1, r2, r3, r4, r5, r6, r7, r8, r9) := h; clear h; simp only [Option.some.injEq, Prod.mk.injEq] at H; obtain ⟨rfl, rfl, rfl, rfl, rfl, rfl, rfl, rfl, rfl⟩ := H
  go_enter Tryd.func12, Tryd.ntmps12
  go_wp2_with (first | ((with_reducible refine gate_dst (N := 0) rfl ?_); refine box_event ?hg (N := 0) ?hd (cs := #[.int .i64 0, .int .i64 0, .int .i64 0, .int .i64 0, .int .i64 0, .string ⟨#[]⟩, .string ⟨#[]⟩, .string ⟨#[]⟩, .slice none 0 0]) (t := 31) ?hr ?_; (case hd => rfl); (case hg => rfl); (case hr => first | (go_simp; done) | (go_simp; rfl)); intro gb101 hg w1 hbox hb; have _ := am (below_step (beu HB.out) hb); have _ := am (hbox); have _ := am ((by rw [hg]; exact (below_size (beu HB.out)) : w.heap.size ≤ gb101)); have _ := am ((by rw [hg]; exact (below_size (beu HB.out)) : w.heap.size ≤ gb101)); clear HB; rename_i HB BK101 GW101 GE101; clear hb hbox hg; obtain ⟨_, _, _, _, _, _, _, _, _⟩ := cells9 BK101.out; obtain ⟨_, _, _, _, _, _, _, _, _⟩ := frozens9 BK101.out))
  refine bodyPost_ret (results_cell_row rfl _ _ gb101 31 #[.int .i64 1, .int .i64 0, .int .i64 0, .int .i64 1, .int .i64 1, .string (⟨#[99]⟩ : ByteArray), .string (⟨#[122]⟩ : ByteArray), .string (⟨#[115]⟩ : ByteArray), .slice none 0 0] (0, 0) _ rfl (by (with_reducible repeat (first | refine blk_drewN ?_ _ | refine blk_drew ?_ | refine blk_alloc ?_ _)); refine blk_put (cs := #[.int .i64 1, .int .i64 0, .int .i64 0, .int .i64 1, .int .i64 1, .string (⟨#[99]⟩ : ByteArray), .string (⟨#[122]⟩ : ByteArray), .string (⟨#[115]⟩ : ByteArray), .slice none 0 0]) ?_ 8 _ rfl; (with_reducible repeat (first | refine blk_drewN ?_ _ | refine blk_drew ?_ | refine blk_alloc ?_ _)); refine blk_put (cs := #[.int .i64 1, .int .i64 0, .int .i64 0, .int .i64 1, .int .i64 1, .string (⟨#[99]⟩ : ByteArray), .string (⟨#[122]⟩ : ByteArray), .string ⟨#[]⟩, .slice none 0 0]) ?_ 7 _ rfl; (with_reducible repeat (first | refine blk_drewN ?_ _ | refine blk_drew ?_ | refine blk_alloc ?_ _)); refine blk_put (cs := #[.int .i64 1, .int .i64 0, .int .i64 0, .int .i64 1, .int .i64 1, .string (⟨#[99]⟩ : ByteArray), .string ⟨#[]⟩, .string ⟨#[]⟩, .slice none 0 0]) ?_ 6 _ rfl; (with_reducible repeat (first | refine blk_drewN ?_ _ | refine blk_drew ?_ | refine blk_alloc ?_ _)); refine blk_put (cs := #[.int .i64 1, .int .i64 0, .int .i64 0, .int .i64 1, .int .i64 1, .string ⟨#[]⟩, .string ⟨#[]⟩, .string ⟨#[]⟩, .slice none 0 0]) ?_ 5 _ rfl; (with_reducible repeat (first | refine blk_drewN ?_ _ | refine blk_drew ?_ | refine blk_alloc ?_ _)); refine blk_put (cs := #[.int .i64 1, .int .i64 0, .int .i64 0, .int .i64 1, .int .i64 0, .string ⟨#[]⟩, .string ⟨#[]⟩, .string ⟨#[]⟩, .slice none 0 0]) ?_ 4 _ rfl; (with_reducible repeat (first | refine blk_drewN ?_ _ | refine blk_drew ?_ | refine blk_alloc ?_ _)); refine blk_put (cs := #[.int .i64 1, .int .i64 0, .int .i64 0, .int .i64 0, .int .i64 0, .string ⟨#[]⟩, .string ⟨#[]⟩, .string ⟨#[]⟩, .slice none 0 0]) ?_ 3 _ rfl; (with_reducible repeat (first | refine blk_drewN ?_ _ | refine blk_drew ?_ | refine blk_alloc ?_ _)); refine blk_put (cs := #[.int .i64 1, .int .i64 0, .int .i64 0, .int .i64 0, .int .i64 0, .string ⟨#[]⟩, .string ⟨#[]⟩, .string ⟨#[]⟩, .slice none 0 0]) ?_ 2 _ rfl; (with_reducible repeat (first | refine blk_drewN ?_ _ | refine blk_drew ?_ | refine blk_alloc ?_ _)); refine blk_put (cs := #[.int .i64 1, .int .i64 0, .int .i64 0, .int .i64 0, .int .i64 0, .string ⟨#[]⟩, .string ⟨#[]⟩, .string ⟨#[]⟩, .slice none 0 0]) ?_ 1 _ rfl; (with_reducible repeat (first | refine blk_drewN ?_ _ | refine blk_drew ?_ | refine blk_alloc ?_ _)); refine blk_put (cs := #[.int .i64 0, .int .i64 0, .int .i64 0, .int .i64 0, .int .i64 0, .string ⟨#[]⟩, .string ⟨#[]⟩, .string ⟨#[]⟩, .slice none 0 0]) ?_ 0 _ rfl; (with_reducible repeat (first | refine blk_drewN ?_ _ | refine blk_drew ?_ | refine blk_alloc ?_ _)); exact BK101.out) Tryd.underlying31 rfl (by kernel_rfl)) rfl ?_; exact ⟨_, ap4, by first | exact Kd.R_nil _ _ _ _ _ | exact Kd.N_nil _ _ _ _ _ | exact Kd.V_nil _ _ _ _ _ | exact Kd.Q_nil _ _ _ _ _ | exact Kd.S_nil _ _ _ _ _, beu HB.out⟩
def tally_Right.f (a0 : Int) : Option (Bool) := if a0 ≥ 0 then (some (decide (a0 ≤ 1000000000000))) else (some false)
set_option maxHeartbeats 8000000 in
set_option maxRecDepth 100000 in
theorem tally_Right.calls (a0 : Int) (r : Bool) (w : World) (h : tally_Right.f a0 = some r) :
    Calls Tryd.prog 31 #[.int .i64 a0] w fun e w' => e = .returned (.bool r) ∧ Drawn0 w w' := by
  have H : (if a0 ≥ 0 then (some (decide (a0 ≤ 1000000000000))) else (some false)) = some r := h; clear h
  by_cases c2 : a0 ≥ 0
  · rw [if_pos c2] at H
    have c2b0 : decide (0 ≤ a0) = true := decide_eq_true c2; clear c2; obtain rfl := Option.some.inj H; simp only [Option.some.injEq, Prod.mk.injEq] at H; obtain ⟨rfl⟩ := H
    go_enter Tryd.func31, Tryd.ntmps31
    go_wp2
    go_ret
    exact ⟨ap3, ap5⟩
  · rw [if_neg c2] at H
    have c2b0 : decide (0 ≤ a0) = false := decide_eq_false c2; clear c2; obtain rfl := Option.some.inj H; simp only [Option.some.injEq, Prod.mk.injEq] at H; obtain ⟨rfl⟩ := H
    go_enter Tryd.func31, Tryd.ntmps31
    go_wp2
    go_ret
    exact ⟨ap3, ap5⟩
def tally_told.f (a0 : Int) : Option (Int × Int) := (tally_Right.f a0).bind fun t102 => (if t102 = true then (some (a0, 0)) else (some (0, 21)))
set_option maxHeartbeats 8000000 in
set_option maxRecDepth 100000 in
theorem tally_told.calls (a0 : Int) (r1 : Int) (r2 : Int) (w : World) (h : tally_told.f a0 = some (r1, r2)) :
    Calls Tryd.prog 56 #[.int .i64 a0] w fun e w' => e = .returned (.tuple #[.int .i64 r1, .int .i64 r2]) ∧ Drawn0 w w' := by
  have H : ((tally_Right.f a0).bind fun t102 => (if t102 = true then (some (a0, 0)) else (some (0, 21)))) = some (r1, r2) := h; clear h; replace H := obm H; obtain ⟨t102, A20, H⟩ := H; replace H : (if t102 = true then (some (a0, 0)) else (some (0, 21))) = some (r1, r2) := H; have A2 := am A20; clear A20
  by_cases c3 : t102 = true
  · subst c3
    have H1 : (some (a0, 0)) = some (r1, r2) := by rw [if_pos rfl] at H; exact H
    clear H; have H := H1; clear H1; simp only [Option.some.injEq, Prod.mk.injEq] at H; obtain ⟨rfl, rfl⟩ := H
    go_enter Tryd.func56, Tryd.ntmps56
    go_wp2_with (first | ((with_reducible refine gate_callee (f := 31) rfl ?_); refine goesL_ (some 5) rfl rfl Tryd.func31 (by kernel_rfl) rfl #[.int .i64 a0] rfl ap1 ?_; (with_reducible refine (tally_Right.calls a0 true _ A2.out).mono ?_); rintro e w' ⟨rfl, ⟨nd, rfl⟩⟩; refine ⟨_, rfl, ?_⟩))
    go_ret2
    exact ⟨ap3, ap5⟩
  · replace c3 := Bool.eq_false_iff.mpr c3
    subst c3
    have H1 : (some (0, 21)) = some (r1, r2) := by rw [if_neg (show ¬ (false = true) by decide)] at H; exact H
    clear H; have H := H1; clear H1; simp only [Option.some.injEq, Prod.mk.injEq] at H; obtain ⟨rfl, rfl⟩ := H
    go_enter Tryd.func56, Tryd.ntmps56
    go_wp2_with (first | ((with_reducible refine gate_callee (f := 31) rfl ?_); refine goesL_ (some 5) rfl rfl Tryd.func31 (by kernel_rfl) rfl #[.int .i64 a0] rfl ap1 ?_; (with_reducible refine (tally_Right.calls a0 false _ A2.out).mono ?_); rintro e w' ⟨rfl, ⟨nd, rfl⟩⟩; refine ⟨_, rfl, ?_⟩))
    go_ret2
    exact ⟨ap3, ap5⟩
def tally_Add.f (a0 : Int) (a1 : Int) : Option (Int × Int) := (tally_Right.f a0).bind fun t103 => (if t103 = true then ((tally_Right.f a1).bind fun t104 => (if t104 = true then ((tally_told.f (wrap64 (a0 + a1))).bind fun bt105 => (some (bt105.1, bt105.2))) else (some (0, 21)))) else (some (0, 21)))
set_option maxHeartbeats 8000000 in
set_option maxRecDepth 100000 in
theorem tally_Add.calls (a0 : Int) (a1 : Int) (r1 : Int) (r2 : Int) (w : World) (h : tally_Add.f a0 a1 = some (r1, r2)) :
    Calls Tryd.prog 32 #[.int .i64 a0, .int .i64 a1] w fun e w' => e = .returned (.tuple #[.int .i64 r1, .int .i64 r2]) ∧ Drawn0 w w' := by
  have H : ((tally_Right.f a0).bind fun t103 => (if t103 = true then ((tally_Right.f a1).bind fun t104 => (if t104 = true then ((tally_told.f (wrap64 (a0 + a1))).bind fun bt105 => (some (bt105.1, bt105.2))) else (some (0, 21)))) else (some (0, 21)))) = some (r1, r2) := h; clear h; replace H := obm H; obtain ⟨t103, A30, H⟩ := H; replace H : (if t103 = true then ((tally_Right.f a1).bind fun t104 => (if t104 = true then ((tally_told.f (wrap64 (a0 + a1))).bind fun bt105 => (some (bt105.1, bt105.2))) else (some (0, 21)))) else (some (0, 21))) = some (r1, r2) := H; have A3 := am A30; clear A30
  by_cases c4 : t103 = true
  · subst c4
    have H1 : ((tally_Right.f a1).bind fun t104 => (if t104 = true then ((tally_told.f (wrap64 (a0 + a1))).bind fun bt105 => (some (bt105.1, bt105.2))) else (some (0, 21)))) = some (r1, r2) := by rw [if_pos rfl] at H; exact H
    clear H; have H := H1; clear H1; replace H := obm H; obtain ⟨t104, A50, H⟩ := H; replace H : (if t104 = true then ((tally_told.f (wrap64 (a0 + a1))).bind fun bt105 => (some (bt105.1, bt105.2))) else (some (0, 21))) = some (r1, r2) := H; have A5 := am A50; clear A50
    by_cases c6 : t104 = true
    · subst c6
      have H1 : ((tally_told.f (wrap64 (a0 + a1))).bind fun bt105 => (some (bt105.1, bt105.2))) = some (r1, r2) := by rw [if_pos rfl] at H; exact H
      clear H; have H := H1; clear H1; replace H := obm H; obtain ⟨⟨t105, t106⟩, A70, H⟩ := H; replace H : (some (t105, t106)) = some (r1, r2) := H; have A7 := am A70; clear A70; simp only [Option.some.injEq, Prod.mk.injEq] at H; obtain ⟨rfl, rfl⟩ := H
      go_enter Tryd.func32, Tryd.ntmps32
      go_wp2_with (first | ((with_reducible refine gate_callee (f := 31) rfl ?_); refine goesL_ (some 7) rfl rfl Tryd.func31 (by kernel_rfl) rfl #[.int .i64 a0] rfl ap1 ?_; (with_reducible refine (tally_Right.calls a0 true _ A3.out).mono ?_); rintro e w' ⟨rfl, ⟨nd, rfl⟩⟩; refine ⟨_, rfl, ?_⟩) | (go_at_call 31; (with_reducible refine (tally_Right.calls a1 true _ A5.out).mono ?_); rintro e w' ⟨rfl, ⟨nd, rfl⟩⟩) | ((with_reducible refine gate_callee (f := 56) rfl ?_); refine goesL_ (some 17) rfl rfl Tryd.func56 (by kernel_rfl) rfl #[.int .i64 (wrap64 (a0 + a1))] rfl ap1 ?_; (with_reducible refine (tally_told.calls (wrap64 (a0 + a1)) t105 t106 _ A7.out).mono ?_); rintro e w' ⟨rfl, ⟨nd, rfl⟩⟩; refine ⟨_, rfl, ?_⟩))
      go_ret2
      exact ⟨ap3, ap5⟩
    · replace c6 := Bool.eq_false_iff.mpr c6
      subst c6
      have H1 : (some (0, 21)) = some (r1, r2) := by rw [if_neg (show ¬ (false = true) by decide)] at H; exact H
      clear H; have H := H1; clear H1; simp only [Option.some.injEq, Prod.mk.injEq] at H; obtain ⟨rfl, rfl⟩ := H
      go_enter Tryd.func32, Tryd.ntmps32
      go_wp2_with (first | ((with_reducible refine gate_callee (f := 31) rfl ?_); refine goesL_ (some 7) rfl rfl Tryd.func31 (by kernel_rfl) rfl #[.int .i64 a0] rfl ap1 ?_; (with_reducible refine (tally_Right.calls a0 true _ A3.out).mono ?_); rintro e w' ⟨rfl, ⟨nd, rfl⟩⟩; refine ⟨_, rfl, ?_⟩) | (go_at_call 31; (with_reducible refine (tally_Right.calls a1 false _ A5.out).mono ?_); rintro e w' ⟨rfl, ⟨nd, rfl⟩⟩))
      go_ret2
      exact ⟨ap3, ap5⟩
  · replace c4 := Bool.eq_false_iff.mpr c4
    subst c4
    have H1 : (some (0, 21)) = some (r1, r2) := by rw [if_neg (show ¬ (false = true) by decide)] at H; exact H
    clear H; have H := H1; clear H1; simp only [Option.some.injEq, Prod.mk.injEq] at H; obtain ⟨rfl, rfl⟩ := H
    go_enter Tryd.func32, Tryd.ntmps32
    go_wp2_with (first | ((with_reducible refine gate_callee (f := 31) rfl ?_); refine goesL_ (some 7) rfl rfl Tryd.func31 (by kernel_rfl) rfl #[.int .i64 a0] rfl ap1 ?_; (with_reducible refine (tally_Right.calls a0 false _ A3.out).mono ?_); rintro e w' ⟨rfl, ⟨nd, rfl⟩⟩; refine ⟨_, rfl, ?_⟩))
    go_ret2
    exact ⟨ap3, ap5⟩
def label_letter.f (a0 : Int) : Option (Bool) := if 97 ≤ a0 then (if a0 ≤ 122 then (some true) else (if 945 ≤ a0 then (some (decide (a0 ≤ 969))) else (some false))) else (if 945 ≤ a0 then (some (decide (a0 ≤ 969))) else (some false))
set_option maxHeartbeats 8000000 in
set_option maxRecDepth 100000 in
theorem label_letter.calls (a0 : Int) (r : Bool) (w : World) (h : label_letter.f a0 = some r) :
    Calls Tryd.prog 62 #[.int .i32 a0] w fun e w' => e = .returned (.bool r) ∧ Drawn0 w w' := by
  have H : (if 97 ≤ a0 then (if a0 ≤ 122 then (some true) else (if 945 ≤ a0 then (some (decide (a0 ≤ 969))) else (some false))) else (if 945 ≤ a0 then (some (decide (a0 ≤ 969))) else (some false))) = some r := h; clear h
  by_cases c2 : 97 ≤ a0
  · rw [if_pos c2] at H
    have c2b0 : decide (97 ≤ a0) = true := decide_eq_true c2; clear c2
    by_cases c3 : a0 ≤ 122
    · rw [if_pos c3] at H
      have c3b0 : decide (a0 ≤ 122) = true := decide_eq_true c3; clear c3; obtain rfl := Option.some.inj H; simp only [Option.some.injEq, Prod.mk.injEq] at H; obtain ⟨rfl⟩ := H
      go_enter Tryd.func62, Tryd.ntmps62
      go_wp2
      go_ret
      exact ⟨ap3, ap5⟩
    · rw [if_neg c3] at H
      have c3b0 : decide (a0 ≤ 122) = false := decide_eq_false c3; clear c3
      by_cases c4 : 945 ≤ a0
      · rw [if_pos c4] at H
        have c4b0 : decide (945 ≤ a0) = true := decide_eq_true c4; clear c4; obtain rfl := Option.some.inj H; simp only [Option.some.injEq, Prod.mk.injEq] at H; obtain ⟨rfl⟩ := H
        go_enter Tryd.func62, Tryd.ntmps62
        go_wp2
        go_ret
        exact ⟨ap3, ap5⟩
      · rw [if_neg c4] at H
        have c4b0 : decide (945 ≤ a0) = false := decide_eq_false c4; clear c4; obtain rfl := Option.some.inj H; simp only [Option.some.injEq, Prod.mk.injEq] at H; obtain ⟨rfl⟩ := H
        go_enter Tryd.func62, Tryd.ntmps62
        go_wp2
        go_ret
        exact ⟨ap3, ap5⟩
  · rw [if_neg c2] at H
    have c2b0 : decide (97 ≤ a0) = false := decide_eq_false c2; clear c2
    by_cases c5 : 945 ≤ a0
    · rw [if_pos c5] at H
      have c5b0 : decide (945 ≤ a0) = true := decide_eq_true c5; clear c5; obtain rfl := Option.some.inj H; simp only [Option.some.injEq, Prod.mk.injEq] at H; obtain ⟨rfl⟩ := H
      go_enter Tryd.func62, Tryd.ntmps62
      go_wp2
      go_ret
      exact ⟨ap3, ap5⟩
    · rw [if_neg c5] at H
      have c5b0 : decide (945 ≤ a0) = false := decide_eq_false c5; clear c5; obtain rfl := Option.some.inj H; simp only [Option.some.injEq, Prod.mk.injEq] at H; obtain ⟨rfl⟩ := H
      go_enter Tryd.func62, Tryd.ntmps62
      go_wp2
      go_ret
      exact ⟨ap3, ap5⟩
def label_digit.f (a0 : Int) : Option (Bool) := if 48 ≤ a0 then (some (decide (a0 ≤ 57))) else (some false)
set_option maxHeartbeats 8000000 in
set_option maxRecDepth 100000 in
theorem label_digit.calls (a0 : Int) (r : Bool) (w : World) (h : label_digit.f a0 = some r) :
    Calls Tryd.prog 63 #[.int .i32 a0] w fun e w' => e = .returned (.bool r) ∧ Drawn0 w w' := by
  have H : (if 48 ≤ a0 then (some (decide (a0 ≤ 57))) else (some false)) = some r := h; clear h
  by_cases c2 : 48 ≤ a0
  · rw [if_pos c2] at H
    have c2b0 : decide (48 ≤ a0) = true := decide_eq_true c2; clear c2; obtain rfl := Option.some.inj H; simp only [Option.some.injEq, Prod.mk.injEq] at H; obtain ⟨rfl⟩ := H
    go_enter Tryd.func63, Tryd.ntmps63
    go_wp2
    go_ret
    exact ⟨ap3, ap5⟩
  · rw [if_neg c2] at H
    have c2b0 : decide (48 ≤ a0) = false := decide_eq_false c2; clear c2; obtain rfl := Option.some.inj H; simp only [Option.some.injEq, Prod.mk.injEq] at H; obtain ⟨rfl⟩ := H
    go_enter Tryd.func63, Tryd.ntmps63
    go_wp2
    go_ret
    exact ⟨ap3, ap5⟩
def label_Signs.f (a0 : ByteArray) : Option (Int) := if a0.size ≤ 140737488351232 then some (Go.Proofs.YtapfpdjcbeiibaaDoor.Lab.signs a0) else none
theorem label_letter_nat (c : Nat) : label_letter.f (c : Int) = some (Go.Proofs.YtapfpdjcbeiibaaDoor.Lab.letter c) := by
  unfold label_letter.f Go.Proofs.YtapfpdjcbeiibaaDoor.Lab.letter
  by_cases h1 : 97 ≤ c
  · rw [if_pos (by omega)]
    by_cases h2 : c ≤ 122
    · rw [if_pos (by omega)]; simp [h1, h2]
    · rw [if_neg (by omega)]
      by_cases h3 : 945 ≤ c
      · rw [if_pos (by omega)]; simp [h2, h3]; omega
      · rw [if_neg (by omega)]; simp [h2, h3]
  · rw [if_neg (by omega), if_neg (by omega)]
    have h3 : ¬ 945 ≤ c := by omega
    simp [h1, h3]
theorem label_digit_nat (c : Nat) : label_digit.f (c : Int) = some (decide (48 ≤ c) && decide (c ≤ 57)) := by
  unfold label_digit.f
  by_cases h1 : 48 ≤ c
  · rw [if_pos (by omega)]; simp [h1]; omega
  · rw [if_neg (by omega)]; simp [h1]
set_option maxHeartbeats 8000000 in
set_option maxRecDepth 100000 in
theorem label_Signs.calls (a0 : ByteArray) (r : Int) (w : World) (hT : Tabs w) (h : label_Signs.f a0 = some r) :
    Calls Tryd.prog 57 #[.string a0] w fun e w' => e = .returned (.int .i64 r) ∧ Below w.heap.size w w' := by
  have hsz : a0.size ≤ 140737488351232 := by
    by_cases c : a0.size ≤ 140737488351232
    · exact c
    · rw [label_Signs.f, if_neg c] at h; cases h
  obtain rfl : Go.Proofs.YtapfpdjcbeiibaaDoor.Lab.signs a0 = r := by rw [label_Signs.f, if_pos hsz] at h; exact Option.some.inj h
  clear h
  unfold Go.Proofs.YtapfpdjcbeiibaaDoor.Lab.signs
  obtain ⟨ANS, hANS⟩ : ∃ ANS, Go.Proofs.YtapfpdjcbeiibaaDoor.Lab.scan a0 a0.size 0 0 = ANS := ⟨_, rfl⟩
  have hA0 : -1 ≤ ANS ∧ ANS ≤ 140737488351232 := by
    rw [← hANS]; have := Go.Proofs.YtapfpdjcbeiibaaDoor.Lab.scan_le a0 a0.size 0 0; omega
  rw [hANS]; obtain ⟨RES, hRES⟩ : ∃ RES : Int, (if ANS ≤ 0 ∨ 16 < ANS ∨ Lib.validD a0.data.toList = false then -1 else ANS) = RES := ⟨_, rfl⟩; rw [hRES]; have HR := am hRES; clear hRES; have HTA := am hT; clear hT
  go_enter Tryd.func57, Tryd.ntmps57
  go_wp2
  go_loopg [3] a0.size (fun g s3 wx => ∃ (v : World) (pos n : Nat), wx = v.iter a0 pos ∧ v.heap.size = w.heap.size ∧ Below w.heap.size w v ∧ s3 = .int .i64 (n : Int) ∧ n ≤ pos ∧ a0.size ≤ pos + g ∧ Go.Proofs.YtapfpdjcbeiibaaDoor.Lab.scan a0 g pos n = ANS)
  case atStart => exact ⟨w, 0, 0, rfl, rfl, Below.refl _ _, rfl, by omega, by omega, hANS⟩
  case round =>
    obtain ⟨v, pos, n, rfl, hv, hbv, rfl, hnp, hpg, hsc⟩ := hrel; clear hANS
    by_cases hp : pos < a0.size
    · obtain ⟨g', rfl⟩ : ∃ g', gk = g' + 1 := ⟨gk - 1, by omega⟩
      rw [Go.Proofs.YtapfpdjcbeiibaaDoor.Lab.scan_step a0 g' pos n hp] at hsc
      have hnx := fun ty => run_next_any (P := Tryd.prog) v a0 pos ty hp
      rw [hv] at hnx; have hw1 := Lib.width_pos a0 pos; generalize Utf8.decode a0 pos = d at hsc hnx hw1; obtain ⟨c, wd⟩ := d; have hL := label_letter_nat c; have hD := label_digit_nat c; simp only at hsc hnx hw1; have Hsc := am hsc; clear hsc; have Hbv := am hbv; clear hbv
      have hwr : IntKind.i64.wrap ((n : Int) + 1) = (n : Int) + 1 := by rw [IntKind.wrap_i64]; omega
      cases cL : Go.Proofs.YtapfpdjcbeiibaaDoor.Lab.letter c
      · rw [cL] at hL
        have Hc := am cL; clear cL
        by_cases n0 : n = 0
        · subst n0
          go_wp2_with (first | (go_at_call 62; refine (label_letter.calls (c : Int) _ _ hL).mono ?_; rintro e w' ⟨rfl, nd, rfl⟩) | (go_at_call 63; refine (label_digit.calls (c : Int) _ _ hD).mono ?_; rintro e w' ⟨rfl, nd2, rfl⟩))
          go_ret
          have h2 := Hsc.out; rw [Hc.out] at h2; simp at h2; have h3 := HR.out; rw [if_pos (by omega)] at h3; subst h3; exact ⟨rfl, pw_below_drewN (show Below w.heap.size w (v.iter a0 (pos + wd)) from Hbv.out.alloc (Nat.le_of_eq hv.symm) _) nd⟩
        · have n1 : ((n : Int) == 0) = false := by simp [n0]
          have HN := am (show decide (0 < n) = true by simp; omega)
          cases cD : (decide (48 ≤ c) && decide (c ≤ 57))
          · rw [cD] at hD
            have Hd := am cD; clear cD
            by_cases c45 : c = 45
            · have m1 : ((c : Int) != 45) = false := by simp [c45]
              have H45 := am c45; clear c45
              go_wp2_with (first | (go_at_call 62; refine (label_letter.calls (c : Int) _ _ hL).mono ?_; rintro e w' ⟨rfl, nd, rfl⟩) | (go_at_call 63; refine (label_digit.calls (c : Int) _ _ hD).mono ?_; rintro e w' ⟨rfl, nd2, rfl⟩))
              go_roundg g'
              case measure => omega
              case rel => exact ⟨v.drewN (nd + nd2), pos + wd, n + 1, rfl, hv, pw_below_drewN Hbv.out (nd + nd2), congrArg (Value.int .i64) (by omega), by omega, by omega, by have h2 := Hsc.out; rw [Hc.out, HN.out, show Go.Proofs.YtapfpdjcbeiibaaDoor.Lab.behind c = true by unfold Go.Proofs.YtapfpdjcbeiibaaDoor.Lab.behind; rw [Hd.out, H45.out]; rfl] at h2; exact h2⟩
            · have m1 : ((c : Int) != 45) = true := by simp; omega
              have H45 := am c45; clear c45
              go_wp2_with (first | (go_at_call 62; refine (label_letter.calls (c : Int) _ _ hL).mono ?_; rintro e w' ⟨rfl, nd, rfl⟩) | (go_at_call 63; refine (label_digit.calls (c : Int) _ _ hD).mono ?_; rintro e w' ⟨rfl, nd2, rfl⟩))
              go_ret
              have h2 := Hsc.out; rw [Hc.out, HN.out, show Go.Proofs.YtapfpdjcbeiibaaDoor.Lab.behind c = false by unfold Go.Proofs.YtapfpdjcbeiibaaDoor.Lab.behind; rw [Hd.out, decide_eq_false H45.out]; rfl] at h2; simp at h2; have h3 := HR.out; rw [if_pos (by omega)] at h3; subst h3; exact ⟨rfl, pw_below_drewN (show Below w.heap.size w (v.iter a0 (pos + wd)) from Hbv.out.alloc (Nat.le_of_eq hv.symm) _) (nd + nd2)⟩
          · rw [cD] at hD
            have Hd := am cD; clear cD
            go_wp2_with (first | (go_at_call 62; refine (label_letter.calls (c : Int) _ _ hL).mono ?_; rintro e w' ⟨rfl, nd, rfl⟩) | (go_at_call 63; refine (label_digit.calls (c : Int) _ _ hD).mono ?_; rintro e w' ⟨rfl, nd2, rfl⟩))
            go_roundg g'
            case measure => omega
            case rel => exact ⟨v.drewN (nd + nd2), pos + wd, n + 1, rfl, hv, pw_below_drewN Hbv.out (nd + nd2), congrArg (Value.int .i64) (by omega), by omega, by omega, by have h2 := Hsc.out; rw [Hc.out, HN.out, show Go.Proofs.YtapfpdjcbeiibaaDoor.Lab.behind c = true by unfold Go.Proofs.YtapfpdjcbeiibaaDoor.Lab.behind; rw [Hd.out]; rfl] at h2; exact h2⟩
      · rw [cL] at hL
        have Hc := am cL; clear cL
        go_wp2_with (first | (go_at_call 62; refine (label_letter.calls (c : Int) _ _ hL).mono ?_; rintro e w' ⟨rfl, nd, rfl⟩) | (go_at_call 63; refine (label_digit.calls (c : Int) _ _ hD).mono ?_; rintro e w' ⟨rfl, nd2, rfl⟩))
        go_roundg g'
        case measure => omega
        case rel => exact ⟨v.drewN nd, pos + wd, n + 1, rfl, hv, pw_below_drewN Hbv.out nd, congrArg (Value.int .i64) (by omega), by omega, by omega, by have h2 := Hsc.out; rw [Hc.out] at h2; exact h2⟩
    · have hnx := fun ty => run_next_end (P := Tryd.prog) v a0 pos ty hp
      rw [hv] at hnx; rw [Go.Proofs.YtapfpdjcbeiibaaDoor.Lab.scan_end a0 gk pos n hp] at hsc; have Hbv := am hbv; clear hbv; have Hb2 := am (show Below w.heap.size w (v.iter a0 pos) from Hbv.out.alloc (Nat.le_of_eq hv.symm) _); clear hA0 hpg hp
      by_cases n0 : n = 0
      · subst n0
        go_wp2_with fail
        go_ret
        have h3 := HR.out; rw [if_pos (by omega)] at h3; subst h3; exact ⟨rfl, Hb2.out⟩
      · have n1 : ((n : Int) == 0) = false := by simp [n0]
        by_cases n16 : 16 < n
        · have n2 : (16 : Int) < (n : Int) := by omega
          go_wp2_with fail
          go_ret
          have h3 := HR.out; rw [if_pos (by omega)] at h3; subst h3; exact ⟨rfl, Hb2.out⟩
        · have n2 : decide ((16 : Int) < (n : Int)) = false := decide_eq_false (by omega)
          have cV := am (show Calls Tryd.prog 64 #[.string a0] (v.iter a0 pos) _ from Any.utf8_ValidString Tryd.laysValid a0 (v.iter a0 pos) (by omega) (Tabs.u8 (Tabs.below HTA.out Hb2.out))); have Hsc := am hsc; have Hn := am (show (n : Int) ≤ 16 ∧ 0 < (n : Int) by omega); clear hsc; have HV := am (rfl : Lib.validD a0.data.toList = Lib.validD a0.data.toList); generalize hVV : Lib.validD a0.data.toList = V at cV HR; clear HV
          cases V
          · go_wp2_with (go_at_call 64; refine cV.out.mono ?_; rintro e w' ⟨rfl, hb⟩)
            go_ret
            have h3 := HR.out; rw [if_pos (by simp)] at h3; subst h3; exact ⟨rfl, below_step Hb2.out hb⟩
          · go_wp2_with (go_at_call 64; refine cV.out.mono ?_; rintro e w' ⟨rfl, hb⟩)
            go_ret
            have h3 := HR.out; have h4 := Hsc.out; have h5 := Hn.out
            rw [if_neg (by rintro (h | h | h); · omega
                           · omega
                           · cases h)] at h3
            subst h3; subst h4; exact ⟨rfl, below_step Hb2.out hb⟩
def label_Right.f (a0 : ByteArray) : Option (Bool) := (label_Signs.f a0).bind fun t114 => (some (decide (t114 > 0)))
set_option maxHeartbeats 8000000 in
set_option maxRecDepth 100000 in
theorem label_Right.calls (a0 : ByteArray) (r : Bool) (w : World) (hT : Tabs w) (h : label_Right.f a0 = some r) :
    Calls Tryd.prog 33 #[.string a0] w fun e w' => e = .returned (.bool r) ∧ Below w.heap.size w w' := by
  have HT := am hT; clear hT; have HB := am (Below.refl w.heap.size w); have H : ((label_Signs.f a0).bind fun t114 => (some (decide (t114 > 0)))) = some r := h; clear h; replace H := obm H; obtain ⟨t114, A20, H⟩ := H; replace H : (some (decide (t114 > 0))) = some r := H; have A2 := am A20; clear A20; obtain rfl := Option.some.inj H; simp only [Option.some.injEq, Prod.mk.injEq] at H; obtain ⟨rfl⟩ := H
  go_enter Tryd.func33, Tryd.ntmps33
  go_wp2_with (first | ((with_reducible refine gate_callee (f := 57) rfl ?_); refine goesL_ (some 4) rfl rfl Tryd.func57 (by kernel_rfl) rfl #[.string a0] rfl ap1 ?_; (with_reducible refine (label_Signs.calls a0 t114 _ ?side1 A2.out).mono ?_); (case side1 => first | (with_reducible exact HT.out) | exact Tabs.below HT.out (beu HB.out)); rintro e w3 ⟨rfl, hb⟩; refine ⟨_, rfl, ?_⟩; have _ := am (below_step (beu HB.out) hb); clear HB; rename_i HB; (try clear hb)))
  go_ret
  exact ⟨ap4, beu HB.out⟩
def slices_Index_string_string.l0 : Nat → List ByteArray → ByteArray → Int → Int → Option (Int)
  | 0, _, _, _, _ => none
  | k + 1, x0, x1, x7, x8 => if x8 < x7 then (if 0 ≤ x8 then (if x8 < (x0.length : Int) then (if x1.toList = (rdOf ByteArray.empty x0 x8).toList then (some x8) else (slices_Index_string_string.l0 k x0 x1 x7 (wrap64 (x8 + 1)))) else (none)) else (none)) else (some (-1))
def slices_Index_string_string.f (k : Nat) (l0 : List ByteArray) (a1 : ByteArray) : Option (Int) := slices_Index_string_string.l0 k l0 a1 (l0.length : Int) 0
theorem slices_Index_string_string.mono_l : ∀ k, (∀ y0 y1 y2 y3, LeO (slices_Index_string_string.l0 k y0 y1 y2 y3) (slices_Index_string_string.l0 (k + 1) y0 y1 y2 y3))
  | 0 => fun _ _ _ _ r h => by simp [slices_Index_string_string.l0] at h
  | k + 1 => by
    have ih0 := slices_Index_string_string.mono_l k
    · intro y0 y1 y2 y3
      unfold slices_Index_string_string.l0
      repeat' first
      | (with_reducible exact ih0 _ _ _ _)
      | (with_reducible exact LeO.refl _)
      | (with_reducible exact LeO.none _)
      | (with_reducible refine LeO.ite ?_ ?_)
      | (with_reducible refine LeO.bind ?_ (fun _ => ?_))
      | exact ih0 _ _ _ _
      | exact LeO.none _
      | refine LeO.ite ?_ ?_
      | refine LeO.bind ?_ (fun _ => ?_)
theorem slices_Index_string_string.mono : ∀ a0 a1 k, LeO (slices_Index_string_string.f k a0 a1) (slices_Index_string_string.f (k + 1) a0 a1) := by
  intro a0 a1 k; have ih0 := slices_Index_string_string.mono_l k
  unfold slices_Index_string_string.f
  repeat' first
      | (with_reducible exact ih0 _ _ _ _)
      | (with_reducible exact LeO.refl _)
      | (with_reducible exact LeO.none _)
      | (with_reducible refine LeO.ite ?_ ?_)
      | (with_reducible refine LeO.bind ?_ (fun _ => ?_))
      | exact ih0 _ _ _ _
      | exact LeO.none _
      | refine LeO.ite ?_ ?_
      | refine LeO.bind ?_ (fun _ => ?_)
set_option maxHeartbeats 8000000 in
set_option maxRecDepth 100000 in
theorem slices_Index_string_string.calls (k : Nat) (A0 : Option Addr) (c0 : Nat) (l0 : List ByteArray) (a1 : ByteArray) (r : Int) (w : World) (hr0 : Kd.C Kd.string w A0 l0.length l0) (hc0 : l0.length ≤ c0) (h : slices_Index_string_string.f k l0 a1 = some r) :
    Calls Tryd.prog 44 #[.slice A0 l0.length c0, .string a1] w fun e w' => e = .returned (.int .i64 r) ∧ Drawn0 w w' := by
  have HR0 := am hr0; have HC0 := am hc0; clear hr0 hc0; have H : (slices_Index_string_string.l0 k l0 a1 (l0.length : Int) 0) = some r := h; clear h; have H' := am H; clear H
  go_enter Tryd.func44, Tryd.ntmps44
  go_wp2
  go_loopg [8] k (fun kq v8 w' => ∃ (x8_1 : Int), v8 = .int .i64 x8_1 ∧ Aside0 (slices_Index_string_string.l0 kq l0 a1 (l0.length : Int) x8_1 = some r) ∧ Aside0 (kq ≤ k) ∧ Drawn0 w w')
  case atStart => exact ⟨(0), ap3, H', ⟨Nat.le_refl _⟩, ap5⟩
  case round =>
    clear H'; (try clear p2); obtain ⟨x8_1, rfl, HA, HK1, ⟨m1, rfl⟩⟩ := hrel
    cases gk with
    | zero => exact absurd HA.out (by simp [slices_Index_string_string.l0])
    | succ k1 =>
      have H := HA.out; clear HA; simp only [slices_Index_string_string.l0] at H
      by_cases c3 : x8_1 < (l0.length : Int)
      · rw [if_pos c3] at H
        have c3b0 : decide (x8_1 < (l0.length : Int)) = true := decide_eq_true c3; clear c3
        by_cases c4 : 0 ≤ x8_1
        · rw [if_pos c4] at H
          have c4b0 : decide (0 ≤ x8_1) = true := decide_eq_true c4; clear c4
          by_cases c5 : x8_1 < (l0.length : Int)
          · rw [if_pos c5] at H
            have c5b0 : decide (x8_1 < (l0.length : Int)) = true := decide_eq_true c5; clear c5
            by_cases c6 : a1.toList = (rdOf ByteArray.empty l0 x8_1).toList
            · rw [if_pos c6] at H
              have c6b0 : (a1.toList == (rdOf ByteArray.empty l0 x8_1).toList) = true := beq_iff_eq.mpr c6; have c6b1 : (a1.toList != (rdOf ByteArray.empty l0 x8_1).toList) = false := bne_eq_false_iff_eq.mpr c6; clear c6; obtain rfl := Option.some.inj H; simp only [Option.some.injEq, Prod.mk.injEq] at H; obtain ⟨rfl⟩ := H; have p115 : 0 ≤ (x8_1 : Int) := of_decide_eq_true ap2; have q115 : x8_1 < (l0.length : Int) := of_decide_eq_true ap2; obtain ⟨ad115, e115, hx115_0⟩ := Kd.at_string HR0.out x8_1 p115 q115
              cases e115
              replace p115 := eq_true p115; replace q115 := eq_true q115
              go_wp2
              go_ret
              exact ⟨ap3, ap5⟩
            · rw [if_neg c6] at H
              have c6b0 : (a1.toList == (rdOf ByteArray.empty l0 x8_1).toList) = false := beq_eq_false_iff_ne.mpr c6; have c6b1 : (a1.toList != (rdOf ByteArray.empty l0 x8_1).toList) = true := bne_iff_ne.mpr c6; have H' := am H; clear H; have p115 : 0 ≤ (x8_1 : Int) := of_decide_eq_true ap2; have q115 : x8_1 < (l0.length : Int) := of_decide_eq_true ap2; obtain ⟨ad115, e115, hx115_0⟩ := Kd.at_string HR0.out x8_1 p115 q115
              cases e115
              replace p115 := eq_true p115; replace q115 := eq_true q115
              go_wp2
              go_roundg k1
              case measure => have := HK1.out; omega
              case rel => exact ⟨(wrap64 (x8_1 + 1)), ap3, H', ⟨by have := HK1.out; omega⟩, ap5⟩
          · rw [if_neg c5] at H
            exact absurd H (by simp)
        · rw [if_neg c4] at H
          exact absurd H (by simp)
      · rw [if_neg c3] at H
        have c3b0 : decide (x8_1 < (l0.length : Int)) = false := decide_eq_false c3; clear c3; obtain rfl := Option.some.inj H; simp only [Option.some.injEq, Prod.mk.injEq] at H; obtain ⟨rfl⟩ := H
        go_wp2
        go_ret
        exact ⟨ap3, ap5⟩
def slices_Contains_string_string.f (k : Nat) (l0 : List ByteArray) (a1 : ByteArray) : Option (Bool) := (slices_Index_string_string.f k l0 a1).bind fun t116 => (some (decide (t116 ≥ 0)))
theorem slices_Contains_string_string.mono : ∀ a0 a1 k, LeO (slices_Contains_string_string.f k a0 a1) (slices_Contains_string_string.f (k + 1) a0 a1) := by
  intro a0 a1 k
  unfold slices_Contains_string_string.f
  repeat' first
      | (with_reducible exact slices_Index_string_string.mono _ _ _)
      | (with_reducible exact LeO.refl _)
      | (with_reducible exact LeO.none _)
      | (with_reducible refine LeO.ite ?_ ?_)
      | (with_reducible refine LeO.bind ?_ (fun _ => ?_))
      | exact slices_Index_string_string.mono _ _ _
      | exact LeO.none _
      | refine LeO.ite ?_ ?_
      | refine LeO.bind ?_ (fun _ => ?_)
set_option maxHeartbeats 8000000 in
set_option maxRecDepth 100000 in
theorem slices_Contains_string_string.calls (k : Nat) (A0 : Option Addr) (c0 : Nat) (l0 : List ByteArray) (a1 : ByteArray) (r : Bool) (w : World) (hr0 : Kd.C Kd.string w A0 l0.length l0) (hc0 : l0.length ≤ c0) (h : slices_Contains_string_string.f k l0 a1 = some r) :
    Calls Tryd.prog 34 #[.slice A0 l0.length c0, .string a1] w fun e w' => e = .returned (.bool r) ∧ Drawn0 w w' := by
  have HR0 := am hr0; have HC0 := am hc0; clear hr0 hc0; have H : ((slices_Index_string_string.f k l0 a1).bind fun t116 => (some (decide (t116 ≥ 0)))) = some r := h; clear h; replace H := obm H; obtain ⟨t116, A30, H⟩ := H; replace H : (some (decide (t116 ≥ 0))) = some r := H; have A3 := am A30; clear A30; obtain rfl := Option.some.inj H; simp only [Option.some.injEq, Prod.mk.injEq] at H; obtain ⟨rfl⟩ := H
  go_enter Tryd.func34, Tryd.ntmps34
  go_wp2_with (first | ((with_reducible refine gate_callee (f := 44) rfl ?_); refine goesL_ (some 7) rfl rfl Tryd.func44 (by kernel_rfl) rfl #[.slice A0 l0.length c0, .string a1] rfl ap1 ?_; (with_reducible refine (slices_Index_string_string.calls k _ _ l0 a1 t116 _ ?side1 ?side2 A3.out).mono ?_); (case side1 => repeat (first | exact HR0.out | (with_reducible refine Kd.C_alloc ?_ _) | (with_reducible refine Kd.C_drewN ?_ _) | (with_reducible refine Kd.C_drew ?_))); (case side2 => exact HC0.out); rintro e w' ⟨rfl, ⟨nd, rfl⟩⟩; refine ⟨_, rfl, ?_⟩))
  go_ret
  exact ⟨ap3, ap5⟩
def batch_Join.j0 : Nat → ByteArray → Int → Int → Bool → Int → Int → Int → Int → Int → ByteArray → ByteArray → ByteArray → List ByteArray → Int → Int → Option (Int × Int × Int × Int × Int × ByteArray × ByteArray × ByteArray × List ByteArray × Int)
  | 0, _, _, _, _, _, _, _, _, _, _, _, _, _, _, _ => none
  | k + 1, x2, x10, x11, x25, X0, X1, X2, X3, X4, X5, X6, X7, X8, X9, X10 => if x25 = true then (some (X0, X1, X2, X3, X4, X5, X6, X7, X8, 112)) else (if x11 = 0 then (if (X8.length : Int) > 0 then (if (X8.length : Int) ≥ X9 then (some (X0, X1, X2, X3, X4, X5, X6, X7, X8, 111)) else (if x10 > X10 then (some (X0, X1, X2, X3, X4, X5, X6, X7, X8, 111)) else (if 0 ≤ (X8.length : Int) then (if (X8.length : Int) ≤ (X8.length : Int) then ((some (X8.take ((X8.length : Int) : Int).toNat : List ByteArray)).bind fun y124 => (if y124.length < 8796093022208 then (some (X0, x10, X2, X3, X4, X5, X6, X7, (y124 ++ [x2]), 0)) else (none))) else (none)) else (none)))) else (if 0 ≤ (X8.length : Int) then (if (X8.length : Int) ≤ (X8.length : Int) then ((some (X8.take ((X8.length : Int) : Int).toNat : List ByteArray)).bind fun y132 => (if y132.length < 8796093022208 then (some (X0, x10, X2, X3, X4, X5, X6, X7, (y132 ++ [x2]), 0)) else (none))) else (none)) else (none))) else (some (X0, X1, X2, X3, X4, X5, X6, X7, X8, 111)))
def batch_Join.f (k : Nat) (a0_0 : Int) (a0_1 : Int) (a0_2 : Int) (a0_3 : Int) (a0_4 : Int) (a0_5 : ByteArray) (a0_6 : ByteArray) (a0_7 : ByteArray) (l0_8 : List ByteArray) (a1_0 : Int) (a1_1 : Int) (a2 : ByteArray) (a3 : Int) : Option (Int × Int × Int × Int × Int × ByteArray × ByteArray × ByteArray × List ByteArray × Int) := (tally_Add.f a0_1 a3).bind fun bt120 => (if a0_4 = 1 then ((label_Right.f a2).bind fun t122 => (if t122 = true then ((slices_Contains_string_string.f k l0_8 a2).bind fun t123 => (batch_Join.j0 k a2 bt120.1 bt120.2 t123 a0_0 a0_1 a0_2 a0_3 a0_4 a0_5 a0_6 a0_7 l0_8 a1_0 a1_1)) else (batch_Join.j0 k a2 bt120.1 bt120.2 true a0_0 a0_1 a0_2 a0_3 a0_4 a0_5 a0_6 a0_7 l0_8 a1_0 a1_1))) else (some (a0_0, a0_1, a0_2, a0_3, a0_4, a0_5, a0_6, a0_7, l0_8, 113)))
theorem batch_Join.mono_l : ∀ k, (∀ y0 y1 y2 y3 y4 y5 y6 y7 y8 y9 y10 y11 y12 y13 y14, LeO (batch_Join.j0 k y0 y1 y2 y3 y4 y5 y6 y7 y8 y9 y10 y11 y12 y13 y14) (batch_Join.j0 (k + 1) y0 y1 y2 y3 y4 y5 y6 y7 y8 y9 y10 y11 y12 y13 y14))
  | 0 => fun _ _ _ _ _ _ _ _ _ _ _ _ _ _ _ r h => by simp [batch_Join.j0] at h
  | k + 1 => by
    have ih0 := batch_Join.mono_l k
    · intro y0 y1 y2 y3 y4 y5 y6 y7 y8 y9 y10 y11 y12 y13 y14
      unfold batch_Join.j0
      repeat' first
      | (with_reducible exact ih0 _ _ _ _ _ _ _ _ _ _ _ _ _ _ _)
      | (with_reducible exact slices_Contains_string_string.mono _ _ _)
      | (with_reducible exact LeO.refl _)
      | (with_reducible exact LeO.none _)
      | (with_reducible refine LeO.ite ?_ ?_)
      | (with_reducible refine LeO.bind ?_ (fun _ => ?_))
      | exact ih0 _ _ _ _ _ _ _ _ _ _ _ _ _ _ _
      | exact slices_Contains_string_string.mono _ _ _
      | exact LeO.none _
      | refine LeO.ite ?_ ?_
      | refine LeO.bind ?_ (fun _ => ?_)
theorem batch_Join.mono : ∀ a0 a1 a2 a3 a4 a5 a6 a7 a8 a9 a10 a11 a12 k, LeO (batch_Join.f k a0 a1 a2 a3 a4 a5 a6 a7 a8 a9 a10 a11 a12) (batch_Join.f (k + 1) a0 a1 a2 a3 a4 a5 a6 a7 a8 a9 a10 a11 a12) := by
  intro a0 a1 a2 a3 a4 a5 a6 a7 a8 a9 a10 a11 a12 k; have ih0 := batch_Join.mono_l k
  unfold batch_Join.f
  repeat' first
      | (with_reducible exact ih0 _ _ _ _ _ _ _ _ _ _ _ _ _ _ _)
      | (with_reducible exact slices_Contains_string_string.mono _ _ _)
      | (with_reducible exact LeO.refl _)
      | (with_reducible exact LeO.none _)
      | (with_reducible refine LeO.ite ?_ ?_)
      | (with_reducible refine LeO.bind ?_ (fun _ => ?_))
      | exact ih0 _ _ _ _ _ _ _ _ _ _ _ _ _ _ _
      | exact slices_Contains_string_string.mono _ _ _
      | exact LeO.none _
      | refine LeO.ite ?_ ?_
      | refine LeO.bind ?_ (fun _ => ?_)
set_option maxHeartbeats 8000000 in
set_option maxRecDepth 100000 in
theorem batch_Join.calls (k : Nat) (a0_0 : Int) (a0_1 : Int) (a0_2 : Int) (a0_3 : Int) (a0_4 : Int) (a0_5 : ByteArray) (a0_6 : ByteArray) (a0_7 : ByteArray) (P0_8_ : Nat → Prop) (A0_8 : Option Addr) (c0_8 : Nat) (l0_8 : List ByteArray) (a1_0 : Int) (a1_1 : Int) (a2 : ByteArray) (a3 : Int) (r1 : Int) (r2 : Int) (r3 : Int) (r4 : Int) (r5 : Int) (r6 : ByteArray) (r7 : ByteArray) (r8 : ByteArray) (r9 : List ByteArray) (r10 : Int) (w : World) (hs0_8 : Kd.V Kd.string 9 w w.heap.size (fun k_ => P0_8_ k_) (.slice A0_8 l0_8.length c0_8) l0_8) (hT : Tabs w) (h : batch_Join.f k a0_0 a0_1 a0_2 a0_3 a0_4 a0_5 a0_6 a0_7 l0_8 a1_0 a1_1 a2 a3 = some (r1, r2, r3, r4, r5, r6, r7, r8, r9, r10)) :
    Calls Tryd.prog 13 #[.agg #[.int .i64 a0_0, .int .i64 a0_1, .int .i64 a0_2, .int .i64 a0_3, .int .i64 a0_4, .string a0_5, .string a0_6, .string a0_7, .slice A0_8 l0_8.length c0_8], .agg #[.int .i64 a1_0, .int .i64 a1_1], .string a2, .int .i64 a3] w fun e w' => ∃ v8_ : Value, e = .returned (.tuple #[.agg #[.int .i64 r1, .int .i64 r2, .int .i64 r3, .int .i64 r4, .int .i64 r5, .string r6, .string r7, .string r8, v8_], .int .i64 r10]) ∧ Kd.V Kd.string 9 w' w.heap.size (fun k_ => (P0_8_ k_ ∨ w.heap.size ≤ k_)) v8_ r9 ∧ Below w.heap.size w w' := by
  have hu31 := Tryd.underlying31; have hu23 := Tryd.underlying23; have HO0_8 := am (show Kd.V Kd.string 9 w w.heap.size (fun k_ => (P0_8_ k_ ∨ w.heap.size ≤ k_)) (.slice A0_8 l0_8.length c0_8) l0_8 from Kd.V_mono hs0_8 (fun k_ hk => .inl hk)); have HT := am hT; clear hT; have HB := am (Below.refl w.heap.size w); have H : ((tally_Add.f a0_1 a3).bind fun bt120 => (if a0_4 = 1 then ((label_Right.f a2).bind fun t122 => (if t122 = true then ((slices_Contains_string_string.f k l0_8 a2).bind fun t123 => (batch_Join.j0 k a2 bt120.1 bt120.2 t123 a0_0 a0_1 a0_2 a0_3 a0_4 a0_5 a0_6 a0_7 l0_8 a1_0 a1_1)) else (batch_Join.j0 k a2 bt120.1 bt120.2 true a0_0 a0_1 a0_2 a0_3 a0_4 a0_5 a0_6 a0_7 l0_8 a1_0 a1_1))) else (some (a0_0, a0_1, a0_2, a0_3, a0_4, a0_5, a0_6, a0_7, l0_8, 113)))) = some (r1, r2, r3, r4, r5, r6, r7, r8, r9, r10) := h; clear h; replace H := obm H; obtain ⟨⟨t120, t121⟩, A50, H⟩ := H; replace H : (if a0_4 = 1 then ((label_Right.f a2).bind fun t122 => (if t122 = true then ((slices_Contains_string_string.f k l0_8 a2).bind fun t123 => (batch_Join.j0 k a2 t120 t121 t123 a0_0 a0_1 a0_2 a0_3 a0_4 a0_5 a0_6 a0_7 l0_8 a1_0 a1_1)) else (batch_Join.j0 k a2 t120 t121 true a0_0 a0_1 a0_2 a0_3 a0_4 a0_5 a0_6 a0_7 l0_8 a1_0 a1_1))) else (some (a0_0, a0_1, a0_2, a0_3, a0_4, a0_5, a0_6, a0_7, l0_8, 113))) = some (r1, r2, r3, r4, r5, r6, r7, r8, r9, r10) := H; have A5 := am A50; clear A50
  by_cases c6 : a0_4 = 1
  · rw [if_pos c6] at H
    have c6b0 : (a0_4 == 1) = true := beq_iff_eq.mpr c6; have c6b1 : (a0_4 != 1) = false := bne_eq_false_iff_eq.mpr c6; clear c6; have HC7 := am H; clear H
    go_enter Tryd.func13, Tryd.ntmps13
    go_upto_region 4 with (first | ((with_reducible refine gate_dst (N := 4) rfl ?_); (try (refine gate_guard (by rfl) ?_; dsimp only)); refine box_event ?hg (N := 4) ?hd (cs := #[.int .i64 a0_0, .int .i64 a0_1, .int .i64 a0_2, .int .i64 a0_3, .int .i64 a0_4, .string a0_5, .string a0_6, .string a0_7, .slice A0_8 l0_8.length c0_8]) (t := 31) ?hr ?_; (case hd => rfl); (case hg => rfl); (case hr => first | (go_simp; done) | (go_simp; rfl)); intro gb117 hg w8 hbox hb; have _ := am (Kd.V_below (Kd.V_elderB (by (with_reducible repeat (first | apply Kd.V_alloc | apply Kd.V_drewN | apply Kd.V_drew)); exact HO0_8.out) gb117 (Nat.le_of_eq hg.symm)) hb); have _ := am (below_step (beu HB.out) hb); have _ := am (hbox); have _ := am ((by rw [hg]; exact (below_size (beu HB.out)) : w.heap.size ≤ gb117)); have _ := am ((by rw [hg]; exact (below_size (beu HB.out)) : w.heap.size ≤ gb117)); clear HO0_8 HB; rename_i HO0_8 HB BK117 GW117 GE117; clear hb hbox hg) | ((with_reducible refine gate_dst (N := 5) rfl ?_); (try (refine gate_guard (by rfl) ?_; dsimp only)); refine box_event ?hg (N := 5) ?hd (cs := #[.int .i64 a1_0, .int .i64 a1_1]) (t := 23) ?hr ?_; (case hd => rfl); (case hg => rfl); (case hr => first | (go_simp; done) | (go_simp; rfl)); intro gb118 hg w9 hbox hb; have _ := am (Kd.V_below (Kd.V_elderB (by (with_reducible repeat (first | apply Kd.V_alloc | apply Kd.V_drewN | apply Kd.V_drew)); exact HO0_8.out) gb118 (Nat.le_of_eq hg.symm)) hb); have _ := am (blk_below (bu BK117.out) hb); have _ := am (below_step (beu HB.out) hb); have _ := am (hbox); have _ := am ((by rw [hg]; exact (below_size (beu HB.out)) : w.heap.size ≤ gb118)); have _ := am ((by rw [hg]; exact (below_size (beu HB.out)) : w.heap.size ≤ gb118)); have _ := am (nb1 hg BK117.out : gb117 ≠ gb118); have _ := am (nb2 hg BK117.out : gb118 ≠ gb117); clear HO0_8 BK117 HB; rename_i HO0_8 BK117 HB BK118 GW118 GE118 NB117_118 NB118_117; clear hb hbox hg) | ((with_reducible refine gate_dst (N := 8) rfl ?_); (try (refine gate_guard (by rfl) ?_; dsimp only)); refine box_event ?hg (N := 8) ?hd (cs := #[.int .i64 0, .int .i64 0, .int .i64 0, .int .i64 0, .int .i64 0, .string ⟨#[]⟩, .string ⟨#[]⟩, .string ⟨#[]⟩, .slice none 0 0]) (t := 31) ?hr ?_; (case hd => rfl); (case hg => rfl); (case hr => first | (go_simp; done) | (go_simp; rfl)); intro gb119 hg w10 hbox hb; have _ := am (Kd.V_below (Kd.V_elderB (by (with_reducible repeat (first | apply Kd.V_alloc | apply Kd.V_drewN | apply Kd.V_drew)); exact HO0_8.out) gb119 (Nat.le_of_eq hg.symm)) hb); have _ := am (blk_below (bu BK117.out) hb); have _ := am (blk_below (bu BK118.out) hb); have _ := am (below_step (beu HB.out) hb); have _ := am (hbox); have _ := am ((by rw [hg]; exact (below_size (beu HB.out)) : w.heap.size ≤ gb119)); have _ := am ((by rw [hg]; exact (below_size (beu HB.out)) : w.heap.size ≤ gb119)); have _ := am (nb1 hg BK117.out : gb117 ≠ gb119); have _ := am (nb2 hg BK117.out : gb119 ≠ gb117); have _ := am (nb1 hg BK118.out : gb118 ≠ gb119); have _ := am (nb2 hg BK118.out : gb119 ≠ gb118); clear HO0_8 BK117 BK118 HB; rename_i HO0_8 BK117 BK118 HB BK119 GW119 GE119 NB117_119 NB119_117 NB118_119 NB119_118; clear hb hbox hg; have := NB117_118.out; have := NB118_117.out; have := NB117_119.out; have := NB119_117.out; obtain ⟨hcz13_0, hcz13_1, hcz13_2, hcz13_3, hcz13_4, hcz13_5, hcz13_6, hcz13_7, hcz13_8⟩ := cells9 BK117.out; obtain ⟨hfz13_0, hfz13_1, hfz13_2, hfz13_3, hfz13_4, hfz13_5, hfz13_6, hfz13_7, hfz13_8⟩ := frozens9 BK117.out) | ((with_reducible refine gate_callee (f := 32) rfl ?_); refine goesL_ (some 17) rfl rfl Tryd.func32 (by kernel_rfl) rfl #[.int .i64 a0_1, .int .i64 a3] rfl ap1 ?_; (with_reducible refine (tally_Add.calls a0_1 a3 t120 t121 _ A5.out).mono ?_); rintro e w' ⟨rfl, ⟨nd, rfl⟩⟩; refine ⟨_, rfl, ?_⟩))
    (try simp only [Act.put, sA, sB, sC])
    go_cut [25] (fun v25 wc => ∃ (kq : Nat) (x25_6 : Bool), v25 = .bool x25_6 ∧ Aside0 (batch_Join.j0 kq a2 t120 t121 x25_6 a0_0 a0_1 a0_2 a0_3 a0_4 a0_5 a0_6 a0_7 l0_8 a1_0 a1_1 = some (r1, r2, r3, r4, r5, r6, r7, r8, r9, r10)) ∧ Aside0 (kq ≤ k) ∧ Aside0 (Kd.V Kd.string 9 wc w.heap.size (fun k_ => (P0_8_ k_ ∨ w.heap.size ≤ k_) ∧ k_ ≠ gb117 ∧ k_ ≠ gb118 ∧ k_ ≠ gb119) (.slice A0_8 l0_8.length c0_8) l0_8) ∧ Aside0 (wc.heap[gb117]? = some (.cells #[.int .i64 a0_0, .int .i64 a0_1, .int .i64 a0_2, .int .i64 a0_3, .int .i64 a0_4, .string a0_5, .string a0_6, .string a0_7, (.slice A0_8 l0_8.length c0_8)] 31 (0, 0))) ∧ Aside0 (wc.heap[gb118]? = some (.cells #[.int .i64 a1_0, .int .i64 a1_1] 23 (0, 0))) ∧ Aside0 (wc.heap[gb119]? = some (.cells #[.int .i64 0, .int .i64 0, .int .i64 0, .int .i64 0, .int .i64 0, .string ⟨#[]⟩, .string ⟨#[]⟩, .string ⟨#[]⟩, (.slice none 0 0)] 31 (0, 0))) ∧ Aside0 (Below w.heap.size w wc))
    case first =>
      have H := HC7.out; clear HC7; replace H := obm H; obtain ⟨t122, A140, H⟩ := H; replace H : (if t122 = true then ((slices_Contains_string_string.f k l0_8 a2).bind fun t123 => (batch_Join.j0 k a2 t120 t121 t123 a0_0 a0_1 a0_2 a0_3 a0_4 a0_5 a0_6 a0_7 l0_8 a1_0 a1_1)) else (batch_Join.j0 k a2 t120 t121 true a0_0 a0_1 a0_2 a0_3 a0_4 a0_5 a0_6 a0_7 l0_8 a1_0 a1_1)) = some (r1, r2, r3, r4, r5, r6, r7, r8, r9, r10) := H; have A14 := am A140; clear A140
      by_cases c15 : t122 = true
      · subst c15
        have H1 : ((slices_Contains_string_string.f k l0_8 a2).bind fun t123 => (batch_Join.j0 k a2 t120 t121 t123 a0_0 a0_1 a0_2 a0_3 a0_4 a0_5 a0_6 a0_7 l0_8 a1_0 a1_1)) = some (r1, r2, r3, r4, r5, r6, r7, r8, r9, r10) := by rw [if_pos rfl] at H; exact H
        clear H; have H := H1; clear H1; replace H := obm H; obtain ⟨t123, A160, H⟩ := H; replace H : (batch_Join.j0 k a2 t120 t121 t123 a0_0 a0_1 a0_2 a0_3 a0_4 a0_5 a0_6 a0_7 l0_8 a1_0 a1_1) = some (r1, r2, r3, r4, r5, r6, r7, r8, r9, r10) := H; have A16 := am A160; clear A160; have H' := am H; clear H
        go_wp2_with (first | ((with_reducible refine gate_callee (f := 33) rfl ?_); refine goesL_ (some 27) rfl rfl Tryd.func33 (by kernel_rfl) rfl #[.string a2] rfl ap1 ?_; (with_reducible refine (label_Right.calls a2 true _ ?side1 A14.out).mono ?_); (case side1 => first | (with_reducible exact HT.out) | exact Tabs.below HT.out (beu HB.out)); rintro e w17 ⟨rfl, hb⟩; refine ⟨_, rfl, ?_⟩; have _ := am (Kd.V_below (by (with_reducible repeat (first | apply Kd.V_alloc | apply Kd.V_drewN | apply Kd.V_drew)); exact HO0_8.out) hb); have _ := am (blk_below (bu BK117.out) hb); have _ := am (blk_below (bu BK118.out) hb); have _ := am (blk_below (bu BK119.out) hb); have _ := am (below_step (beu HB.out) hb); clear HO0_8 BK117 BK118 BK119 HB; rename_i HO0_8 BK117 BK118 BK119 HB; (try clear hb); have := NB117_118.out; have := NB118_117.out; have := NB117_119.out; have := NB119_117.out; obtain ⟨hcz20_0, hcz20_1, hcz20_2, hcz20_3, hcz20_4, hcz20_5, hcz20_6, hcz20_7, hcz20_8⟩ := cells9 BK117.out; obtain ⟨hfz20_0, hfz20_1, hfz20_2, hfz20_3, hfz20_4, hfz20_5, hfz20_6, hfz20_7, hfz20_8⟩ := frozens9 BK117.out) | (go_at_call 34; (with_reducible refine (slices_Contains_string_string.calls k _ _ l0_8 a2 t123 _ ?side1 ?side2 A16.out).mono ?_); (case side1 => repeat (first | exact (Kd.V_reads' HO0_8.out).2.2 | (with_reducible refine Kd.C_alloc ?_ _) | (with_reducible refine Kd.C_drewN ?_ _) | (with_reducible refine Kd.C_drew ?_))); (case side2 => exact (Kd.V_reads' HO0_8.out).2.1); rintro e w' ⟨rfl, ⟨nd, rfl⟩⟩))
        go_meet
        case rel => exact ⟨_, (t123), ap3, H', ⟨by first | omega | exact Nat.le_refl _⟩, ⟨by (with_reducible repeat (first | apply Kd.V_alloc | apply Kd.V_drewN | apply Kd.V_drew)); exact Kd.V_mono HO0_8.out (fun _ hk => ⟨hk.1.1.1, ⟨hk.1.1.2, ⟨hk.1.2, hk.2⟩⟩⟩)⟩, ⟨by refine bu ?_; exact BK117.out⟩, ⟨by refine bu ?_; exact BK118.out⟩, ⟨by refine bu ?_; exact BK119.out⟩, ⟨beu HB.out⟩⟩
      · replace c15 := Bool.eq_false_iff.mpr c15
        subst c15
        have H1 : (batch_Join.j0 k a2 t120 t121 true a0_0 a0_1 a0_2 a0_3 a0_4 a0_5 a0_6 a0_7 l0_8 a1_0 a1_1) = some (r1, r2, r3, r4, r5, r6, r7, r8, r9, r10) := by rw [if_neg (show ¬ (false = true) by decide)] at H; exact H
        clear H; have H := H1; clear H1; have H' := am H; clear H
        go_wp2_with (first | ((with_reducible refine gate_callee (f := 33) rfl ?_); refine goesL_ (some 27) rfl rfl Tryd.func33 (by kernel_rfl) rfl #[.string a2] rfl ap1 ?_; (with_reducible refine (label_Right.calls a2 false _ ?side1 A14.out).mono ?_); (case side1 => first | (with_reducible exact HT.out) | exact Tabs.below HT.out (beu HB.out)); rintro e w21 ⟨rfl, hb⟩; refine ⟨_, rfl, ?_⟩; have _ := am (Kd.V_below (by (with_reducible repeat (first | apply Kd.V_alloc | apply Kd.V_drewN | apply Kd.V_drew)); exact HO0_8.out) hb); have _ := am (blk_below (bu BK117.out) hb); have _ := am (blk_below (bu BK118.out) hb); have _ := am (blk_below (bu BK119.out) hb); have _ := am (below_step (beu HB.out) hb); clear HO0_8 BK117 BK118 BK119 HB; rename_i HO0_8 BK117 BK118 BK119 HB; (try clear hb)))
        go_meet
        case rel => exact ⟨_, (true), ap3, H', ⟨by first | omega | exact Nat.le_refl _⟩, ⟨by (with_reducible repeat (first | apply Kd.V_alloc | apply Kd.V_drewN | apply Kd.V_drew)); exact Kd.V_mono HO0_8.out (fun _ hk => ⟨hk.1.1.1, ⟨hk.1.1.2, ⟨hk.1.2, hk.2⟩⟩⟩)⟩, ⟨by refine bu ?_; exact BK117.out⟩, ⟨by refine bu ?_; exact BK118.out⟩, ⟨by refine bu ?_; exact BK119.out⟩, ⟨beu HB.out⟩⟩
    case rest =>
      clear HC7; (try clear c1); (try clear p2); (try clear c3); (try clear c6); (try clear c6b0); (try clear c6b1); (try clear c11); (try clear c12); (try clear c13); (try clear c15); (try clear c18); (try clear c19); (try clear hcz13_0); (try clear hcz13_1); (try clear hcz13_2); (try clear hcz13_3); (try clear hcz13_4); (try clear hcz13_5); (try clear hcz13_6); (try clear hcz13_7); (try clear hcz13_8); (try clear hcz20_0); (try clear hcz20_1); (try clear hcz20_2); (try clear hcz20_3); (try clear hcz20_4); (try clear hcz20_5); (try clear hcz20_6); (try clear hcz20_7); (try clear hcz20_8); (try clear hfz13_0); (try clear hfz13_1); (try clear hfz13_2); (try clear hfz13_3); (try clear hfz13_4); (try clear hfz13_5); (try clear hfz13_6); (try clear hfz13_7); (try clear hfz13_8); (try clear hfz20_0); (try clear hfz20_1); (try clear hfz20_2); (try clear hfz20_3); (try clear hfz20_4); (try clear hfz20_5); (try clear hfz20_6); (try clear hfz20_7); (try clear hfz20_8); obtain ⟨kq, x25_6, rfl, HA, HJ6, HO_118008, BK117, BK118, BK119, HB⟩ := hcut
      cases kq with
      | zero => exact absurd HA.out (by simp [batch_Join.j0])
      | succ kj6 =>
        have H := HA.out; clear HA; simp only [batch_Join.j0] at H
        by_cases c22 : x25_6 = true
        · subst c22
          have H1 : (some (a0_0, a0_1, a0_2, a0_3, a0_4, a0_5, a0_6, a0_7, l0_8, 112)) = some (r1, r2, r3, r4, r5, r6, r7, r8, r9, r10) := by rw [if_pos rfl] at H; exact H
          clear H; have H := H1; clear H1; simp only [Option.some.injEq, Prod.mk.injEq] at H; obtain ⟨rfl, rfl, rfl, rfl, rfl, rfl, rfl, rfl, rfl, rfl⟩ := H; have := NB117_118.out; have := NB118_117.out; have := NB117_119.out; have := NB119_117.out; obtain ⟨_, _, _, _, _, _, _, _, _⟩ := cells9 BK117.out; obtain ⟨_, _, _, _, _, _, _, _, _⟩ := frozens9 BK117.out; have := NB119_118.out; have := NB118_119.out; obtain ⟨_, _, _, _, _, _, _, _, _⟩ := cells9 BK119.out; obtain ⟨_, _, _, _, _, _, _, _, _⟩ := frozens9 BK119.out
          go_wp2
          refine bodyPost_ret (results_ct rfl _ _ gb119 31 #[.int .i64 a0_0, .int .i64 a0_1, .int .i64 a0_2, .int .i64 a0_3, .int .i64 a0_4, .string a0_5, .string a0_6, .string a0_7, .slice A0_8 l0_8.length c0_8] (0, 0) _ rfl (by (with_reducible repeat (first | refine blk_drewN ?_ _ | refine blk_drew ?_ | refine blk_alloc ?_ _)); refine blk_put (cs := #[.int .i64 a0_0, .int .i64 a0_1, .int .i64 a0_2, .int .i64 a0_3, .int .i64 a0_4, .string a0_5, .string a0_6, .string a0_7, .slice none 0 0]) ?_ 8 _ rfl; (with_reducible repeat (first | refine blk_drewN ?_ _ | refine blk_drew ?_ | refine blk_alloc ?_ _)); refine blk_put (cs := #[.int .i64 a0_0, .int .i64 a0_1, .int .i64 a0_2, .int .i64 a0_3, .int .i64 a0_4, .string a0_5, .string a0_6, .string ⟨#[]⟩, .slice none 0 0]) ?_ 7 _ rfl; (with_reducible repeat (first | refine blk_drewN ?_ _ | refine blk_drew ?_ | refine blk_alloc ?_ _)); refine blk_put (cs := #[.int .i64 a0_0, .int .i64 a0_1, .int .i64 a0_2, .int .i64 a0_3, .int .i64 a0_4, .string a0_5, .string ⟨#[]⟩, .string ⟨#[]⟩, .slice none 0 0]) ?_ 6 _ rfl; (with_reducible repeat (first | refine blk_drewN ?_ _ | refine blk_drew ?_ | refine blk_alloc ?_ _)); refine blk_put (cs := #[.int .i64 a0_0, .int .i64 a0_1, .int .i64 a0_2, .int .i64 a0_3, .int .i64 a0_4, .string ⟨#[]⟩, .string ⟨#[]⟩, .string ⟨#[]⟩, .slice none 0 0]) ?_ 5 _ rfl; (with_reducible repeat (first | refine blk_drewN ?_ _ | refine blk_drew ?_ | refine blk_alloc ?_ _)); refine blk_put (cs := #[.int .i64 a0_0, .int .i64 a0_1, .int .i64 a0_2, .int .i64 a0_3, .int .i64 0, .string ⟨#[]⟩, .string ⟨#[]⟩, .string ⟨#[]⟩, .slice none 0 0]) ?_ 4 _ rfl; (with_reducible repeat (first | refine blk_drewN ?_ _ | refine blk_drew ?_ | refine blk_alloc ?_ _)); refine blk_put (cs := #[.int .i64 a0_0, .int .i64 a0_1, .int .i64 a0_2, .int .i64 0, .int .i64 0, .string ⟨#[]⟩, .string ⟨#[]⟩, .string ⟨#[]⟩, .slice none 0 0]) ?_ 3 _ rfl; (with_reducible repeat (first | refine blk_drewN ?_ _ | refine blk_drew ?_ | refine blk_alloc ?_ _)); refine blk_put (cs := #[.int .i64 a0_0, .int .i64 a0_1, .int .i64 0, .int .i64 0, .int .i64 0, .string ⟨#[]⟩, .string ⟨#[]⟩, .string ⟨#[]⟩, .slice none 0 0]) ?_ 2 _ rfl; (with_reducible repeat (first | refine blk_drewN ?_ _ | refine blk_drew ?_ | refine blk_alloc ?_ _)); refine blk_put (cs := #[.int .i64 a0_0, .int .i64 0, .int .i64 0, .int .i64 0, .int .i64 0, .string ⟨#[]⟩, .string ⟨#[]⟩, .string ⟨#[]⟩, .slice none 0 0]) ?_ 1 _ rfl; (with_reducible repeat (first | refine blk_drewN ?_ _ | refine blk_drew ?_ | refine blk_alloc ?_ _)); refine blk_put (cs := #[.int .i64 0, .int .i64 0, .int .i64 0, .int .i64 0, .int .i64 0, .string ⟨#[]⟩, .string ⟨#[]⟩, .string ⟨#[]⟩, .slice none 0 0]) ?_ 0 _ rfl; (with_reducible repeat (first | refine blk_drewN ?_ _ | refine blk_drew ?_ | refine blk_alloc ?_ _)); exact BK119.out) Tryd.underlying31 rfl (by kernel_rfl)) rfl ?_; exact ⟨_, ap4, by (with_reducible repeat (first | apply Kd.V_alloc | apply Kd.V_drewN | apply Kd.V_drew)); exact Kd.V_mono (vf gb119 8 (vf gb119 7 (vf gb119 6 (vf gb119 5 (vf gb119 4 (vf gb119 3 (vf gb119 2 (vf gb119 1 (vf gb119 0 (Kd.V_mono HO_118008.out (fun k_ hk => (⟨hk, hk.2.2.2⟩ : _ ∧ k_ ≠ gb119))) (.int .i64 a0_0)) (.int .i64 a0_1)) (.int .i64 a0_2)) (.int .i64 a0_3)) (.int .i64 a0_4)) (.string a0_5)) (.string a0_6)) (.string a0_7)) (.slice A0_8 l0_8.length c0_8)) (fun _ hk => by first | exact hk.1.1 | exact hk.1), beu HB.out⟩
        · replace c22 := Bool.eq_false_iff.mpr c22
          subst c22
          have H1 : (if t121 = 0 then (if (l0_8.length : Int) > 0 then (if (l0_8.length : Int) ≥ a1_0 then (some (a0_0, a0_1, a0_2, a0_3, a0_4, a0_5, a0_6, a0_7, l0_8, 111)) else (if t120 > a1_1 then (some (a0_0, a0_1, a0_2, a0_3, a0_4, a0_5, a0_6, a0_7, l0_8, 111)) else (if 0 ≤ (l0_8.length : Int) then (if (l0_8.length : Int) ≤ (l0_8.length : Int) then ((some (l0_8.take ((l0_8.length : Int) : Int).toNat : List ByteArray)).bind fun y124 => (if y124.length < 8796093022208 then (some (a0_0, t120, a0_2, a0_3, a0_4, a0_5, a0_6, a0_7, (y124 ++ [a2]), 0)) else (none))) else (none)) else (none)))) else (if 0 ≤ (l0_8.length : Int) then (if (l0_8.length : Int) ≤ (l0_8.length : Int) then ((some (l0_8.take ((l0_8.length : Int) : Int).toNat : List ByteArray)).bind fun y132 => (if y132.length < 8796093022208 then (some (a0_0, t120, a0_2, a0_3, a0_4, a0_5, a0_6, a0_7, (y132 ++ [a2]), 0)) else (none))) else (none)) else (none))) else (some (a0_0, a0_1, a0_2, a0_3, a0_4, a0_5, a0_6, a0_7, l0_8, 111))) = some (r1, r2, r3, r4, r5, r6, r7, r8, r9, r10) := by rw [if_neg (show ¬ (false = true) by decide)] at H; exact H
          clear H; have H := H1; clear H1
          by_cases c28 : t121 = 0
          · rw [if_pos c28] at H
            have c28b0 : (t121 == 0) = true := beq_iff_eq.mpr c28; have c28b1 : (t121 != 0) = false := bne_eq_false_iff_eq.mpr c28; clear c28
            by_cases c29 : (l0_8.length : Int) > 0
            · rw [if_pos c29] at H
              have c29b0 : decide (0 < (l0_8.length : Int)) = true := decide_eq_true c29; have c29b1 : decide (0 < l0_8.length) = true := decide_eq_true (by omega); clear c29
              by_cases c30 : (l0_8.length : Int) ≥ a1_0
              · rw [if_pos c30] at H
                have c30b0 : decide (a1_0 ≤ (l0_8.length : Int)) = true := decide_eq_true c30; clear c30; simp only [Option.some.injEq, Prod.mk.injEq] at H; obtain ⟨rfl, rfl, rfl, rfl, rfl, rfl, rfl, rfl, rfl, rfl⟩ := H; have := NB117_118.out; have := NB118_117.out; have := NB117_119.out; have := NB119_117.out; obtain ⟨_, _, _, _, _, _, _, _, _⟩ := cells9 BK117.out; obtain ⟨_, _, _, _, _, _, _, _, _⟩ := frozens9 BK117.out; have := NB118_119.out; have := NB119_118.out; obtain ⟨_, _⟩ := cells2 BK118.out; obtain ⟨_, _⟩ := frozens2 BK118.out; obtain ⟨_, _, _, _, _, _, _, _, _⟩ := cells9 BK119.out; obtain ⟨_, _, _, _, _, _, _, _, _⟩ := frozens9 BK119.out
                go_wp2
                refine bodyPost_ret (results_ct rfl _ _ gb119 31 #[.int .i64 a0_0, .int .i64 a0_1, .int .i64 a0_2, .int .i64 a0_3, .int .i64 a0_4, .string a0_5, .string a0_6, .string a0_7, .slice A0_8 l0_8.length c0_8] (0, 0) _ rfl (by (with_reducible repeat (first | refine blk_drewN ?_ _ | refine blk_drew ?_ | refine blk_alloc ?_ _)); refine blk_put (cs := #[.int .i64 a0_0, .int .i64 a0_1, .int .i64 a0_2, .int .i64 a0_3, .int .i64 a0_4, .string a0_5, .string a0_6, .string a0_7, .slice none 0 0]) ?_ 8 _ rfl; (with_reducible repeat (first | refine blk_drewN ?_ _ | refine blk_drew ?_ | refine blk_alloc ?_ _)); refine blk_put (cs := #[.int .i64 a0_0, .int .i64 a0_1, .int .i64 a0_2, .int .i64 a0_3, .int .i64 a0_4, .string a0_5, .string a0_6, .string ⟨#[]⟩, .slice none 0 0]) ?_ 7 _ rfl; (with_reducible repeat (first | refine blk_drewN ?_ _ | refine blk_drew ?_ | refine blk_alloc ?_ _)); refine blk_put (cs := #[.int .i64 a0_0, .int .i64 a0_1, .int .i64 a0_2, .int .i64 a0_3, .int .i64 a0_4, .string a0_5, .string ⟨#[]⟩, .string ⟨#[]⟩, .slice none 0 0]) ?_ 6 _ rfl; (with_reducible repeat (first | refine blk_drewN ?_ _ | refine blk_drew ?_ | refine blk_alloc ?_ _)); refine blk_put (cs := #[.int .i64 a0_0, .int .i64 a0_1, .int .i64 a0_2, .int .i64 a0_3, .int .i64 a0_4, .string ⟨#[]⟩, .string ⟨#[]⟩, .string ⟨#[]⟩, .slice none 0 0]) ?_ 5 _ rfl; (with_reducible repeat (first | refine blk_drewN ?_ _ | refine blk_drew ?_ | refine blk_alloc ?_ _)); refine blk_put (cs := #[.int .i64 a0_0, .int .i64 a0_1, .int .i64 a0_2, .int .i64 a0_3, .int .i64 0, .string ⟨#[]⟩, .string ⟨#[]⟩, .string ⟨#[]⟩, .slice none 0 0]) ?_ 4 _ rfl; (with_reducible repeat (first | refine blk_drewN ?_ _ | refine blk_drew ?_ | refine blk_alloc ?_ _)); refine blk_put (cs := #[.int .i64 a0_0, .int .i64 a0_1, .int .i64 a0_2, .int .i64 0, .int .i64 0, .string ⟨#[]⟩, .string ⟨#[]⟩, .string ⟨#[]⟩, .slice none 0 0]) ?_ 3 _ rfl; (with_reducible repeat (first | refine blk_drewN ?_ _ | refine blk_drew ?_ | refine blk_alloc ?_ _)); refine blk_put (cs := #[.int .i64 a0_0, .int .i64 a0_1, .int .i64 0, .int .i64 0, .int .i64 0, .string ⟨#[]⟩, .string ⟨#[]⟩, .string ⟨#[]⟩, .slice none 0 0]) ?_ 2 _ rfl; (with_reducible repeat (first | refine blk_drewN ?_ _ | refine blk_drew ?_ | refine blk_alloc ?_ _)); refine blk_put (cs := #[.int .i64 a0_0, .int .i64 0, .int .i64 0, .int .i64 0, .int .i64 0, .string ⟨#[]⟩, .string ⟨#[]⟩, .string ⟨#[]⟩, .slice none 0 0]) ?_ 1 _ rfl; (with_reducible repeat (first | refine blk_drewN ?_ _ | refine blk_drew ?_ | refine blk_alloc ?_ _)); refine blk_put (cs := #[.int .i64 0, .int .i64 0, .int .i64 0, .int .i64 0, .int .i64 0, .string ⟨#[]⟩, .string ⟨#[]⟩, .string ⟨#[]⟩, .slice none 0 0]) ?_ 0 _ rfl; (with_reducible repeat (first | refine blk_drewN ?_ _ | refine blk_drew ?_ | refine blk_alloc ?_ _)); exact BK119.out) Tryd.underlying31 rfl (by kernel_rfl)) rfl ?_; exact ⟨_, ap4, by (with_reducible repeat (first | apply Kd.V_alloc | apply Kd.V_drewN | apply Kd.V_drew)); exact Kd.V_mono (vf gb119 8 (vf gb119 7 (vf gb119 6 (vf gb119 5 (vf gb119 4 (vf gb119 3 (vf gb119 2 (vf gb119 1 (vf gb119 0 (Kd.V_mono HO_118008.out (fun k_ hk => (⟨hk, hk.2.2.2⟩ : _ ∧ k_ ≠ gb119))) (.int .i64 a0_0)) (.int .i64 a0_1)) (.int .i64 a0_2)) (.int .i64 a0_3)) (.int .i64 a0_4)) (.string a0_5)) (.string a0_6)) (.string a0_7)) (.slice A0_8 l0_8.length c0_8)) (fun _ hk => by first | exact hk.1.1 | exact hk.1), beu HB.out⟩
              · rw [if_neg c30] at H
                have c30b0 : decide (a1_0 ≤ (l0_8.length : Int)) = false := decide_eq_false c30; clear c30
                by_cases c37 : t120 > a1_1
                · rw [if_pos c37] at H
                  have c37b0 : decide (a1_1 < t120) = true := decide_eq_true c37; clear c37; simp only [Option.some.injEq, Prod.mk.injEq] at H; obtain ⟨rfl, rfl, rfl, rfl, rfl, rfl, rfl, rfl, rfl, rfl⟩ := H; have := NB117_118.out; have := NB118_117.out; have := NB117_119.out; have := NB119_117.out; obtain ⟨hcz40_0, hcz40_1, hcz40_2, hcz40_3, hcz40_4, hcz40_5, hcz40_6, hcz40_7, hcz40_8⟩ := cells9 BK117.out; obtain ⟨hfz40_0, hfz40_1, hfz40_2, hfz40_3, hfz40_4, hfz40_5, hfz40_6, hfz40_7, hfz40_8⟩ := frozens9 BK117.out; have := NB118_119.out; have := NB119_118.out; obtain ⟨_, _⟩ := cells2 BK118.out; obtain ⟨_, _⟩ := frozens2 BK118.out; obtain ⟨_, _, _, _, _, _, _, _, _⟩ := cells9 BK119.out; obtain ⟨_, _, _, _, _, _, _, _, _⟩ := frozens9 BK119.out
                  go_wp2
                  refine bodyPost_ret (results_ct rfl _ _ gb119 31 #[.int .i64 a0_0, .int .i64 a0_1, .int .i64 a0_2, .int .i64 a0_3, .int .i64 a0_4, .string a0_5, .string a0_6, .string a0_7, .slice A0_8 l0_8.length c0_8] (0, 0) _ rfl (by (with_reducible repeat (first | refine blk_drewN ?_ _ | refine blk_drew ?_ | refine blk_alloc ?_ _)); refine blk_put (cs := #[.int .i64 a0_0, .int .i64 a0_1, .int .i64 a0_2, .int .i64 a0_3, .int .i64 a0_4, .string a0_5, .string a0_6, .string a0_7, .slice none 0 0]) ?_ 8 _ rfl; (with_reducible repeat (first | refine blk_drewN ?_ _ | refine blk_drew ?_ | refine blk_alloc ?_ _)); refine blk_put (cs := #[.int .i64 a0_0, .int .i64 a0_1, .int .i64 a0_2, .int .i64 a0_3, .int .i64 a0_4, .string a0_5, .string a0_6, .string ⟨#[]⟩, .slice none 0 0]) ?_ 7 _ rfl; (with_reducible repeat (first | refine blk_drewN ?_ _ | refine blk_drew ?_ | refine blk_alloc ?_ _)); refine blk_put (cs := #[.int .i64 a0_0, .int .i64 a0_1, .int .i64 a0_2, .int .i64 a0_3, .int .i64 a0_4, .string a0_5, .string ⟨#[]⟩, .string ⟨#[]⟩, .slice none 0 0]) ?_ 6 _ rfl; (with_reducible repeat (first | refine blk_drewN ?_ _ | refine blk_drew ?_ | refine blk_alloc ?_ _)); refine blk_put (cs := #[.int .i64 a0_0, .int .i64 a0_1, .int .i64 a0_2, .int .i64 a0_3, .int .i64 a0_4, .string ⟨#[]⟩, .string ⟨#[]⟩, .string ⟨#[]⟩, .slice none 0 0]) ?_ 5 _ rfl; (with_reducible repeat (first | refine blk_drewN ?_ _ | refine blk_drew ?_ | refine blk_alloc ?_ _)); refine blk_put (cs := #[.int .i64 a0_0, .int .i64 a0_1, .int .i64 a0_2, .int .i64 a0_3, .int .i64 0, .string ⟨#[]⟩, .string ⟨#[]⟩, .string ⟨#[]⟩, .slice none 0 0]) ?_ 4 _ rfl; (with_reducible repeat (first | refine blk_drewN ?_ _ | refine blk_drew ?_ | refine blk_alloc ?_ _)); refine blk_put (cs := #[.int .i64 a0_0, .int .i64 a0_1, .int .i64 a0_2, .int .i64 0, .int .i64 0, .string ⟨#[]⟩, .string ⟨#[]⟩, .string ⟨#[]⟩, .slice none 0 0]) ?_ 3 _ rfl; (with_reducible repeat (first | refine blk_drewN ?_ _ | refine blk_drew ?_ | refine blk_alloc ?_ _)); refine blk_put (cs := #[.int .i64 a0_0, .int .i64 a0_1, .int .i64 0, .int .i64 0, .int .i64 0, .string ⟨#[]⟩, .string ⟨#[]⟩, .string ⟨#[]⟩, .slice none 0 0]) ?_ 2 _ rfl; (with_reducible repeat (first | refine blk_drewN ?_ _ | refine blk_drew ?_ | refine blk_alloc ?_ _)); refine blk_put (cs := #[.int .i64 a0_0, .int .i64 0, .int .i64 0, .int .i64 0, .int .i64 0, .string ⟨#[]⟩, .string ⟨#[]⟩, .string ⟨#[]⟩, .slice none 0 0]) ?_ 1 _ rfl; (with_reducible repeat (first | refine blk_drewN ?_ _ | refine blk_drew ?_ | refine blk_alloc ?_ _)); refine blk_put (cs := #[.int .i64 0, .int .i64 0, .int .i64 0, .int .i64 0, .int .i64 0, .string ⟨#[]⟩, .string ⟨#[]⟩, .string ⟨#[]⟩, .slice none 0 0]) ?_ 0 _ rfl; (with_reducible repeat (first | refine blk_drewN ?_ _ | refine blk_drew ?_ | refine blk_alloc ?_ _)); exact BK119.out) Tryd.underlying31 rfl (by kernel_rfl)) rfl ?_; exact ⟨_, ap4, by (with_reducible repeat (first | apply Kd.V_alloc | apply Kd.V_drewN | apply Kd.V_drew)); exact Kd.V_mono (vf gb119 8 (vf gb119 7 (vf gb119 6 (vf gb119 5 (vf gb119 4 (vf gb119 3 (vf gb119 2 (vf gb119 1 (vf gb119 0 (Kd.V_mono HO_118008.out (fun k_ hk => (⟨hk, hk.2.2.2⟩ : _ ∧ k_ ≠ gb119))) (.int .i64 a0_0)) (.int .i64 a0_1)) (.int .i64 a0_2)) (.int .i64 a0_3)) (.int .i64 a0_4)) (.string a0_5)) (.string a0_6)) (.string a0_7)) (.slice A0_8 l0_8.length c0_8)) (fun _ hk => by first | exact hk.1.1 | exact hk.1), beu HB.out⟩
                · rw [if_neg c37] at H
                  have c37b0 : decide (a1_1 < t120) = false := decide_eq_false c37; clear c37
                  by_cases c44 : 0 ≤ (l0_8.length : Int)
                  · rw [if_pos c44] at H
                    have c44b0 := eq_true c44; have c44b1 : decide (0 ≤ (l0_8.length : Int)) = true := decide_eq_true c44; clear c44
                    by_cases c45 : (l0_8.length : Int) ≤ (l0_8.length : Int)
                    · rw [if_pos c45] at H
                      have c45b0 := eq_true c45; have c45b1 : decide ((l0_8.length : Int) ≤ (l0_8.length : Int)) = true := decide_eq_true c45; clear c45; obtain ⟨y124, hy124⟩ : ∃ y_ : List ByteArray, y_ = (l0_8.take ((l0_8.length : Int) : Int).toNat) := ⟨_, rfl⟩
                      replace H : (if y124.length < 8796093022208 then (some (a0_0, t120, a0_2, a0_3, a0_4, a0_5, a0_6, a0_7, (y124 ++ [a2]), 0)) else (none)) = some (r1, r2, r3, r4, r5, r6, r7, r8, r9, r10) := by first | (rw [hy124]; with_reducible exact H) | (have H2_ := (Option.bind_some _ _).symm.trans H; rw [hy124]; with_reducible exact H2_) | (have H2_ := (Option.bind_some _ _).symm.trans H; with_reducible exact H2_) | with_reducible exact H | (rw [hy124]; exact H) | exact H
                      have Ny124 := am hy124; clear hy124
                      by_cases c46 : y124.length < 8796093022208
                      · rw [if_pos c46] at H
                        have LMc46 := am c46; clear c46; obtain ⟨y129, hy129⟩ : ∃ y_ : List ByteArray, y_ = (y124 ++ [a2]) := ⟨_, rfl⟩
                        replace H : (some (a0_0, t120, a0_2, a0_3, a0_4, a0_5, a0_6, a0_7, y129, 0)) = some (r1, r2, r3, r4, r5, r6, r7, r8, r9, r10) := by first | (rw [hy129]; with_reducible exact H) | (have H2_ := (Option.bind_some _ _).symm.trans H; rw [hy129]; with_reducible exact H2_) | (have H2_ := (Option.bind_some _ _).symm.trans H; with_reducible exact H2_) | with_reducible exact H | (rw [hy129]; exact H) | exact H
                        have Ny129 := am hy129; clear hy129; simp only [Option.some.injEq, Prod.mk.injEq] at H; obtain ⟨rfl, rfl, rfl, rfl, rfl, rfl, rfl, rfl, rfl, rfl⟩ := H; have := NB117_118.out; have := NB118_117.out; have := NB117_119.out; have := NB119_117.out; obtain ⟨hcz49_0, hcz49_1, hcz49_2, hcz49_3, hcz49_4, hcz49_5, hcz49_6, hcz49_7, hcz49_8⟩ := cells9 BK117.out; obtain ⟨hfz49_0, hfz49_1, hfz49_2, hfz49_3, hfz49_4, hfz49_5, hfz49_6, hfz49_7, hfz49_8⟩ := frozens9 BK117.out; have := NB118_119.out; have := NB119_118.out; obtain ⟨_, _⟩ := cells2 BK118.out; obtain ⟨_, _⟩ := frozens2 BK118.out; have q52 : ((l0_8.length : Int) : Int) ≤ ((l0_8.length : Int) : Int) := of_decide_eq_true ap2; obtain ⟨i052, hi052, _, hsz52, _⟩ := info_parts info9; have hroom52 : l0_8.length ≤ c0_8 := (Kd.V_reads' HO_118008.out).2.1; have hC52 : Kd.F Kd.string _ _ A0_8 l0_8.length l0_8 := (Kd.V_at (base := w.heap.size) HO_118008.out).2.2; have hcut52 := Go.Proofs.YtapfpdjcbeiibaaDoor.Full.cut_full (P := Tryd.prog) 29 9 .i64 .i64 Tryd.underlying29 hi052 A0_8 l0_8.length c0_8 (l0_8.length : Int) (of_decide_eq_true ap2) q52 hroom52; have hr52 := Kd.F_take (m := ((l0_8.length : Int) : Int).toNat) hC52 (by omega); have hy52 : y124.length = ((l0_8.length : Int) : Int).toNat := (by rw [Ny124.out, List.length_take]; omega); rw [← Ny124.out] at hr52; rw [← hy52] at hcut52; have HO128 := am (show Kd.V Kd.string 9 _ w.heap.size _ (.slice A0_8 y124.length y124.length) y124 from Kd.V_mk (by omega) hr52); have HC128 := am (show y124.length ≤ y124.length from by omega); clear hr52 hC52 hroom52 hi052 hsz52; have KY52 := am hy52; clear hy52; replace q52 := eq_true q52
                        go_wp2_with (first | ((with_reducible refine gate_builtin (b := .append) (xs := #[.tmp 67, .tmp 69]) rfl ?_); (try (refine gate_guard (by rfl) ?_; dsimp only)); at_builtin; refine Go.Proofs.YtapfpdjcbeiibaaDoor.Full.R_append_full_string (w0 := w) w.heap.size rfl (.tmp 67) (.tmp 69) 29 9 (.string ⟨#[]⟩) 16 rfl Tryd.underlying29 info9 rfl (by omega) _ y124 a2 (fun k_ => (w.heap.size ≤ k_)) rfl rfl ?aV ?aF ?aB ?aS ?aL ?_; (case aV => exact (Kd.V_reads' (HO128.out)).2.2); (case aB => exact (beu HB.out)); (case aF => exact (fun k_ hk => (Nat.le_trans (below_size (beu HB.out)) hk))); (case aS => exact (below_size (beu HB.out))); (case aL => have := LMc46.out; omega); intro v130 w53 ho hb hg hat; rw [← Ny129.out] at ho; have _ := am (Kd.V_afterv (Kd.V_apart_nil (by (with_reducible repeat (first | apply Kd.V_alloc | apply Kd.V_drewN | apply Kd.V_drew)); exact HO_118008.out)) hg hat); have _ := am (blk_grown (bu BK117.out) hg (by simp [Value.ownBlock])); have _ := am (blk_grown (bu BK118.out) hg (by simp [Value.ownBlock])); have _ := am (blk_grown (bu BK119.out) hg (by simp [Value.ownBlock])); have _ := am (Kd.V_afterv (Kd.V_apart_nil (by (with_reducible repeat (first | apply Kd.V_alloc | apply Kd.V_drewN | apply Kd.V_drew)); exact HO128.out)) hg hat); have _ := am (hb); have _ := am (ho); clear HO_118008 BK117 BK118 BK119 HO128 HB; rename_i HO_118008 BK117 BK118 BK119 HO128 HB HO131; clear ho hb hg hat; obtain ⟨Ao54, co54, eo54⟩ := Kd.R_slice HO131.out; subst eo54; obtain ⟨_, _, _, _, _, _, _, _, _⟩ := cells9 BK117.out; obtain ⟨_, _, _, _, _, _, _, _, _⟩ := frozens9 BK117.out; obtain ⟨_, _, _, _, _, _, _, _, _⟩ := cells9 BK119.out; obtain ⟨_, _, _, _, _, _, _, _, _⟩ := frozens9 BK119.out))
                        refine bodyPost_ret (results_ct rfl _ _ gb119 31 #[.int .i64 a0_0, .int .i64 t120, .int .i64 a0_2, .int .i64 a0_3, .int .i64 a0_4, .string a0_5, .string a0_6, .string a0_7, .slice Ao54 y129.length co54] (0, 0) _ rfl (by (with_reducible repeat (first | refine blk_drewN ?_ _ | refine blk_drew ?_ | refine blk_alloc ?_ _)); refine blk_put (cs := #[.int .i64 a0_0, .int .i64 t120, .int .i64 a0_2, .int .i64 a0_3, .int .i64 a0_4, .string a0_5, .string a0_6, .string a0_7, .slice none 0 0]) ?_ 8 _ rfl; (with_reducible repeat (first | refine blk_drewN ?_ _ | refine blk_drew ?_ | refine blk_alloc ?_ _)); refine blk_put (cs := #[.int .i64 a0_0, .int .i64 t120, .int .i64 a0_2, .int .i64 a0_3, .int .i64 a0_4, .string a0_5, .string a0_6, .string ⟨#[]⟩, .slice none 0 0]) ?_ 7 _ rfl; (with_reducible repeat (first | refine blk_drewN ?_ _ | refine blk_drew ?_ | refine blk_alloc ?_ _)); refine blk_put (cs := #[.int .i64 a0_0, .int .i64 t120, .int .i64 a0_2, .int .i64 a0_3, .int .i64 a0_4, .string a0_5, .string ⟨#[]⟩, .string ⟨#[]⟩, .slice none 0 0]) ?_ 6 _ rfl; (with_reducible repeat (first | refine blk_drewN ?_ _ | refine blk_drew ?_ | refine blk_alloc ?_ _)); refine blk_put (cs := #[.int .i64 a0_0, .int .i64 t120, .int .i64 a0_2, .int .i64 a0_3, .int .i64 a0_4, .string ⟨#[]⟩, .string ⟨#[]⟩, .string ⟨#[]⟩, .slice none 0 0]) ?_ 5 _ rfl; (with_reducible repeat (first | refine blk_drewN ?_ _ | refine blk_drew ?_ | refine blk_alloc ?_ _)); refine blk_put (cs := #[.int .i64 a0_0, .int .i64 t120, .int .i64 a0_2, .int .i64 a0_3, .int .i64 0, .string ⟨#[]⟩, .string ⟨#[]⟩, .string ⟨#[]⟩, .slice none 0 0]) ?_ 4 _ rfl; (with_reducible repeat (first | refine blk_drewN ?_ _ | refine blk_drew ?_ | refine blk_alloc ?_ _)); refine blk_put (cs := #[.int .i64 a0_0, .int .i64 t120, .int .i64 a0_2, .int .i64 0, .int .i64 0, .string ⟨#[]⟩, .string ⟨#[]⟩, .string ⟨#[]⟩, .slice none 0 0]) ?_ 3 _ rfl; (with_reducible repeat (first | refine blk_drewN ?_ _ | refine blk_drew ?_ | refine blk_alloc ?_ _)); refine blk_put (cs := #[.int .i64 a0_0, .int .i64 t120, .int .i64 0, .int .i64 0, .int .i64 0, .string ⟨#[]⟩, .string ⟨#[]⟩, .string ⟨#[]⟩, .slice none 0 0]) ?_ 2 _ rfl; (with_reducible repeat (first | refine blk_drewN ?_ _ | refine blk_drew ?_ | refine blk_alloc ?_ _)); refine blk_put (cs := #[.int .i64 a0_0, .int .i64 0, .int .i64 0, .int .i64 0, .int .i64 0, .string ⟨#[]⟩, .string ⟨#[]⟩, .string ⟨#[]⟩, .slice none 0 0]) ?_ 1 _ rfl; (with_reducible repeat (first | refine blk_drewN ?_ _ | refine blk_drew ?_ | refine blk_alloc ?_ _)); refine blk_put (cs := #[.int .i64 0, .int .i64 0, .int .i64 0, .int .i64 0, .int .i64 0, .string ⟨#[]⟩, .string ⟨#[]⟩, .string ⟨#[]⟩, .slice none 0 0]) ?_ 0 _ rfl; (with_reducible repeat (first | refine blk_drewN ?_ _ | refine blk_drew ?_ | refine blk_alloc ?_ _)); refine blk_far ?_ NB119_117.out _; (with_reducible repeat (first | refine blk_drewN ?_ _ | refine blk_drew ?_ | refine blk_alloc ?_ _)); refine blk_far ?_ NB119_117.out _; (with_reducible repeat (first | refine blk_drewN ?_ _ | refine blk_drew ?_ | refine blk_alloc ?_ _)); exact BK119.out) Tryd.underlying31 rfl (by kernel_rfl)) rfl ?_; exact ⟨_, ap4, Kd.V_mono (Kd.R_V (ru (Kd.R_mono (rf gb119 8 (rf gb119 7 (rf gb119 6 (rf gb119 5 (rf gb119 4 (rf gb119 3 (rf gb119 2 (rf gb119 1 (rf gb119 0 (Kd.R_far (p := ⟨gb117, 1, none⟩) (Kd.R_far (p := ⟨gb117, 8, none⟩) (Kd.R_types (Kd.R_types HO131.out BK117.out (by decide)) BK119.out (by decide)) (fun _ hk => hk.1.2) (.slice Ao54 y129.length co54)) (fun _ hk => hk.1.2) (.int .i64 t120)) (.int .i64 a0_0)) (.int .i64 t120)) (.int .i64 a0_2)) (.int .i64 a0_3)) (.int .i64 a0_4)) (.string a0_5)) (.string a0_6)) (.string a0_7)) (.slice Ao54 y129.length co54)) (fun _ hk => by first | exact hk.1.1 | exact hk.1)))) (fun k_ hk => by first | exact ⟨(.inr (hk.1)), hk.2⟩ | exact (.inr (hk))), beu HB.out⟩
                      · rw [if_neg c46] at H
                        exact absurd H (by simp)
                    · rw [if_neg c45] at H
                      exact absurd H (by simp)
                  · rw [if_neg c44] at H
                    exact absurd H (by simp)
            · rw [if_neg c29] at H
              have c29b0 : decide (0 < (l0_8.length : Int)) = false := decide_eq_false c29; have c29b1 : decide (0 < l0_8.length) = false := decide_eq_false (by omega); clear c29
              by_cases c57 : 0 ≤ (l0_8.length : Int)
              · rw [if_pos c57] at H
                have c57b0 := eq_true c57; have c57b1 : decide (0 ≤ (l0_8.length : Int)) = true := decide_eq_true c57; clear c57
                by_cases c58 : (l0_8.length : Int) ≤ (l0_8.length : Int)
                · rw [if_pos c58] at H
                  have c58b0 := eq_true c58; have c58b1 : decide ((l0_8.length : Int) ≤ (l0_8.length : Int)) = true := decide_eq_true c58; clear c58; obtain ⟨y132, hy132⟩ : ∃ y_ : List ByteArray, y_ = (l0_8.take ((l0_8.length : Int) : Int).toNat) := ⟨_, rfl⟩
                  replace H : (if y132.length < 8796093022208 then (some (a0_0, t120, a0_2, a0_3, a0_4, a0_5, a0_6, a0_7, (y132 ++ [a2]), 0)) else (none)) = some (r1, r2, r3, r4, r5, r6, r7, r8, r9, r10) := by first | (rw [hy132]; with_reducible exact H) | (have H2_ := (Option.bind_some _ _).symm.trans H; rw [hy132]; with_reducible exact H2_) | (have H2_ := (Option.bind_some _ _).symm.trans H; with_reducible exact H2_) | with_reducible exact H | (rw [hy132]; exact H) | exact H
                  have Ny132 := am hy132; clear hy132
                  by_cases c59 : y132.length < 8796093022208
                  · rw [if_pos c59] at H
                    have LMc59 := am c59; clear c59; obtain ⟨y137, hy137⟩ : ∃ y_ : List ByteArray, y_ = (y132 ++ [a2]) := ⟨_, rfl⟩
                    replace H : (some (a0_0, t120, a0_2, a0_3, a0_4, a0_5, a0_6, a0_7, y137, 0)) = some (r1, r2, r3, r4, r5, r6, r7, r8, r9, r10) := by first | (rw [hy137]; with_reducible exact H) | (have H2_ := (Option.bind_some _ _).symm.trans H; rw [hy137]; with_reducible exact H2_) | (have H2_ := (Option.bind_some _ _).symm.trans H; with_reducible exact H2_) | with_reducible exact H | (rw [hy137]; exact H) | exact H
                    have Ny137 := am hy137; clear hy137; simp only [Option.some.injEq, Prod.mk.injEq] at H; obtain ⟨rfl, rfl, rfl, rfl, rfl, rfl, rfl, rfl, rfl, rfl⟩ := H; have := NB117_118.out; have := NB118_117.out; have := NB117_119.out; have := NB119_117.out; obtain ⟨_, _, _, _, _, _, _, _, _⟩ := cells9 BK117.out; obtain ⟨_, _, _, _, _, _, _, _, _⟩ := frozens9 BK117.out; have q63 : ((l0_8.length : Int) : Int) ≤ ((l0_8.length : Int) : Int) := of_decide_eq_true ap2; obtain ⟨i063, hi063, _, hsz63, _⟩ := info_parts info9; have hroom63 : l0_8.length ≤ c0_8 := (Kd.V_reads' HO_118008.out).2.1; have hC63 : Kd.F Kd.string _ _ A0_8 l0_8.length l0_8 := (Kd.V_at (base := w.heap.size) HO_118008.out).2.2; have hcut63 := Go.Proofs.YtapfpdjcbeiibaaDoor.Full.cut_full (P := Tryd.prog) 29 9 .i64 .i64 Tryd.underlying29 hi063 A0_8 l0_8.length c0_8 (l0_8.length : Int) (of_decide_eq_true ap2) q63 hroom63; have hr63 := Kd.F_take (m := ((l0_8.length : Int) : Int).toNat) hC63 (by omega); have hy63 : y132.length = ((l0_8.length : Int) : Int).toNat := (by rw [Ny132.out, List.length_take]; omega); rw [← Ny132.out] at hr63; rw [← hy63] at hcut63; have HO136 := am (show Kd.V Kd.string 9 _ w.heap.size _ (.slice A0_8 y132.length y132.length) y132 from Kd.V_mk (by omega) hr63); have HC136 := am (show y132.length ≤ y132.length from by omega); clear hr63 hC63 hroom63 hi063 hsz63; have KY63 := am hy63; clear hy63; replace q63 := eq_true q63
                    go_wp2_with (first | ((with_reducible refine gate_builtin (b := .append) (xs := #[.tmp 67, .tmp 69]) rfl ?_); (try (refine gate_guard (by rfl) ?_; dsimp only)); at_builtin; refine Go.Proofs.YtapfpdjcbeiibaaDoor.Full.R_append_full_string (w0 := w) w.heap.size rfl (.tmp 67) (.tmp 69) 29 9 (.string ⟨#[]⟩) 16 rfl Tryd.underlying29 info9 rfl (by omega) _ y132 a2 (fun k_ => (w.heap.size ≤ k_)) rfl rfl ?aV ?aF ?aB ?aS ?aL ?_; (case aV => exact (Kd.V_reads' (HO136.out)).2.2); (case aB => exact (beu HB.out)); (case aF => exact (fun k_ hk => (Nat.le_trans (below_size (beu HB.out)) hk))); (case aS => exact (below_size (beu HB.out))); (case aL => have := LMc59.out; omega); intro v138 w64 ho hb hg hat; rw [← Ny137.out] at ho; have _ := am (Kd.V_afterv (Kd.V_apart_nil (by (with_reducible repeat (first | apply Kd.V_alloc | apply Kd.V_drewN | apply Kd.V_drew)); exact HO_118008.out)) hg hat); have _ := am (blk_grown (bu BK117.out) hg (by simp [Value.ownBlock])); have _ := am (blk_grown (bu BK118.out) hg (by simp [Value.ownBlock])); have _ := am (blk_grown (bu BK119.out) hg (by simp [Value.ownBlock])); have _ := am (Kd.V_afterv (Kd.V_apart_nil (by (with_reducible repeat (first | apply Kd.V_alloc | apply Kd.V_drewN | apply Kd.V_drew)); exact HO136.out)) hg hat); have _ := am (hb); have _ := am (ho); clear HO_118008 BK117 BK118 BK119 HO136 HB; rename_i HO_118008 BK117 BK118 BK119 HO136 HB HO139; clear ho hb hg hat; obtain ⟨Ao65, co65, eo65⟩ := Kd.R_slice HO139.out; subst eo65; obtain ⟨_, _, _, _, _, _, _, _, _⟩ := cells9 BK117.out; obtain ⟨_, _, _, _, _, _, _, _, _⟩ := frozens9 BK117.out; have := NB119_118.out; have := NB118_119.out; obtain ⟨_, _, _, _, _, _, _, _, _⟩ := cells9 BK119.out; obtain ⟨_, _, _, _, _, _, _, _, _⟩ := frozens9 BK119.out))
                    refine bodyPost_ret (results_ct rfl _ _ gb119 31 #[.int .i64 a0_0, .int .i64 t120, .int .i64 a0_2, .int .i64 a0_3, .int .i64 a0_4, .string a0_5, .string a0_6, .string a0_7, .slice Ao65 y137.length co65] (0, 0) _ rfl (by (with_reducible repeat (first | refine blk_drewN ?_ _ | refine blk_drew ?_ | refine blk_alloc ?_ _)); refine blk_put (cs := #[.int .i64 a0_0, .int .i64 t120, .int .i64 a0_2, .int .i64 a0_3, .int .i64 a0_4, .string a0_5, .string a0_6, .string a0_7, .slice none 0 0]) ?_ 8 _ rfl; (with_reducible repeat (first | refine blk_drewN ?_ _ | refine blk_drew ?_ | refine blk_alloc ?_ _)); refine blk_put (cs := #[.int .i64 a0_0, .int .i64 t120, .int .i64 a0_2, .int .i64 a0_3, .int .i64 a0_4, .string a0_5, .string a0_6, .string ⟨#[]⟩, .slice none 0 0]) ?_ 7 _ rfl; (with_reducible repeat (first | refine blk_drewN ?_ _ | refine blk_drew ?_ | refine blk_alloc ?_ _)); refine blk_put (cs := #[.int .i64 a0_0, .int .i64 t120, .int .i64 a0_2, .int .i64 a0_3, .int .i64 a0_4, .string a0_5, .string ⟨#[]⟩, .string ⟨#[]⟩, .slice none 0 0]) ?_ 6 _ rfl; (with_reducible repeat (first | refine blk_drewN ?_ _ | refine blk_drew ?_ | refine blk_alloc ?_ _)); refine blk_put (cs := #[.int .i64 a0_0, .int .i64 t120, .int .i64 a0_2, .int .i64 a0_3, .int .i64 a0_4, .string ⟨#[]⟩, .string ⟨#[]⟩, .string ⟨#[]⟩, .slice none 0 0]) ?_ 5 _ rfl; (with_reducible repeat (first | refine blk_drewN ?_ _ | refine blk_drew ?_ | refine blk_alloc ?_ _)); refine blk_put (cs := #[.int .i64 a0_0, .int .i64 t120, .int .i64 a0_2, .int .i64 a0_3, .int .i64 0, .string ⟨#[]⟩, .string ⟨#[]⟩, .string ⟨#[]⟩, .slice none 0 0]) ?_ 4 _ rfl; (with_reducible repeat (first | refine blk_drewN ?_ _ | refine blk_drew ?_ | refine blk_alloc ?_ _)); refine blk_put (cs := #[.int .i64 a0_0, .int .i64 t120, .int .i64 a0_2, .int .i64 0, .int .i64 0, .string ⟨#[]⟩, .string ⟨#[]⟩, .string ⟨#[]⟩, .slice none 0 0]) ?_ 3 _ rfl; (with_reducible repeat (first | refine blk_drewN ?_ _ | refine blk_drew ?_ | refine blk_alloc ?_ _)); refine blk_put (cs := #[.int .i64 a0_0, .int .i64 t120, .int .i64 0, .int .i64 0, .int .i64 0, .string ⟨#[]⟩, .string ⟨#[]⟩, .string ⟨#[]⟩, .slice none 0 0]) ?_ 2 _ rfl; (with_reducible repeat (first | refine blk_drewN ?_ _ | refine blk_drew ?_ | refine blk_alloc ?_ _)); refine blk_put (cs := #[.int .i64 a0_0, .int .i64 0, .int .i64 0, .int .i64 0, .int .i64 0, .string ⟨#[]⟩, .string ⟨#[]⟩, .string ⟨#[]⟩, .slice none 0 0]) ?_ 1 _ rfl; (with_reducible repeat (first | refine blk_drewN ?_ _ | refine blk_drew ?_ | refine blk_alloc ?_ _)); refine blk_put (cs := #[.int .i64 0, .int .i64 0, .int .i64 0, .int .i64 0, .int .i64 0, .string ⟨#[]⟩, .string ⟨#[]⟩, .string ⟨#[]⟩, .slice none 0 0]) ?_ 0 _ rfl; (with_reducible repeat (first | refine blk_drewN ?_ _ | refine blk_drew ?_ | refine blk_alloc ?_ _)); refine blk_far ?_ NB119_117.out _; (with_reducible repeat (first | refine blk_drewN ?_ _ | refine blk_drew ?_ | refine blk_alloc ?_ _)); refine blk_far ?_ NB119_117.out _; (with_reducible repeat (first | refine blk_drewN ?_ _ | refine blk_drew ?_ | refine blk_alloc ?_ _)); exact BK119.out) Tryd.underlying31 rfl (by kernel_rfl)) rfl ?_; exact ⟨_, ap4, Kd.V_mono (Kd.R_V (ru (Kd.R_mono (rf gb119 8 (rf gb119 7 (rf gb119 6 (rf gb119 5 (rf gb119 4 (rf gb119 3 (rf gb119 2 (rf gb119 1 (rf gb119 0 (Kd.R_far (p := ⟨gb117, 1, none⟩) (Kd.R_far (p := ⟨gb117, 8, none⟩) (Kd.R_types (Kd.R_types HO139.out BK117.out (by decide)) BK119.out (by decide)) (fun _ hk => hk.1.2) (.slice Ao65 y137.length co65)) (fun _ hk => hk.1.2) (.int .i64 t120)) (.int .i64 a0_0)) (.int .i64 t120)) (.int .i64 a0_2)) (.int .i64 a0_3)) (.int .i64 a0_4)) (.string a0_5)) (.string a0_6)) (.string a0_7)) (.slice Ao65 y137.length co65)) (fun _ hk => by first | exact hk.1.1 | exact hk.1)))) (fun k_ hk => by first | exact ⟨(.inr (hk.1)), hk.2⟩ | exact (.inr (hk))), beu HB.out⟩
                  · rw [if_neg c59] at H
                    exact absurd H (by simp)
                · rw [if_neg c58] at H
                  exact absurd H (by simp)
              · rw [if_neg c57] at H
                exact absurd H (by simp)
          · rw [if_neg c28] at H
            have c28b0 : (t121 == 0) = false := beq_eq_false_iff_ne.mpr c28; have c28b1 : (t121 != 0) = true := bne_iff_ne.mpr c28; simp only [Option.some.injEq, Prod.mk.injEq] at H; obtain ⟨rfl, rfl, rfl, rfl, rfl, rfl, rfl, rfl, rfl, rfl⟩ := H; have := NB117_118.out; have := NB118_117.out; have := NB117_119.out; have := NB119_117.out; obtain ⟨_, _, _, _, _, _, _, _, _⟩ := cells9 BK117.out; obtain ⟨_, _, _, _, _, _, _, _, _⟩ := frozens9 BK117.out; have := NB119_118.out; have := NB118_119.out; obtain ⟨_, _, _, _, _, _, _, _, _⟩ := cells9 BK119.out; obtain ⟨_, _, _, _, _, _, _, _, _⟩ := frozens9 BK119.out
            go_wp2
            refine bodyPost_ret (results_ct rfl _ _ gb119 31 #[.int .i64 a0_0, .int .i64 a0_1, .int .i64 a0_2, .int .i64 a0_3, .int .i64 a0_4, .string a0_5, .string a0_6, .string a0_7, .slice A0_8 l0_8.length c0_8] (0, 0) _ rfl (by (with_reducible repeat (first | refine blk_drewN ?_ _ | refine blk_drew ?_ | refine blk_alloc ?_ _)); refine blk_put (cs := #[.int .i64 a0_0, .int .i64 a0_1, .int .i64 a0_2, .int .i64 a0_3, .int .i64 a0_4, .string a0_5, .string a0_6, .string a0_7, .slice none 0 0]) ?_ 8 _ rfl; (with_reducible repeat (first | refine blk_drewN ?_ _ | refine blk_drew ?_ | refine blk_alloc ?_ _)); refine blk_put (cs := #[.int .i64 a0_0, .int .i64 a0_1, .int .i64 a0_2, .int .i64 a0_3, .int .i64 a0_4, .string a0_5, .string a0_6, .string ⟨#[]⟩, .slice none 0 0]) ?_ 7 _ rfl; (with_reducible repeat (first | refine blk_drewN ?_ _ | refine blk_drew ?_ | refine blk_alloc ?_ _)); refine blk_put (cs := #[.int .i64 a0_0, .int .i64 a0_1, .int .i64 a0_2, .int .i64 a0_3, .int .i64 a0_4, .string a0_5, .string ⟨#[]⟩, .string ⟨#[]⟩, .slice none 0 0]) ?_ 6 _ rfl; (with_reducible repeat (first | refine blk_drewN ?_ _ | refine blk_drew ?_ | refine blk_alloc ?_ _)); refine blk_put (cs := #[.int .i64 a0_0, .int .i64 a0_1, .int .i64 a0_2, .int .i64 a0_3, .int .i64 a0_4, .string ⟨#[]⟩, .string ⟨#[]⟩, .string ⟨#[]⟩, .slice none 0 0]) ?_ 5 _ rfl; (with_reducible repeat (first | refine blk_drewN ?_ _ | refine blk_drew ?_ | refine blk_alloc ?_ _)); refine blk_put (cs := #[.int .i64 a0_0, .int .i64 a0_1, .int .i64 a0_2, .int .i64 a0_3, .int .i64 0, .string ⟨#[]⟩, .string ⟨#[]⟩, .string ⟨#[]⟩, .slice none 0 0]) ?_ 4 _ rfl; (with_reducible repeat (first | refine blk_drewN ?_ _ | refine blk_drew ?_ | refine blk_alloc ?_ _)); refine blk_put (cs := #[.int .i64 a0_0, .int .i64 a0_1, .int .i64 a0_2, .int .i64 0, .int .i64 0, .string ⟨#[]⟩, .string ⟨#[]⟩, .string ⟨#[]⟩, .slice none 0 0]) ?_ 3 _ rfl; (with_reducible repeat (first | refine blk_drewN ?_ _ | refine blk_drew ?_ | refine blk_alloc ?_ _)); refine blk_put (cs := #[.int .i64 a0_0, .int .i64 a0_1, .int .i64 0, .int .i64 0, .int .i64 0, .string ⟨#[]⟩, .string ⟨#[]⟩, .string ⟨#[]⟩, .slice none 0 0]) ?_ 2 _ rfl; (with_reducible repeat (first | refine blk_drewN ?_ _ | refine blk_drew ?_ | refine blk_alloc ?_ _)); refine blk_put (cs := #[.int .i64 a0_0, .int .i64 0, .int .i64 0, .int .i64 0, .int .i64 0, .string ⟨#[]⟩, .string ⟨#[]⟩, .string ⟨#[]⟩, .slice none 0 0]) ?_ 1 _ rfl; (with_reducible repeat (first | refine blk_drewN ?_ _ | refine blk_drew ?_ | refine blk_alloc ?_ _)); refine blk_put (cs := #[.int .i64 0, .int .i64 0, .int .i64 0, .int .i64 0, .int .i64 0, .string ⟨#[]⟩, .string ⟨#[]⟩, .string ⟨#[]⟩, .slice none 0 0]) ?_ 0 _ rfl; (with_reducible repeat (first | refine blk_drewN ?_ _ | refine blk_drew ?_ | refine blk_alloc ?_ _)); exact BK119.out) Tryd.underlying31 rfl (by kernel_rfl)) rfl ?_; exact ⟨_, ap4, by (with_reducible repeat (first | apply Kd.V_alloc | apply Kd.V_drewN | apply Kd.V_drew)); exact Kd.V_mono (vf gb119 8 (vf gb119 7 (vf gb119 6 (vf gb119 5 (vf gb119 4 (vf gb119 3 (vf gb119 2 (vf gb119 1 (vf gb119 0 (Kd.V_mono HO_118008.out (fun k_ hk => (⟨hk, hk.2.2.2⟩ : _ ∧ k_ ≠ gb119))) (.int .i64 a0_0)) (.int .i64 a0_1)) (.int .i64 a0_2)) (.int .i64 a0_3)) (.int .i64 a0_4)) (.string a0_5)) (.string a0_6)) (.string a0_7)) (.slice A0_8 l0_8.length c0_8)) (fun _ hk => by first | exact hk.1.1 | exact hk.1), beu HB.out⟩
  · rw [if_neg c6] at H
    have c6b0 : (a0_4 == 1) = false := beq_eq_false_iff_ne.mpr c6; have c6b1 : (a0_4 != 1) = true := bne_iff_ne.mpr c6; simp only [Option.some.injEq, Prod.mk.injEq] at H; obtain ⟨rfl, rfl, rfl, rfl, rfl, rfl, rfl, rfl, rfl, rfl⟩ := H
    go_enter Tryd.func13, Tryd.ntmps13
    go_wp2_with (first | ((with_reducible refine gate_dst (N := 4) rfl ?_); (try (refine gate_guard (by rfl) ?_; dsimp only)); refine box_event ?hg (N := 4) ?hd (cs := #[.int .i64 a0_0, .int .i64 a0_1, .int .i64 a0_2, .int .i64 a0_3, .int .i64 a0_4, .string a0_5, .string a0_6, .string a0_7, .slice A0_8 l0_8.length c0_8]) (t := 31) ?hr ?_; (case hd => rfl); (case hg => rfl); (case hr => first | (go_simp; done) | (go_simp; rfl)); intro gb117 hg w74 hbox hb; have _ := am (Kd.V_below (Kd.V_elderB (by (with_reducible repeat (first | apply Kd.V_alloc | apply Kd.V_drewN | apply Kd.V_drew)); exact HO0_8.out) gb117 (Nat.le_of_eq hg.symm)) hb); have _ := am (below_step (beu HB.out) hb); have _ := am (hbox); have _ := am ((by rw [hg]; exact (below_size (beu HB.out)) : w.heap.size ≤ gb117)); have _ := am ((by rw [hg]; exact (below_size (beu HB.out)) : w.heap.size ≤ gb117)); clear HO0_8 HB; rename_i HO0_8 HB BK117 GW117 GE117; clear hb hbox hg) | ((with_reducible refine gate_dst (N := 5) rfl ?_); (try (refine gate_guard (by rfl) ?_; dsimp only)); refine box_event ?hg (N := 5) ?hd (cs := #[.int .i64 a1_0, .int .i64 a1_1]) (t := 23) ?hr ?_; (case hd => rfl); (case hg => rfl); (case hr => first | (go_simp; done) | (go_simp; rfl)); intro gb118 hg w75 hbox hb; have _ := am (Kd.V_below (Kd.V_elderB (by (with_reducible repeat (first | apply Kd.V_alloc | apply Kd.V_drewN | apply Kd.V_drew)); exact HO0_8.out) gb118 (Nat.le_of_eq hg.symm)) hb); have _ := am (blk_below (bu BK117.out) hb); have _ := am (below_step (beu HB.out) hb); have _ := am (hbox); have _ := am ((by rw [hg]; exact (below_size (beu HB.out)) : w.heap.size ≤ gb118)); have _ := am ((by rw [hg]; exact (below_size (beu HB.out)) : w.heap.size ≤ gb118)); have _ := am (nb1 hg BK117.out : gb117 ≠ gb118); have _ := am (nb2 hg BK117.out : gb118 ≠ gb117); clear HO0_8 BK117 HB; rename_i HO0_8 BK117 HB BK118 GW118 GE118 NB117_118 NB118_117; clear hb hbox hg) | ((with_reducible refine gate_dst (N := 8) rfl ?_); (try (refine gate_guard (by rfl) ?_; dsimp only)); refine box_event ?hg (N := 8) ?hd (cs := #[.int .i64 0, .int .i64 0, .int .i64 0, .int .i64 0, .int .i64 0, .string ⟨#[]⟩, .string ⟨#[]⟩, .string ⟨#[]⟩, .slice none 0 0]) (t := 31) ?hr ?_; (case hd => rfl); (case hg => rfl); (case hr => first | (go_simp; done) | (go_simp; rfl)); intro gb119 hg w76 hbox hb; have _ := am (Kd.V_below (Kd.V_elderB (by (with_reducible repeat (first | apply Kd.V_alloc | apply Kd.V_drewN | apply Kd.V_drew)); exact HO0_8.out) gb119 (Nat.le_of_eq hg.symm)) hb); have _ := am (blk_below (bu BK117.out) hb); have _ := am (blk_below (bu BK118.out) hb); have _ := am (below_step (beu HB.out) hb); have _ := am (hbox); have _ := am ((by rw [hg]; exact (below_size (beu HB.out)) : w.heap.size ≤ gb119)); have _ := am ((by rw [hg]; exact (below_size (beu HB.out)) : w.heap.size ≤ gb119)); have _ := am (nb1 hg BK117.out : gb117 ≠ gb119); have _ := am (nb2 hg BK117.out : gb119 ≠ gb117); have _ := am (nb1 hg BK118.out : gb118 ≠ gb119); have _ := am (nb2 hg BK118.out : gb119 ≠ gb118); clear HO0_8 BK117 BK118 HB; rename_i HO0_8 BK117 BK118 HB BK119 GW119 GE119 NB117_119 NB119_117 NB118_119 NB119_118; clear hb hbox hg; have := NB117_118.out; have := NB118_117.out; have := NB117_119.out; have := NB119_117.out; obtain ⟨_, _, _, _, _, _, _, _, _⟩ := cells9 BK117.out; obtain ⟨_, _, _, _, _, _, _, _, _⟩ := frozens9 BK117.out) | ((with_reducible refine gate_callee (f := 32) rfl ?_); refine goesL_ (some 17) rfl rfl Tryd.func32 (by kernel_rfl) rfl #[.int .i64 a0_1, .int .i64 a3] rfl ap1 ?_; (with_reducible refine (tally_Add.calls a0_1 a3 t120 t121 _ A5.out).mono ?_); rintro e w' ⟨rfl, ⟨nd, rfl⟩⟩; refine ⟨_, rfl, ?_⟩; (try (rw [drewN_self w76]; generalize hq_ : World.drewN w76 _ = w76; have _ : Aside0 (Kd.V Kd.string 9 w76 w.heap.size (fun k_ => (P0_8_ k_ ∨ w.heap.size ≤ k_) ∧ k_ ≠ gb117 ∧ k_ ≠ gb118 ∧ k_ ≠ gb119) (.slice A0_8 l0_8.length c0_8) l0_8) := ⟨by rw [← hq_]; exact (by (with_reducible repeat (first | apply Kd.V_alloc | apply Kd.V_drewN | apply Kd.V_drew)); exact Kd.V_mono HO0_8.out (fun _ hk => ⟨hk.1.1.1, ⟨hk.1.1.2, ⟨hk.1.2, hk.2⟩⟩⟩))⟩; have _ : Aside0 (w76.heap[gb117]? = some (.cells #[.int .i64 a0_0, .int .i64 a0_1, .int .i64 a0_2, .int .i64 a0_3, .int .i64 a0_4, .string a0_5, .string a0_6, .string a0_7, .slice A0_8 l0_8.length c0_8] 31 (0, 0))) := ⟨by rw [← hq_]; exact (bu BK117.out)⟩; have _ : Aside0 (w76.heap[gb118]? = some (.cells #[.int .i64 a1_0, .int .i64 a1_1] 23 (0, 0))) := ⟨by rw [← hq_]; exact (bu BK118.out)⟩; have _ : Aside0 (w76.heap[gb119]? = some (.cells #[.int .i64 0, .int .i64 0, .int .i64 0, .int .i64 0, .int .i64 0, .string ⟨#[]⟩, .string ⟨#[]⟩, .string ⟨#[]⟩, .slice none 0 0] 31 (0, 0))) := ⟨by rw [← hq_]; exact (bu BK119.out)⟩; have _ : Aside0 (Below w.heap.size w w76) := ⟨by rw [← hq_]; exact (beu HB.out)⟩; clear HO0_8 BK117 BK118 BK119 HB hq_; rename_i HO0_8 BK117 BK118 BK119 HB)); obtain ⟨_, _, _, _, _, _, _, _, _⟩ := cells9 BK117.out; obtain ⟨_, _, _, _, _, _, _, _, _⟩ := frozens9 BK117.out; have := NB119_118.out; have := NB118_119.out; obtain ⟨_, _, _, _, _, _, _, _, _⟩ := cells9 BK119.out; obtain ⟨_, _, _, _, _, _, _, _, _⟩ := frozens9 BK119.out))
    refine bodyPost_ret (results_ct rfl _ _ gb119 31 #[.int .i64 a0_0, .int .i64 a0_1, .int .i64 a0_2, .int .i64 a0_3, .int .i64 a0_4, .string a0_5, .string a0_6, .string a0_7, .slice A0_8 l0_8.length c0_8] (0, 0) _ rfl (by (with_reducible repeat (first | refine blk_drewN ?_ _ | refine blk_drew ?_ | refine blk_alloc ?_ _)); refine blk_put (cs := #[.int .i64 a0_0, .int .i64 a0_1, .int .i64 a0_2, .int .i64 a0_3, .int .i64 a0_4, .string a0_5, .string a0_6, .string a0_7, .slice none 0 0]) ?_ 8 _ rfl; (with_reducible repeat (first | refine blk_drewN ?_ _ | refine blk_drew ?_ | refine blk_alloc ?_ _)); refine blk_put (cs := #[.int .i64 a0_0, .int .i64 a0_1, .int .i64 a0_2, .int .i64 a0_3, .int .i64 a0_4, .string a0_5, .string a0_6, .string ⟨#[]⟩, .slice none 0 0]) ?_ 7 _ rfl; (with_reducible repeat (first | refine blk_drewN ?_ _ | refine blk_drew ?_ | refine blk_alloc ?_ _)); refine blk_put (cs := #[.int .i64 a0_0, .int .i64 a0_1, .int .i64 a0_2, .int .i64 a0_3, .int .i64 a0_4, .string a0_5, .string ⟨#[]⟩, .string ⟨#[]⟩, .slice none 0 0]) ?_ 6 _ rfl; (with_reducible repeat (first | refine blk_drewN ?_ _ | refine blk_drew ?_ | refine blk_alloc ?_ _)); refine blk_put (cs := #[.int .i64 a0_0, .int .i64 a0_1, .int .i64 a0_2, .int .i64 a0_3, .int .i64 a0_4, .string ⟨#[]⟩, .string ⟨#[]⟩, .string ⟨#[]⟩, .slice none 0 0]) ?_ 5 _ rfl; (with_reducible repeat (first | refine blk_drewN ?_ _ | refine blk_drew ?_ | refine blk_alloc ?_ _)); refine blk_put (cs := #[.int .i64 a0_0, .int .i64 a0_1, .int .i64 a0_2, .int .i64 a0_3, .int .i64 0, .string ⟨#[]⟩, .string ⟨#[]⟩, .string ⟨#[]⟩, .slice none 0 0]) ?_ 4 _ rfl; (with_reducible repeat (first | refine blk_drewN ?_ _ | refine blk_drew ?_ | refine blk_alloc ?_ _)); refine blk_put (cs := #[.int .i64 a0_0, .int .i64 a0_1, .int .i64 a0_2, .int .i64 0, .int .i64 0, .string ⟨#[]⟩, .string ⟨#[]⟩, .string ⟨#[]⟩, .slice none 0 0]) ?_ 3 _ rfl; (with_reducible repeat (first | refine blk_drewN ?_ _ | refine blk_drew ?_ | refine blk_alloc ?_ _)); refine blk_put (cs := #[.int .i64 a0_0, .int .i64 a0_1, .int .i64 0, .int .i64 0, .int .i64 0, .string ⟨#[]⟩, .string ⟨#[]⟩, .string ⟨#[]⟩, .slice none 0 0]) ?_ 2 _ rfl; (with_reducible repeat (first | refine blk_drewN ?_ _ | refine blk_drew ?_ | refine blk_alloc ?_ _)); refine blk_put (cs := #[.int .i64 a0_0, .int .i64 0, .int .i64 0, .int .i64 0, .int .i64 0, .string ⟨#[]⟩, .string ⟨#[]⟩, .string ⟨#[]⟩, .slice none 0 0]) ?_ 1 _ rfl; (with_reducible repeat (first | refine blk_drewN ?_ _ | refine blk_drew ?_ | refine blk_alloc ?_ _)); refine blk_put (cs := #[.int .i64 0, .int .i64 0, .int .i64 0, .int .i64 0, .int .i64 0, .string ⟨#[]⟩, .string ⟨#[]⟩, .string ⟨#[]⟩, .slice none 0 0]) ?_ 0 _ rfl; (with_reducible repeat (first | refine blk_drewN ?_ _ | refine blk_drew ?_ | refine blk_alloc ?_ _)); exact BK119.out) Tryd.underlying31 rfl (by kernel_rfl)) rfl ?_; exact ⟨_, ap4, by (with_reducible repeat (first | apply Kd.V_alloc | apply Kd.V_drewN | apply Kd.V_drew)); exact Kd.V_mono (vf gb119 8 (vf gb119 7 (vf gb119 6 (vf gb119 5 (vf gb119 4 (vf gb119 3 (vf gb119 2 (vf gb119 1 (vf gb119 0 (Kd.V_mono HO0_8.out (fun k_ hk => (⟨hk, by first | exact hk.2 | exact hk.2.2.2 | exact hk.2.2 | exact hk.2.1 | exact hk.2.2.1⟩ : _ ∧ k_ ≠ gb119))) (.int .i64 a0_0)) (.int .i64 a0_1)) (.int .i64 a0_2)) (.int .i64 a0_3)) (.int .i64 a0_4)) (.string a0_5)) (.string a0_6)) (.string a0_7)) (.slice A0_8 l0_8.length c0_8)) (fun _ hk => by first | exact hk.1.1.1.1 | exact hk.1.1.1 | exact hk.1.1 | exact hk.1), beu HB.out⟩
def packhorselaw11_batchAlive.f (k : Nat)  : Option (Bool) := (packhorselaw11_empty.f).bind fun bt141 => ((batch_Join.f k bt141.1 bt141.2.1 bt141.2.2.1 bt141.2.2.2.1 bt141.2.2.2.2.1 bt141.2.2.2.2.2.1 bt141.2.2.2.2.2.2.1 bt141.2.2.2.2.2.2.2.1 bt141.2.2.2.2.2.2.2.2 2 100 (⟨#[97]⟩ : ByteArray) 10).bind fun bt152 => ((batch_Join.f k bt152.1 bt152.2.1 bt152.2.2.1 bt152.2.2.2.1 bt152.2.2.2.2.1 bt152.2.2.2.2.2.1 bt152.2.2.2.2.2.2.1 bt152.2.2.2.2.2.2.2.1 bt152.2.2.2.2.2.2.2.2.1 2 100 (⟨#[98]⟩ : ByteArray) 10).bind fun bt165 => ((batch_Join.f k bt165.1 bt165.2.1 bt165.2.2.1 bt165.2.2.2.1 bt165.2.2.2.2.1 bt165.2.2.2.2.2.1 bt165.2.2.2.2.2.2.1 bt165.2.2.2.2.2.2.2.1 bt165.2.2.2.2.2.2.2.2.1 2 100 (⟨#[100]⟩ : ByteArray) 10).bind fun bt178 => (if bt152.2.2.2.2.2.2.2.2.2 = 0 then (if bt165.2.2.2.2.2.2.2.2.2 = 0 then (if bt178.2.2.2.2.2.2.2.2.2 = 111 then (if (bt165.2.2.2.2.2.2.2.2.1.length : Int) = 2 then (if bt165.2.1 = 20 then (some ((bt152.2.2.2.2.2.2.2.2.1.length : Int) == 1)) else (some false)) else (some false)) else (some false)) else (some false)) else (some false)))))
theorem packhorselaw11_batchAlive.mono : ∀ k, LeO (packhorselaw11_batchAlive.f k ) (packhorselaw11_batchAlive.f (k + 1) ) := by
  intro  k
  unfold packhorselaw11_batchAlive.f
  repeat' first
      | (with_reducible exact batch_Join.mono _ _ _ _ _ _ _ _ _ _ _ _ _ _)
      | (with_reducible exact LeO.refl _)
      | (with_reducible exact LeO.none _)
      | (with_reducible refine LeO.ite ?_ ?_)
      | (with_reducible refine LeO.bind ?_ (fun _ => ?_))
      | exact batch_Join.mono _ _ _ _ _ _ _ _ _ _ _ _ _ _
      | exact LeO.none _
      | refine LeO.ite ?_ ?_
      | refine LeO.bind ?_ (fun _ => ?_)
def packhorselaw11_batchAlive.T2 : Bool × List (List Nat × List Nat) := (true, [([], []), ([], []), ([0, 1, 0], [0, 1]), ([2], [2]), ([3], [3]), ([3], [3]), ([], []), ([6, 4, 2, 0, 1, 2, 3, 4, 6], [4, 6]), ([5, 7, 0, 1, 2, 3, 4, 5, 6, 7], [5])])
def packhorselaw11_batchAlive.B2 : List Nat := [0, 0, 3, 7, 15, 15, 0, 95, 255]
theorem packhorselaw11_batchAlive.tab2 : rtab .any (opsOf Tryd.f10 2) = packhorselaw11_batchAlive.T2 := by kernel_rfl
theorem packhorselaw11_batchAlive.bits2 : waitsOk packhorselaw11_batchAlive.T2.2 packhorselaw11_batchAlive.B2 = true := by kernel_rfl
set_option maxHeartbeats 8000000 in
set_option maxRecDepth 100000 in
theorem packhorselaw11_batchAlive.calls (k : Nat)  (r : Bool) (w : World) (hT : Tabs w) (h : packhorselaw11_batchAlive.f k  = some r) (hr_ : r = true) :
    Calls Tryd.prog 10 #[] w fun e w' => e = .returned (.bool r) ∧ Below w.heap.size w w' := by
  have hu23 := Tryd.underlying23; have hu31 := Tryd.underlying31; have HRT := am hr_; clear hr_; have HT := am hT; clear hT; have HB := am (Below.refl w.heap.size w); have H : ((packhorselaw11_empty.f).bind fun bt141 => ((batch_Join.f k bt141.1 bt141.2.1 bt141.2.2.1 bt141.2.2.2.1 bt141.2.2.2.2.1 bt141.2.2.2.2.2.1 bt141.2.2.2.2.2.2.1 bt141.2.2.2.2.2.2.2.1 bt141.2.2.2.2.2.2.2.2 2 100 (⟨#[97]⟩ : ByteArray) 10).bind fun bt152 => ((batch_Join.f k bt152.1 bt152.2.1 bt152.2.2.1 bt152.2.2.2.1 bt152.2.2.2.2.1 bt152.2.2.2.2.2.1 bt152.2.2.2.2.2.2.1 bt152.2.2.2.2.2.2.2.1 bt152.2.2.2.2.2.2.2.2.1 2 100 (⟨#[98]⟩ : ByteArray) 10).bind fun bt165 => ((batch_Join.f k bt165.1 bt165.2.1 bt165.2.2.1 bt165.2.2.2.1 bt165.2.2.2.2.1 bt165.2.2.2.2.2.1 bt165.2.2.2.2.2.2.1 bt165.2.2.2.2.2.2.2.1 bt165.2.2.2.2.2.2.2.2.1 2 100 (⟨#[100]⟩ : ByteArray) 10).bind fun bt178 => (if bt152.2.2.2.2.2.2.2.2.2 = 0 then (if bt165.2.2.2.2.2.2.2.2.2 = 0 then (if bt178.2.2.2.2.2.2.2.2.2 = 111 then (if (bt165.2.2.2.2.2.2.2.2.1.length : Int) = 2 then (if bt165.2.1 = 20 then (some ((bt152.2.2.2.2.2.2.2.2.1.length : Int) == 1)) else (some false)) else (some false)) else (some false)) else (some false)) else (some false)))))) = some r := h; clear h; replace H := obm H; obtain ⟨⟨t141, t142, t143, t144, t145, t146, t147, t148, t149⟩, A10, H⟩ := H; replace H : ((batch_Join.f k t141 t142 t143 t144 t145 t146 t147 t148 t149 2 100 (⟨#[97]⟩ : ByteArray) 10).bind fun bt152 => ((batch_Join.f k bt152.1 bt152.2.1 bt152.2.2.1 bt152.2.2.2.1 bt152.2.2.2.2.1 bt152.2.2.2.2.2.1 bt152.2.2.2.2.2.2.1 bt152.2.2.2.2.2.2.2.1 bt152.2.2.2.2.2.2.2.2.1 2 100 (⟨#[98]⟩ : ByteArray) 10).bind fun bt165 => ((batch_Join.f k bt165.1 bt165.2.1 bt165.2.2.1 bt165.2.2.2.1 bt165.2.2.2.2.1 bt165.2.2.2.2.2.1 bt165.2.2.2.2.2.2.1 bt165.2.2.2.2.2.2.2.1 bt165.2.2.2.2.2.2.2.2.1 2 100 (⟨#[100]⟩ : ByteArray) 10).bind fun bt178 => (if bt152.2.2.2.2.2.2.2.2.2 = 0 then (if bt165.2.2.2.2.2.2.2.2.2 = 0 then (if bt178.2.2.2.2.2.2.2.2.2 = 111 then (if (bt165.2.2.2.2.2.2.2.2.1.length : Int) = 2 then (if bt165.2.1 = 20 then (some ((bt152.2.2.2.2.2.2.2.2.1.length : Int) == 1)) else (some false)) else (some false)) else (some false)) else (some false)) else (some false))))) = some r := H; have A1 := am A10; clear A10; replace H := obm H; obtain ⟨⟨t152, t153, t154, t155, t156, t157, t158, t159, t160, t163⟩, A20, H⟩ := H; replace H : ((batch_Join.f k t152 t153 t154 t155 t156 t157 t158 t159 t160 2 100 (⟨#[98]⟩ : ByteArray) 10).bind fun bt165 => ((batch_Join.f k bt165.1 bt165.2.1 bt165.2.2.1 bt165.2.2.2.1 bt165.2.2.2.2.1 bt165.2.2.2.2.2.1 bt165.2.2.2.2.2.2.1 bt165.2.2.2.2.2.2.2.1 bt165.2.2.2.2.2.2.2.2.1 2 100 (⟨#[100]⟩ : ByteArray) 10).bind fun bt178 => (if t163 = 0 then (if bt165.2.2.2.2.2.2.2.2.2 = 0 then (if bt178.2.2.2.2.2.2.2.2.2 = 111 then (if (bt165.2.2.2.2.2.2.2.2.1.length : Int) = 2 then (if bt165.2.1 = 20 then (some ((t160.length : Int) == 1)) else (some false)) else (some false)) else (some false)) else (some false)) else (some false)))) = some r := H; have A2 := am A20; clear A20; replace H := obm H; obtain ⟨⟨t165, t166, t167, t168, t169, t170, t171, t172, t173, t176⟩, A30, H⟩ := H; replace H : ((batch_Join.f k t165 t166 t167 t168 t169 t170 t171 t172 t173 2 100 (⟨#[100]⟩ : ByteArray) 10).bind fun bt178 => (if t163 = 0 then (if t176 = 0 then (if bt178.2.2.2.2.2.2.2.2.2 = 111 then (if (t173.length : Int) = 2 then (if t166 = 20 then (some ((t160.length : Int) == 1)) else (some false)) else (some false)) else (some false)) else (some false)) else (some false))) = some r := H; have A3 := am A30; clear A30; replace H := obm H; obtain ⟨⟨t178, t179, t180, t181, t182, t183, t184, t185, t186, t189⟩, A40, H⟩ := H; replace H : (if t163 = 0 then (if t176 = 0 then (if t189 = 111 then (if (t173.length : Int) = 2 then (if t166 = 20 then (some ((t160.length : Int) == 1)) else (some false)) else (some false)) else (some false)) else (some false)) else (some false)) = some r := H; have A4 := am A40; clear A40
  by_cases c5 : t163 = 0
  · rw [if_pos c5] at H
    have c5b0 : (t163 == 0) = true := beq_iff_eq.mpr c5; have c5b1 : (t163 != 0) = false := bne_eq_false_iff_eq.mpr c5; clear c5
    by_cases c6 : t176 = 0
    · rw [if_pos c6] at H
      have c6b0 : (t176 == 0) = true := beq_iff_eq.mpr c6; have c6b1 : (t176 != 0) = false := bne_eq_false_iff_eq.mpr c6; clear c6
      by_cases c7 : t189 = 111
      · rw [if_pos c7] at H
        have c7b0 : (t189 == 111) = true := beq_iff_eq.mpr c7; have c7b1 : (t189 != 111) = false := bne_eq_false_iff_eq.mpr c7; clear c7
        by_cases c8 : (t173.length : Int) = 2
        · rw [if_pos c8] at H
          have c8b0 : ((t173.length : Int) == 2) = true := beq_iff_eq.mpr c8; have c8b1 : ((t173.length : Int) != 2) = false := bne_eq_false_iff_eq.mpr c8; clear c8
          by_cases c9 : t166 = 20
          · rw [if_pos c9] at H
            have c9b0 : (t166 == 20) = true := beq_iff_eq.mpr c9; have c9b1 : (t166 != 20) = false := bne_eq_false_iff_eq.mpr c9; clear c9; obtain rfl := Option.some.inj H; simp only [Option.some.injEq, Prod.mk.injEq] at H; obtain ⟨rfl⟩ := H
            go_enter Tryd.func10, Tryd.ntmps10
            try go_wp2_with (first | ((with_reducible refine gate_dst (N := 1) rfl ?_); (try (refine gate_guard (by rfl) ?_; dsimp only)); refine box_event ?hg (N := 1) ?hd (cs := #[.int .i64 0, .int .i64 0]) (t := 23) ?hr ?_; (case hd => rfl); (case hg => rfl); (case hr => first | (go_simp; done) | (go_simp; rfl)); intro gb140 hg w10 hbox hb; have _ := am (below_step (beu HB.out) hb); have _ := am (hbox); have _ := am ((by rw [hg]; exact (below_size (beu HB.out)) : w.heap.size ≤ gb140)); have _ := am ((by rw [hg]; exact (below_size (beu HB.out)) : w.heap.size ≤ gb140)); clear HB; rename_i HB BK140 GW140 GE140; clear hb hbox hg; obtain ⟨hcz11_0, hcz11_1⟩ := cells2 BK140.out; obtain ⟨hfz11_0, hfz11_1⟩ := frozens2 BK140.out))
            have n0_ : Aside0 (((w10.setCell ⟨gb140, 0, none⟩ (.int .i64 2)).setCell ⟨gb140, 1, none⟩ (.int .i64 100)).heap[gb140]? = some (.cells #[.int .i64 2, .int .i64 100] 23 (0, 0))) := ⟨by refine bu ?_; refine blk_put (cs := #[.int .i64 2, .int .i64 0]) ?_ 1 _ rfl; refine bu ?_; refine blk_put (cs := #[.int .i64 0, .int .i64 0]) ?_ 0 _ rfl; refine bu ?_; exact BK140.out⟩; have n1_ : Aside0 (Below w.heap.size w ((w10.setCell ⟨gb140, 0, none⟩ (.int .i64 2)).setCell ⟨gb140, 1, none⟩ (.int .i64 100))) := ⟨beu HB.out⟩
            (try clear BK140)
            (try clear HB)
            generalize ((w10.setCell ⟨gb140, 0, none⟩ (.int .i64 2)).setCell ⟨gb140, 1, none⟩ (.int .i64 100)) = w12 at n0_ n1_ ⊢; have BK140 := n0_; have HB := n1_; clear n0_ n1_
            (try (rw [drewN_self w12]; generalize hq_ : World.drewN w12 _ = w12; have _ := am (blk_at hq_ BK140.out); have _ := am (below_at hq_ HB.out); clear hq_ BK140 HB; rename_i BK140 HB))
            have n0_ := am (blk_drew BK140.out); have n1_ := am (below_drew1 HB.out); clear BK140 HB; have BK140 := n0_; have HB := n1_; clear n0_ n1_
            refine start_ (n := 9) (S := fun w' => w'.cell? ⟨gb140, 0, none⟩ = some (.int .i64 2) ∧ w'.cell? ⟨gb140, 1, none⟩ = some (.int .i64 100)) (ds := []) #[false, false, false, false, false, false, false, false, false] (by kernel_rfl) rfl rfl ⟨(blk_cell BK140.out 0).trans rfl, (blk_cell BK140.out 1).trans rfl⟩ (fun hHeld => ?_); refine with_tabW packhorselaw11_batchAlive.tab2 packhorselaw11_batchAlive.bits2 (fun HT_ HW_ => ?_)
            generalize w12.drew = w13 at BK140 HB hHeld ⊢; refine take_ (i := 1) (N := some 11) (v := ?_) (a' := ?_) (bs 9 2) rfl rfl (take_ofW HT_.out HW_.out (by kernel_rfl)) (fun _ _ _ h => h) (Or.inl ⟨by rfl, ?_⟩) hHeld ?_ ?_; rotate_left
            · rintro w' ⟨s0, s1⟩
              go_simp
              with_reducible rfl
            rotate_left
            · simp only [Act.put, sA, sB, sC, i64_w, i32_w]
              rfl
            refine join_ (σ := Value × Value × Nat) 2 #[true, true, true, true, true, true, true, false, false] (fun s_ => [(10, .agg #[.int .i64 t141, .int .i64 t142, .int .i64 t143, .int .i64 t144, .int .i64 t145, .string t146, .string t147, .string t148, s_.1]), (12, .tuple #[.agg #[.int .i64 t152, .int .i64 t153, .int .i64 t154, .int .i64 t155, .int .i64 t156, .string t157, .string t158, .string t159, s_.2.1], .int .i64 t163]), (2, .pointer (some ⟨s_.2.2, 0, none⟩)), (9, .tuple #[.agg #[.int .i64 t152, .int .i64 t153, .int .i64 t154, .int .i64 t155, .int .i64 t156, .string t157, .string t158, .string t159, s_.2.1], .int .i64 t163]), (13, .agg #[.int .i64 t152, .int .i64 t153, .int .i64 t154, .int .i64 t155, .int .i64 t156, .string t157, .string t158, .string t159, s_.2.1]), (14, .int .i64 t163)]) (fun s_ w' => (w'.cell? ⟨gb140, 0, none⟩ = some (.int .i64 2) ∧ w'.cell? ⟨gb140, 1, none⟩ = some (.int .i64 100)) ∧ (Kd.R Kd.string 9 w' w.heap.size (fun _ => True) s_.1 t149) ∧ (Kd.V Kd.string 9 w' w.heap.size (fun k_ => k_ ≠ gb140 ∧ k_ ≠ s_.2.2) s_.2.1 t160) ∧ (w'.heap[gb140]? = some (.cells #[.int .i64 2, .int .i64 100] 23 (0, 0))) ∧ (w'.heap[s_.2.2]? = some (.cells #[.int .i64 0, .int .i64 0, .int .i64 0, .int .i64 0, .int .i64 0, .string ⟨#[]⟩, .string ⟨#[]⟩, .string ⟨#[]⟩, .slice none 0 0] 31 (0, 0))) ∧ (w.heap.size ≤ s_.2.2) ∧ (w.heap.size ≤ s_.2.2) ∧ (gb140 ≠ s_.2.2) ∧ (s_.2.2 ≠ gb140) ∧ (Below w.heap.size w w')) ?_ ?_; rotate_left
            · intro hCont
              refine two_ (i := 0) (j := 6) (Ni := some 10) (Nj := some 2) #[true, true, false, false, false, false, false, false, false] #[false, true, false, false, false, false, true, false, false] rfl rfl rfl rfl (two_of HT_.out (by kernel_rfl)) (by decide) (by decide) (fun K hK => ?_) (fun K hK => ?_)
              · skip
                refine goes_ Tryd.func12 (by kernel_rfl) rfl #[] (by rfl) rfl rfl ap1 ?_; with_reducible refine (packhorselaw11_empty.calls  t141 t142 t143 t144 t145 t146 t147 t148 t149 _ A1.out).mono ?_; rintro e w14 ⟨v150, rfl, ho0, hb⟩; refine ⟨_, rfl, ?_⟩; have n0_ := am (Kd.R_lower ho0 (below_size (beu HB.out))); have n1_ := am (blk_below (bu BK140.out) hb); have n2_ := am (below_step (beu HB.out) hb); clear BK140 HB; have HO151 := n0_; have BK140 := n1_; have HB := n2_; clear n0_ n1_ n2_
                (try clear hb)
                (try clear hb2)
                (try clear hk)
                (try clear hi)
                (try clear ho0)
                obtain ⟨Ao15, co15, eo15⟩ := Kd.R_slice HO151.out
                (first | subst eo15 | (injection eo15 with f1_ f2_ f3_; have f4_ := f1_.symm; have f5_ := f3_.symm; clear f1_ f2_ f3_; subst f4_; subst f5_))
                refine hK.out _ _ ⟨(blk_cell BK140.out 0).trans rfl, (blk_cell BK140.out 1).trans rfl⟩ (fun hHeld => ?_); clear hK K; refine norm_ (a' := ?_) ?_ ?_; rotate_left
                · show Act.put _ (some 10) _ = _
                  simp only [Act.put, sA, sB, sC, i64_w, i32_w]
                  rfl
                refine two_ (i := 2) (j := 6) (Ni := some 12) (Nj := some 2) #[true, true, true, false, false, false, false, false, false] #[true, true, false, false, false, false, true, false, false] rfl rfl rfl rfl (two_of HT_.out (by kernel_rfl)) (by decide) (by decide) (fun K hK => ?_) (fun K hK => ?_)
                · skip
                  refine goes_ Tryd.func13 (by kernel_rfl) rfl #[.agg #[.int .i64 t141, .int .i64 t142, .int .i64 t143, .int .i64 t144, .int .i64 t145, .string t146, .string t147, .string t148, .slice Ao15 t149.length co15], .agg #[.int .i64 2, .int .i64 100], .string (⟨#[97]⟩ : ByteArray), .int .i64 10] (by rfl) rfl rfl ap1 ?_; with_reducible refine (batch_Join.calls k t141 t142 t143 t144 t145 t146 t147 t148 (fun k_ => some k_ = (.slice Ao15 t149.length co15 : Value).ownBlock) _ _ t149 2 100 (⟨#[97]⟩ : ByteArray) 10 t152 t153 t154 t155 t156 t157 t158 t159 t160 t163 _ ?side1 ?side2 A2.out).mono ?_
                  (case side1 => exact Kd.R_V (Kd.R_tight rfl (Kd.R_types (HO151.out) BK140.out (by decide))))
                  (case side2 => first | (with_reducible exact HT.out) | exact Tabs.below HT.out (beu HB.out))
                  rintro e w16 ⟨v161, rfl, ho0, hb⟩; refine ⟨_, rfl, ?_⟩; have n0_ := am (Kd.R_below (ru HO151.out) hb); have n1_ := am (Kd.V_lower (Kd.V_mono (ok' := fun k_ => k_ ≠ gb140) ho0 (fun k_ hk_ => Or.elim hk_ (fun hs_ => ((Kd.R_types (HO151.out) BK140.out (by decide)).1 k_ hs_.symm).2) (fun hn_ => (Kd.freshB (bu BK140.out) k_ hn_)))) (below_size (beu HB.out))); have n2_ := am (blk_below (bu BK140.out) hb); have n3_ := am (below_step (beu HB.out) hb); clear HO151 BK140 HB; have HO151 := n0_; have HO162 := n1_; have BK140 := n2_; have HB := n3_; clear n0_ n1_ n2_ n3_
                  (try clear hb)
                  (try clear hb2)
                  (try clear hk)
                  (try clear hi)
                  (try clear ho0)
                  refine hK.out _ _ ⟨(blk_cell BK140.out 0).trans rfl, (blk_cell BK140.out 1).trans rfl⟩ (fun hHeld => ?_); clear hK K; refine norm_ (a' := ?_) ?_ ?_; rotate_left
                  · show Act.put _ (some 12) _ = _
                    simp only [Act.put, sA, sB, sC, i64_w, i32_w]
                    rfl
                  refine pure_ (i := 3) (N := some 9) (v := ?_) (a' := ?_) (bs 9 15) rfl rfl (ak HT_.out) (fun _ _ _ h => h) (Or.inl ⟨by rfl, ?_⟩) ?_ ?_; rotate_left
                  · intro w'
                    go_simp
                    with_reducible rfl
                  rotate_left
                  · simp only [Act.put, sA, sB, sC, i64_w, i32_w]
                    rfl
                  refine pure_ (i := 4) (N := some 13) (v := ?_) (a' := ?_) (bs 9 31) rfl rfl (ak HT_.out) (fun _ _ _ h => h) (Or.inl ⟨by rfl, ?_⟩) ?_ ?_; rotate_left
                  · intro w'
                    go_simp
                    with_reducible rfl
                  rotate_left
                  · simp only [Act.put, sA, sB, sC, i64_w, i32_w]
                    rfl
                  refine pure_ (i := 5) (N := some 14) (v := ?_) (a' := ?_) (bs 9 63) rfl rfl (ak HT_.out) (fun _ _ _ h => h) (Or.inl ⟨by rfl, ?_⟩) ?_ ?_; rotate_left
                  · intro w'
                    go_simp
                    with_reducible rfl
                  rotate_left
                  · simp only [Act.put, sA, sB, sC, i64_w, i32_w]
                    rfl
                  refine one_ (i := 6) (N := some 2) (bs 9 127) rfl rfl (one_of HT_.out (by kernel_rfl)) (by decide) (fun K hK => ?_)
                  refine box_step ?hg (N := 2) ?hd (cs := #[.int .i64 0, .int .i64 0, .int .i64 0, .int .i64 0, .int .i64 0, .string ⟨#[]⟩, .string ⟨#[]⟩, .string ⟨#[]⟩, .slice none 0 0]) (t := 31) ?hr ?_; (case hd => rfl); (case hg => rfl); (case hr => first | (go_simp; done) | (go_simp; rfl))
                  intro gb164 hg w17 hbox hb; have n0_ := am (Kd.R_below (ru HO151.out) hb); have n1_ := am (Kd.V_below (Kd.V_elderB (by (with_reducible repeat (first | apply Kd.V_alloc | apply Kd.V_drewN | apply Kd.V_drew)); exact HO162.out) gb164 (Nat.le_of_eq hg.symm)) hb); have n2_ := am (blk_below (bu BK140.out) hb); have n3_ := am (below_step (beu HB.out) hb); have n4_ := am (hbox); have n5_ := am ((by rw [hg]; exact (below_size (beu HB.out)) : w.heap.size ≤ gb164)); have n6_ := am ((by rw [hg]; exact (below_size (beu HB.out)) : w.heap.size ≤ gb164)); have n7_ := am (nb1 hg BK140.out : gb140 ≠ gb164); have n8_ := am (nb2 hg BK140.out : gb164 ≠ gb140); clear HO151 HO162 BK140 HB; have HO151 := n0_; have HO162 := n1_; have BK140 := n2_; have HB := n3_; have BK164 := n4_; have GW164 := n5_; have GE164 := n6_; have NB140_164 := n7_; have NB164_140 := n8_; clear n0_ n1_ n2_ n3_ n4_ n5_ n6_ n7_ n8_ hb hbox hg; refine hK.out _ _ ⟨(blk_cell BK140.out 0).trans rfl, (blk_cell BK140.out 1).trans rfl⟩ (fun hHeld => ?_); clear hK K; refine norm_ (a' := ?_) ?_ ?_; rotate_left
                  · show Act.put _ (some 2) _ = _
                    simp only [Act.put, sA, sB, sC, i64_w, i32_w]
                    rfl
                  exact norm_ (by simp only [putAll, Act.put, sA, sB, sC]) (hCont (.slice Ao15 t149.length co15, v161, gb164) _ ⟨hHeld, (ru HO151.out), (by (with_reducible repeat (first | apply Kd.V_alloc | apply Kd.V_drewN | apply Kd.V_drew)); exact HO162.out), (bu BK140.out), (bu BK164.out), GW164.out, GE164.out, NB140_164.out, NB164_140.out, (beu HB.out)⟩)
                · skip
                  refine box_step ?hg (N := 2) ?hd (cs := #[.int .i64 0, .int .i64 0, .int .i64 0, .int .i64 0, .int .i64 0, .string ⟨#[]⟩, .string ⟨#[]⟩, .string ⟨#[]⟩, .slice none 0 0]) (t := 31) ?hr ?_; (case hd => rfl); (case hg => rfl); (case hr => first | (go_simp; done) | (go_simp; rfl))
                  intro gb164 hg w15 hbox hb; have n0_ := am (Kd.R_below (ru HO151.out) hb); have n1_ := am (blk_below (bu BK140.out) hb); have n2_ := am (below_step (beu HB.out) hb); have n3_ := am (hbox); have n4_ := am ((by rw [hg]; exact (below_size (beu HB.out)) : w.heap.size ≤ gb164)); have n5_ := am ((by rw [hg]; exact (below_size (beu HB.out)) : w.heap.size ≤ gb164)); have n6_ := am (nb1 hg BK140.out : gb140 ≠ gb164); have n7_ := am (nb2 hg BK140.out : gb164 ≠ gb140); clear HO151 BK140 HB; have HO151 := n0_; have BK140 := n1_; have HB := n2_; have BK164 := n3_; have GW164 := n4_; have GE164 := n5_; have NB140_164 := n6_; have NB164_140 := n7_; clear n0_ n1_ n2_ n3_ n4_ n5_ n6_ n7_ hb hbox hg; obtain ⟨Ao16, co16, eo16⟩ := Kd.R_slice HO151.out
                  (first | subst eo16 | (injection eo16 with f1_ f2_ f3_; have f4_ := f1_.symm; have f5_ := f3_.symm; clear f1_ f2_ f3_; subst f4_; subst f5_))
                  refine hK.out _ _ ⟨(blk_cell BK140.out 0).trans rfl, (blk_cell BK140.out 1).trans rfl⟩ (fun hHeld => ?_); clear hK K; refine norm_ (a' := ?_) ?_ ?_; rotate_left
                  · show Act.put _ (some 2) _ = _
                    simp only [Act.put, sA, sB, sC, i64_w, i32_w]
                    rfl
                  refine one_ (i := 2) (N := some 12) (bs 9 71) rfl rfl (one_of HT_.out (by kernel_rfl)) (by decide) (fun K hK => ?_); refine goes_ Tryd.func13 (by kernel_rfl) rfl #[.agg #[.int .i64 t141, .int .i64 t142, .int .i64 t143, .int .i64 t144, .int .i64 t145, .string t146, .string t147, .string t148, .slice Ao16 t149.length co16], .agg #[.int .i64 2, .int .i64 100], .string (⟨#[97]⟩ : ByteArray), .int .i64 10] (by rfl) rfl rfl ap1 ?_; with_reducible refine (batch_Join.calls k t141 t142 t143 t144 t145 t146 t147 t148 (fun k_ => some k_ = (.slice Ao16 t149.length co16 : Value).ownBlock) _ _ t149 2 100 (⟨#[97]⟩ : ByteArray) 10 t152 t153 t154 t155 t156 t157 t158 t159 t160 t163 _ ?side1 ?side2 A2.out).mono ?_
                  (case side1 => exact Kd.R_V (Kd.R_tight rfl (Kd.R_types (Kd.R_types (HO151.out) BK140.out (by decide)) BK164.out (by decide))))
                  (case side2 => first | (with_reducible exact HT.out) | exact Tabs.below HT.out (beu HB.out))
                  rintro e w17 ⟨v161, rfl, ho0, hb⟩; refine ⟨_, rfl, ?_⟩; have n0_ := am (Kd.R_below (ru HO151.out) hb); have n1_ := am (Kd.V_lower (Kd.V_mono (ok' := fun k_ => k_ ≠ gb140 ∧ k_ ≠ gb164) ho0 (fun k_ hk_ => ⟨Or.elim hk_ (fun hs_ => ((Kd.R_types (Kd.R_types (HO151.out) BK140.out (by decide)) BK164.out (by decide)).1 k_ hs_.symm).1.2) (fun hn_ => (Kd.freshB (bu BK140.out) k_ hn_)), Or.elim hk_ (fun hs_ => ((Kd.R_types (Kd.R_types (HO151.out) BK140.out (by decide)) BK164.out (by decide)).1 k_ hs_.symm).2) (fun hn_ => (Kd.freshB (bu BK164.out) k_ hn_))⟩)) (below_size (beu HB.out))); have n2_ := am (blk_below (bu BK140.out) hb); have n3_ := am (blk_below (bu BK164.out) hb); have n4_ := am (below_step (beu HB.out) hb); clear HO151 BK140 BK164 HB; have HO151 := n0_; have HO162 := n1_; have BK140 := n2_; have BK164 := n3_; have HB := n4_; clear n0_ n1_ n2_ n3_ n4_
                  (try clear hb)
                  (try clear hb2)
                  (try clear hk)
                  (try clear hi)
                  (try clear ho0)
                  refine hK.out _ _ ⟨(blk_cell BK140.out 0).trans rfl, (blk_cell BK140.out 1).trans rfl⟩ (fun hHeld => ?_); clear hK K; refine norm_ (a' := ?_) ?_ ?_; rotate_left
                  · show Act.put _ (some 12) _ = _
                    simp only [Act.put, sA, sB, sC, i64_w, i32_w]
                    rfl
                  refine pure_ (i := 3) (N := some 9) (v := ?_) (a' := ?_) (bs 9 79) rfl rfl (ak HT_.out) (fun _ _ _ h => h) (Or.inl ⟨by rfl, ?_⟩) ?_ ?_; rotate_left
                  · intro w'
                    go_simp
                    with_reducible rfl
                  rotate_left
                  · simp only [Act.put, sA, sB, sC, i64_w, i32_w]
                    rfl
                  refine pure_ (i := 4) (N := some 13) (v := ?_) (a' := ?_) (bs 9 95) rfl rfl (ak HT_.out) (fun _ _ _ h => h) (Or.inl ⟨by rfl, ?_⟩) ?_ ?_; rotate_left
                  · intro w'
                    go_simp
                    with_reducible rfl
                  rotate_left
                  · simp only [Act.put, sA, sB, sC, i64_w, i32_w]
                    rfl
                  refine pure_ (i := 5) (N := some 14) (v := ?_) (a' := ?_) (bs 9 127) rfl rfl (ak HT_.out) (fun _ _ _ h => h) (Or.inl ⟨by rfl, ?_⟩) ?_ ?_; rotate_left
                  · intro w'
                    go_simp
                    with_reducible rfl
                  rotate_left
                  · simp only [Act.put, sA, sB, sC, i64_w, i32_w]
                    rfl
                  exact norm_ (by simp only [putAll, Act.put, sA, sB, sC]) (hCont (.slice Ao16 t149.length co16, v161, gb164) _ ⟨hHeld, (ru HO151.out), (by (with_reducible repeat (first | apply Kd.V_alloc | apply Kd.V_drewN | apply Kd.V_drew)); exact HO162.out), (bu BK140.out), (bu BK164.out), GW164.out, GE164.out, NB140_164.out, NB164_140.out, (beu HB.out)⟩)
              · skip
                refine box_step ?hg (N := 2) ?hd (cs := #[.int .i64 0, .int .i64 0, .int .i64 0, .int .i64 0, .int .i64 0, .string ⟨#[]⟩, .string ⟨#[]⟩, .string ⟨#[]⟩, .slice none 0 0]) (t := 31) ?hr ?_; (case hd => rfl); (case hg => rfl); (case hr => first | (go_simp; done) | (go_simp; rfl))
                intro gb164 hg w14 hbox hb; have n0_ := am (blk_below (bu BK140.out) hb); have n1_ := am (below_step (beu HB.out) hb); have n2_ := am (hbox); have n3_ := am ((by rw [hg]; exact (below_size (beu HB.out)) : w.heap.size ≤ gb164)); have n4_ := am ((by rw [hg]; exact (below_size (beu HB.out)) : w.heap.size ≤ gb164)); have n5_ := am (nb1 hg BK140.out : gb140 ≠ gb164); have n6_ := am (nb2 hg BK140.out : gb164 ≠ gb140); clear BK140 HB; have BK140 := n0_; have HB := n1_; have BK164 := n2_; have GW164 := n3_; have GE164 := n4_; have NB140_164 := n5_; have NB164_140 := n6_; clear n0_ n1_ n2_ n3_ n4_ n5_ n6_ hb hbox hg; refine hK.out _ _ ⟨(blk_cell BK140.out 0).trans rfl, (blk_cell BK140.out 1).trans rfl⟩ (fun hHeld => ?_); clear hK K; refine norm_ (a' := ?_) ?_ ?_; rotate_left
                · show Act.put _ (some 2) _ = _
                  simp only [Act.put, sA, sB, sC, i64_w, i32_w]
                  rfl
                refine one_ (i := 0) (N := some 10) (bs 9 67) rfl rfl (one_of HT_.out (by kernel_rfl)) (by decide) (fun K hK => ?_); refine goes_ Tryd.func12 (by kernel_rfl) rfl #[] (by rfl) rfl rfl ap1 ?_; with_reducible refine (packhorselaw11_empty.calls  t141 t142 t143 t144 t145 t146 t147 t148 t149 _ A1.out).mono ?_; rintro e w15 ⟨v150, rfl, ho0, hb⟩; refine ⟨_, rfl, ?_⟩; have n0_ := am (Kd.R_lower ho0 (below_size (beu HB.out))); have n1_ := am (blk_below (bu BK140.out) hb); have n2_ := am (blk_below (bu BK164.out) hb); have n3_ := am (below_step (beu HB.out) hb); clear BK140 BK164 HB; have HO151 := n0_; have BK140 := n1_; have BK164 := n2_; have HB := n3_; clear n0_ n1_ n2_ n3_
                (try clear hb)
                (try clear hb2)
                (try clear hk)
                (try clear hi)
                (try clear ho0)
                obtain ⟨Ao16, co16, eo16⟩ := Kd.R_slice HO151.out
                (first | subst eo16 | (injection eo16 with f1_ f2_ f3_; have f4_ := f1_.symm; have f5_ := f3_.symm; clear f1_ f2_ f3_; subst f4_; subst f5_))
                refine hK.out _ _ ⟨(blk_cell BK140.out 0).trans rfl, (blk_cell BK140.out 1).trans rfl⟩ (fun hHeld => ?_); clear hK K; refine norm_ (a' := ?_) ?_ ?_; rotate_left
                · show Act.put _ (some 10) _ = _
                  simp only [Act.put, sA, sB, sC, i64_w, i32_w]
                  rfl
                refine one_ (i := 2) (N := some 12) (bs 9 71) rfl rfl (one_of HT_.out (by kernel_rfl)) (by decide) (fun K hK => ?_); refine goes_ Tryd.func13 (by kernel_rfl) rfl #[.agg #[.int .i64 t141, .int .i64 t142, .int .i64 t143, .int .i64 t144, .int .i64 t145, .string t146, .string t147, .string t148, .slice Ao16 t149.length co16], .agg #[.int .i64 2, .int .i64 100], .string (⟨#[97]⟩ : ByteArray), .int .i64 10] (by rfl) rfl rfl ap1 ?_; with_reducible refine (batch_Join.calls k t141 t142 t143 t144 t145 t146 t147 t148 (fun k_ => some k_ = (.slice Ao16 t149.length co16 : Value).ownBlock) _ _ t149 2 100 (⟨#[97]⟩ : ByteArray) 10 t152 t153 t154 t155 t156 t157 t158 t159 t160 t163 _ ?side1 ?side2 A2.out).mono ?_
                (case side1 => exact Kd.R_V (Kd.R_tight rfl (Kd.R_types (Kd.R_types (HO151.out) BK140.out (by decide)) BK164.out (by decide))))
                (case side2 => first | (with_reducible exact HT.out) | exact Tabs.below HT.out (beu HB.out))
                rintro e w17 ⟨v161, rfl, ho0, hb⟩; refine ⟨_, rfl, ?_⟩; have n0_ := am (Kd.R_below (ru HO151.out) hb); have n1_ := am (Kd.V_lower (Kd.V_mono (ok' := fun k_ => k_ ≠ gb140 ∧ k_ ≠ gb164) ho0 (fun k_ hk_ => ⟨Or.elim hk_ (fun hs_ => ((Kd.R_types (Kd.R_types (HO151.out) BK140.out (by decide)) BK164.out (by decide)).1 k_ hs_.symm).1.2) (fun hn_ => (Kd.freshB (bu BK140.out) k_ hn_)), Or.elim hk_ (fun hs_ => ((Kd.R_types (Kd.R_types (HO151.out) BK140.out (by decide)) BK164.out (by decide)).1 k_ hs_.symm).2) (fun hn_ => (Kd.freshB (bu BK164.out) k_ hn_))⟩)) (below_size (beu HB.out))); have n2_ := am (blk_below (bu BK140.out) hb); have n3_ := am (blk_below (bu BK164.out) hb); have n4_ := am (below_step (beu HB.out) hb); clear HO151 BK140 BK164 HB; have HO151 := n0_; have HO162 := n1_; have BK140 := n2_; have BK164 := n3_; have HB := n4_; clear n0_ n1_ n2_ n3_ n4_
                (try clear hb)
                (try clear hb2)
                (try clear hk)
                (try clear hi)
                (try clear ho0)
                refine hK.out _ _ ⟨(blk_cell BK140.out 0).trans rfl, (blk_cell BK140.out 1).trans rfl⟩ (fun hHeld => ?_); clear hK K; refine norm_ (a' := ?_) ?_ ?_; rotate_left
                · show Act.put _ (some 12) _ = _
                  simp only [Act.put, sA, sB, sC, i64_w, i32_w]
                  rfl
                refine pure_ (i := 3) (N := some 9) (v := ?_) (a' := ?_) (bs 9 79) rfl rfl (ak HT_.out) (fun _ _ _ h => h) (Or.inl ⟨by rfl, ?_⟩) ?_ ?_; rotate_left
                · intro w'
                  go_simp
                  with_reducible rfl
                rotate_left
                · simp only [Act.put, sA, sB, sC, i64_w, i32_w]
                  rfl
                refine pure_ (i := 4) (N := some 13) (v := ?_) (a' := ?_) (bs 9 95) rfl rfl (ak HT_.out) (fun _ _ _ h => h) (Or.inl ⟨by rfl, ?_⟩) ?_ ?_; rotate_left
                · intro w'
                  go_simp
                  with_reducible rfl
                rotate_left
                · simp only [Act.put, sA, sB, sC, i64_w, i32_w]
                  rfl
                refine pure_ (i := 5) (N := some 14) (v := ?_) (a' := ?_) (bs 9 127) rfl rfl (ak HT_.out) (fun _ _ _ h => h) (Or.inl ⟨by rfl, ?_⟩) ?_ ?_; rotate_left
                · intro w'
                  go_simp
                  with_reducible rfl
                rotate_left
                · simp only [Act.put, sA, sB, sC, i64_w, i32_w]
                  rfl
                exact norm_ (by simp only [putAll, Act.put, sA, sB, sC]) (hCont (.slice Ao16 t149.length co16, v161, gb164) _ ⟨hHeld, (ru HO151.out), (by (with_reducible repeat (first | apply Kd.V_alloc | apply Kd.V_drewN | apply Kd.V_drew)); exact HO162.out), (bu BK140.out), (bu BK164.out), GW164.out, GE164.out, NB140_164.out, NB164_140.out, (beu HB.out)⟩)
            rintro ⟨v150, v161, gb164⟩ w18 ⟨hS_, h0_, h1_, h2_, h3_, h4_, h5_, h6_, h7_, h8_⟩; have n0_ : Aside0 (Kd.R Kd.string 9 w18 w.heap.size (fun _ => True) v150 t149) := ⟨h0_⟩; have n1_ : Aside0 (Kd.V Kd.string 9 w18 w.heap.size (fun k_ => k_ ≠ gb140 ∧ k_ ≠ gb164) v161 t160) := ⟨h1_⟩; have n2_ : Aside0 (w18.heap[gb140]? = some (.cells #[.int .i64 2, .int .i64 100] 23 (0, 0))) := ⟨h2_⟩; have n3_ : Aside0 (w18.heap[gb164]? = some (.cells #[.int .i64 0, .int .i64 0, .int .i64 0, .int .i64 0, .int .i64 0, .string ⟨#[]⟩, .string ⟨#[]⟩, .string ⟨#[]⟩, .slice none 0 0] 31 (0, 0))) := ⟨h3_⟩; have n4_ : Aside0 (w.heap.size ≤ gb164) := ⟨h4_⟩; have n5_ : Aside0 (w.heap.size ≤ gb164) := ⟨h5_⟩; have n6_ : Aside0 (gb140 ≠ gb164) := ⟨h6_⟩; have n7_ : Aside0 (gb164 ≠ gb140) := ⟨h7_⟩; have n8_ : Aside0 (Below w.heap.size w w18) := ⟨h8_⟩; clear BK140 HB h0_ h1_ h2_ h3_ h4_ h5_ h6_ h7_ h8_; have HO151 := n0_; have HO162 := n1_; have BK140 := n2_; have BK164 := n3_; have GW164 := n4_; have GE164 := n5_; have NB140_164 := n6_; have NB164_140 := n7_; have HB := n8_; clear n0_ n1_ n2_ n3_ n4_ n5_ n6_ n7_ n8_; have hHeld : w18.cell? ⟨gb140, 0, none⟩ = some (.int .i64 2) ∧ w18.cell? ⟨gb140, 1, none⟩ = some (.int .i64 100) := hS_; obtain ⟨Ao27, co27, eo27⟩ := Kd.V_slice HO162.out
            (first | subst eo27 | (injection eo27 with f1_ f2_ f3_; have f4_ := f1_.symm; have f5_ := f3_.symm; clear f1_ f2_ f3_; subst f4_; subst f5_))
            refine norm_ (a' := ?_) ?_ ?_; rotate_left
            · simp only [putAll, Act.put, sA, sB, sC]
              rfl
            refine one_ (i := 7) (N := none) (bs 9 255) rfl rfl (one_of HT_.out (by kernel_rfl)) (by decide) (fun K hK => ?_); have hs19 : w18.cell? ⟨gb164, 0, none⟩ = some (.int .i64 0) := (blk_cell BK164.out 0).trans rfl; have hfs19 := blk_frozen BK164.out 0; have hns19_0 := NB140_164.out; have hms19_0 := NB164_140.out; have hs20 : w18.cell? ⟨gb164, 1, none⟩ = some (.int .i64 0) := (blk_cell BK164.out 1).trans rfl; have hfs20 := blk_frozen BK164.out 1; have hns20_0 := NB140_164.out; have hms20_0 := NB164_140.out; have hs21 : w18.cell? ⟨gb164, 2, none⟩ = some (.int .i64 0) := (blk_cell BK164.out 2).trans rfl; have hfs21 := blk_frozen BK164.out 2; have hns21_0 := NB140_164.out; have hms21_0 := NB164_140.out; have hs22 : w18.cell? ⟨gb164, 3, none⟩ = some (.int .i64 0) := (blk_cell BK164.out 3).trans rfl; have hfs22 := blk_frozen BK164.out 3; have hns22_0 := NB140_164.out; have hms22_0 := NB164_140.out; have hs23 : w18.cell? ⟨gb164, 4, none⟩ = some (.int .i64 0) := (blk_cell BK164.out 4).trans rfl; have hfs23 := blk_frozen BK164.out 4; have hns23_0 := NB140_164.out; have hms23_0 := NB164_140.out; have hs24 : w18.cell? ⟨gb164, 5, none⟩ = some (.string ⟨#[]⟩) := (blk_cell BK164.out 5).trans rfl; have hfs24 := blk_frozen BK164.out 5; have hns24_0 := NB140_164.out; have hms24_0 := NB164_140.out; have hs25 : w18.cell? ⟨gb164, 6, none⟩ = some (.string ⟨#[]⟩) := (blk_cell BK164.out 6).trans rfl; have hfs25 := blk_frozen BK164.out 6; have hns25_0 := NB140_164.out; have hms25_0 := NB164_140.out; have hs26 : w18.cell? ⟨gb164, 7, none⟩ = some (.string ⟨#[]⟩) := (blk_cell BK164.out 7).trans rfl; have hfs26 := blk_frozen BK164.out 7; have hns26_0 := NB140_164.out; have hms26_0 := NB164_140.out; have hs28 : w18.cell? ⟨gb164, 8, none⟩ = some (.slice none 0 0) := (blk_cell BK164.out 8).trans rfl; have hfs28 := blk_frozen BK164.out 8; have hns28_0 := NB140_164.out; have hms28_0 := NB164_140.out; refine skip_ (w1 := ?_) (by rfl) rfl ?_ ?_; rotate_left
            · go_simp
              rfl
            refine hK.out _ _ ⟨((cell_far (p := ⟨gb164, _, none⟩) NB140_164.out _).trans (((cell_far (p := ⟨gb164, _, none⟩) NB140_164.out _).trans (((cell_far (p := ⟨gb164, _, none⟩) NB140_164.out _).trans (((cell_far (p := ⟨gb164, _, none⟩) NB140_164.out _).trans (((cell_far (p := ⟨gb164, _, none⟩) NB140_164.out _).trans (((cell_far (p := ⟨gb164, _, none⟩) NB140_164.out _).trans (((cell_far (p := ⟨gb164, _, none⟩) NB140_164.out _).trans (((cell_far (p := ⟨gb164, _, none⟩) NB140_164.out _).trans (((cell_far (p := ⟨gb164, _, none⟩) NB140_164.out _).trans (hHeld.1)))))))))))))))))), ((cell_far (p := ⟨gb164, _, none⟩) NB140_164.out _).trans (((cell_far (p := ⟨gb164, _, none⟩) NB140_164.out _).trans (((cell_far (p := ⟨gb164, _, none⟩) NB140_164.out _).trans (((cell_far (p := ⟨gb164, _, none⟩) NB140_164.out _).trans (((cell_far (p := ⟨gb164, _, none⟩) NB140_164.out _).trans (((cell_far (p := ⟨gb164, _, none⟩) NB140_164.out _).trans (((cell_far (p := ⟨gb164, _, none⟩) NB140_164.out _).trans (((cell_far (p := ⟨gb164, _, none⟩) NB140_164.out _).trans (((cell_far (p := ⟨gb164, _, none⟩) NB140_164.out _).trans (hHeld.2))))))))))))))))))⟩ (fun hHeld => ?_); clear hK K; refine pure_ (i := 8) (N := some 3) (v := ?_) (a' := ?_) (bs 9 511) rfl rfl (ak HT_.out) (fun _ _ _ h => h) (Or.inl ⟨by rfl, ?_⟩) ?_ ?_; rotate_left
            · intro w'
              go_simp
              with_reducible rfl
            rotate_left
            · simp only [Act.put, sA, sB, sC, i64_w, i32_w]
              rfl
            refine done_ (done_of HT_.out (by kernel_rfl)) ?_; have n0_ : Aside0 (Kd.R Kd.string 9 (((((((((w18.setCell ⟨gb164, 0, none⟩ (.int .i64 t152)).setCell ⟨gb164, 1, none⟩ (.int .i64 t153)).setCell ⟨gb164, 2, none⟩ (.int .i64 t154)).setCell ⟨gb164, 3, none⟩ (.int .i64 t155)).setCell ⟨gb164, 4, none⟩ (.int .i64 t156)).setCell ⟨gb164, 5, none⟩ (.string t157)).setCell ⟨gb164, 6, none⟩ (.string t158)).setCell ⟨gb164, 7, none⟩ (.string t159)).setCell ⟨gb164, 8, none⟩ (.slice Ao27 t160.length co27)) w.heap.size (fun _ => True) v150 t149) := ⟨ru (Kd.R_mono (rf gb164 8 (rf gb164 7 (rf gb164 6 (rf gb164 5 (rf gb164 4 (rf gb164 3 (rf gb164 2 (rf gb164 1 (rf gb164 0 (Kd.R_types HO151.out BK164.out (by decide)) (.int .i64 t152)) (.int .i64 t153)) (.int .i64 t154)) (.int .i64 t155)) (.int .i64 t156)) (.string t157)) (.string t158)) (.string t159)) (.slice Ao27 t160.length co27)) (fun _ hk => trivial))⟩; have n1_ : Aside0 (Kd.V Kd.string 9 (((((((((w18.setCell ⟨gb164, 0, none⟩ (.int .i64 t152)).setCell ⟨gb164, 1, none⟩ (.int .i64 t153)).setCell ⟨gb164, 2, none⟩ (.int .i64 t154)).setCell ⟨gb164, 3, none⟩ (.int .i64 t155)).setCell ⟨gb164, 4, none⟩ (.int .i64 t156)).setCell ⟨gb164, 5, none⟩ (.string t157)).setCell ⟨gb164, 6, none⟩ (.string t158)).setCell ⟨gb164, 7, none⟩ (.string t159)).setCell ⟨gb164, 8, none⟩ (.slice Ao27 t160.length co27)) w.heap.size (fun k_ => k_ ≠ gb140 ∧ k_ ≠ gb164) (.slice Ao27 t160.length co27) t160) := ⟨by (with_reducible repeat (first | apply Kd.V_alloc | apply Kd.V_drewN | apply Kd.V_drew)); exact Kd.V_mono (vf gb164 8 (vf gb164 7 (vf gb164 6 (vf gb164 5 (vf gb164 4 (vf gb164 3 (vf gb164 2 (vf gb164 1 (vf gb164 0 (Kd.V_mono HO162.out (fun k_ hk => (⟨hk, by first | exact hk.2 | exact hk.2.2.2 | exact hk.2.2 | exact hk.2.1 | exact hk.2.2.1⟩ : _ ∧ k_ ≠ gb164))) (.int .i64 t152)) (.int .i64 t153)) (.int .i64 t154)) (.int .i64 t155)) (.int .i64 t156)) (.string t157)) (.string t158)) (.string t159)) (.slice Ao27 t160.length co27)) (fun _ hk => ⟨hk.1.1, hk.1.2⟩)⟩; have n2_ : Aside0 ((((((((((w18.setCell ⟨gb164, 0, none⟩ (.int .i64 t152)).setCell ⟨gb164, 1, none⟩ (.int .i64 t153)).setCell ⟨gb164, 2, none⟩ (.int .i64 t154)).setCell ⟨gb164, 3, none⟩ (.int .i64 t155)).setCell ⟨gb164, 4, none⟩ (.int .i64 t156)).setCell ⟨gb164, 5, none⟩ (.string t157)).setCell ⟨gb164, 6, none⟩ (.string t158)).setCell ⟨gb164, 7, none⟩ (.string t159)).setCell ⟨gb164, 8, none⟩ (.slice Ao27 t160.length co27)).heap[gb140]? = some (.cells #[.int .i64 2, .int .i64 100] 23 (0, 0))) := ⟨by refine bu ?_; refine blk_far ?_ NB140_164.out _; refine bu ?_; refine blk_far ?_ NB140_164.out _; refine bu ?_; refine blk_far ?_ NB140_164.out _; refine bu ?_; refine blk_far ?_ NB140_164.out _; refine bu ?_; refine blk_far ?_ NB140_164.out _; refine bu ?_; refine blk_far ?_ NB140_164.out _; refine bu ?_; refine blk_far ?_ NB140_164.out _; refine bu ?_; refine blk_far ?_ NB140_164.out _; refine bu ?_; refine blk_far ?_ NB140_164.out _; refine bu ?_; exact BK140.out⟩; have n3_ : Aside0 ((((((((((w18.setCell ⟨gb164, 0, none⟩ (.int .i64 t152)).setCell ⟨gb164, 1, none⟩ (.int .i64 t153)).setCell ⟨gb164, 2, none⟩ (.int .i64 t154)).setCell ⟨gb164, 3, none⟩ (.int .i64 t155)).setCell ⟨gb164, 4, none⟩ (.int .i64 t156)).setCell ⟨gb164, 5, none⟩ (.string t157)).setCell ⟨gb164, 6, none⟩ (.string t158)).setCell ⟨gb164, 7, none⟩ (.string t159)).setCell ⟨gb164, 8, none⟩ (.slice Ao27 t160.length co27)).heap[gb164]? = some (.cells #[.int .i64 t152, .int .i64 t153, .int .i64 t154, .int .i64 t155, .int .i64 t156, .string t157, .string t158, .string t159, .slice Ao27 t160.length co27] 31 (0, 0))) := ⟨by refine bu ?_; refine blk_put (cs := #[.int .i64 t152, .int .i64 t153, .int .i64 t154, .int .i64 t155, .int .i64 t156, .string t157, .string t158, .string t159, .slice none 0 0]) ?_ 8 _ rfl; refine bu ?_; refine blk_put (cs := #[.int .i64 t152, .int .i64 t153, .int .i64 t154, .int .i64 t155, .int .i64 t156, .string t157, .string t158, .string ⟨#[]⟩, .slice none 0 0]) ?_ 7 _ rfl; refine bu ?_; refine blk_put (cs := #[.int .i64 t152, .int .i64 t153, .int .i64 t154, .int .i64 t155, .int .i64 t156, .string t157, .string ⟨#[]⟩, .string ⟨#[]⟩, .slice none 0 0]) ?_ 6 _ rfl; refine bu ?_; refine blk_put (cs := #[.int .i64 t152, .int .i64 t153, .int .i64 t154, .int .i64 t155, .int .i64 t156, .string ⟨#[]⟩, .string ⟨#[]⟩, .string ⟨#[]⟩, .slice none 0 0]) ?_ 5 _ rfl; refine bu ?_; refine blk_put (cs := #[.int .i64 t152, .int .i64 t153, .int .i64 t154, .int .i64 t155, .int .i64 0, .string ⟨#[]⟩, .string ⟨#[]⟩, .string ⟨#[]⟩, .slice none 0 0]) ?_ 4 _ rfl; refine bu ?_; refine blk_put (cs := #[.int .i64 t152, .int .i64 t153, .int .i64 t154, .int .i64 0, .int .i64 0, .string ⟨#[]⟩, .string ⟨#[]⟩, .string ⟨#[]⟩, .slice none 0 0]) ?_ 3 _ rfl; refine bu ?_; refine blk_put (cs := #[.int .i64 t152, .int .i64 t153, .int .i64 0, .int .i64 0, .int .i64 0, .string ⟨#[]⟩, .string ⟨#[]⟩, .string ⟨#[]⟩, .slice none 0 0]) ?_ 2 _ rfl; refine bu ?_; refine blk_put (cs := #[.int .i64 t152, .int .i64 0, .int .i64 0, .int .i64 0, .int .i64 0, .string ⟨#[]⟩, .string ⟨#[]⟩, .string ⟨#[]⟩, .slice none 0 0]) ?_ 1 _ rfl; refine bu ?_; refine blk_put (cs := #[.int .i64 0, .int .i64 0, .int .i64 0, .int .i64 0, .int .i64 0, .string ⟨#[]⟩, .string ⟨#[]⟩, .string ⟨#[]⟩, .slice none 0 0]) ?_ 0 _ rfl; refine bu ?_; exact BK164.out⟩
            have n4_ : Aside0 (Below w.heap.size w (((((((((w18.setCell ⟨gb164, 0, none⟩ (.int .i64 t152)).setCell ⟨gb164, 1, none⟩ (.int .i64 t153)).setCell ⟨gb164, 2, none⟩ (.int .i64 t154)).setCell ⟨gb164, 3, none⟩ (.int .i64 t155)).setCell ⟨gb164, 4, none⟩ (.int .i64 t156)).setCell ⟨gb164, 5, none⟩ (.string t157)).setCell ⟨gb164, 6, none⟩ (.string t158)).setCell ⟨gb164, 7, none⟩ (.string t159)).setCell ⟨gb164, 8, none⟩ (.slice Ao27 t160.length co27))) := ⟨beu HB.out⟩
            (try clear HO151)
            (try clear HO162)
            (try clear BK140)
            (try clear BK164)
            (try clear HB)
            generalize (((((((((w18.setCell ⟨gb164, 0, none⟩ (.int .i64 t152)).setCell ⟨gb164, 1, none⟩ (.int .i64 t153)).setCell ⟨gb164, 2, none⟩ (.int .i64 t154)).setCell ⟨gb164, 3, none⟩ (.int .i64 t155)).setCell ⟨gb164, 4, none⟩ (.int .i64 t156)).setCell ⟨gb164, 5, none⟩ (.string t157)).setCell ⟨gb164, 6, none⟩ (.string t158)).setCell ⟨gb164, 7, none⟩ (.string t159)).setCell ⟨gb164, 8, none⟩ (.slice Ao27 t160.length co27)) = w29 at n0_ n1_ n2_ n3_ n4_ ⊢; have HO151 := n0_; have HO162 := n1_; have BK140 := n2_; have BK164 := n3_; have HB := n4_; clear n0_ n1_ n2_ n3_ n4_; have := NB164_140.out; have := NB140_164.out; obtain ⟨_, _, _, _, _, _, _, _, _⟩ := cells9 BK164.out; obtain ⟨_, _, _, _, _, _, _, _, _⟩ := frozens9 BK164.out; obtain ⟨_, _⟩ := cells2 BK140.out; obtain ⟨_, _⟩ := frozens2 BK140.out
            try go_wp2_with (first | ((with_reducible refine gate_callee (f := 13) rfl ?_); refine goesL_ (some 18) rfl rfl Tryd.func13 (by kernel_rfl) rfl #[.agg #[.int .i64 t152, .int .i64 t153, .int .i64 t154, .int .i64 t155, .int .i64 t156, .string t157, .string t158, .string t159, .slice Ao27 t160.length co27], .agg #[.int .i64 2, .int .i64 100], .string (⟨#[98]⟩ : ByteArray), .int .i64 10] rfl ap1 ?_; (with_reducible refine (batch_Join.calls k t152 t153 t154 t155 t156 t157 t158 t159 (fun k_ => (k_ ≠ gb140 ∧ k_ ≠ gb164)) _ _ t160 2 100 (⟨#[98]⟩ : ByteArray) 10 t165 t166 t167 t168 t169 t170 t171 t172 t173 t176 _ ?side1 ?side2 A3.out).mono ?_); (case side1 => exact HO162.out); (case side2 => first | (with_reducible exact HT.out) | exact Tabs.below HT.out (beu HB.out)); rintro e w33 ⟨v174, rfl, ho0, hb⟩; refine ⟨_, rfl, ?_⟩; have _ := am (Kd.R_below (ru HO151.out) hb); have _ := am (Kd.V_below (by (with_reducible repeat (first | apply Kd.V_alloc | apply Kd.V_drewN | apply Kd.V_drew)); exact HO162.out) hb); have _ := am (Kd.V_lower (Kd.V_mono (ok' := fun k_ => k_ ≠ gb140 ∧ k_ ≠ gb164) ho0 (fun k_ hk_ => ⟨Or.elim hk_ (fun hs_ => hs_.1) (fun hn_ => (Kd.freshB (bu BK140.out) k_ hn_)), Or.elim hk_ (fun hs_ => hs_.2) (fun hn_ => (Kd.freshB (bu BK164.out) k_ hn_))⟩)) (below_size (beu HB.out))); have _ := am (blk_below (bu BK140.out) hb); have _ := am (blk_below (bu BK164.out) hb); have _ := am (below_step (beu HB.out) hb); clear HO151 HO162 BK140 BK164 HB; rename_i HO151 HO162 HO175 BK140 BK164 HB; (try clear hb); (try clear ho0)) | ((with_reducible refine gate_dst (N := 4) rfl ?_); (try (refine gate_guard (by rfl) ?_; dsimp only)); refine box_event ?hg (N := 4) ?hd (cs := #[.int .i64 0, .int .i64 0, .int .i64 0, .int .i64 0, .int .i64 0, .string ⟨#[]⟩, .string ⟨#[]⟩, .string ⟨#[]⟩, .slice none 0 0]) (t := 31) ?hr ?_; (case hd => rfl); (case hg => rfl); (case hr => first | (go_simp; done) | (go_simp; rfl)); intro gb177 hg w34 hbox hb; have _ := am (Kd.R_below (ru HO151.out) hb); have _ := am (Kd.V_below (Kd.V_elderB (by (with_reducible repeat (first | apply Kd.V_alloc | apply Kd.V_drewN | apply Kd.V_drew)); exact HO162.out) gb177 (Nat.le_of_eq hg.symm)) hb); have _ := am (Kd.V_below (Kd.V_elderB (by (with_reducible repeat (first | apply Kd.V_alloc | apply Kd.V_drewN | apply Kd.V_drew)); exact HO175.out) gb177 (Nat.le_of_eq hg.symm)) hb); have _ := am (blk_below (bu BK140.out) hb); have _ := am (blk_below (bu BK164.out) hb); have _ := am (below_step (beu HB.out) hb); have _ := am (hbox); have _ := am ((by rw [hg]; exact (below_size (beu HB.out)) : w.heap.size ≤ gb177)); have _ := am ((by rw [hg]; exact (below_size (beu HB.out)) : w.heap.size ≤ gb177)); have _ := am (nb1 hg BK140.out : gb140 ≠ gb177); have _ := am (nb2 hg BK140.out : gb177 ≠ gb140); have _ := am (nb1 hg BK164.out : gb164 ≠ gb177); have _ := am (nb2 hg BK164.out : gb177 ≠ gb164); clear HO151 HO162 HO175 BK140 BK164 HB; rename_i HO151 HO162 HO175 BK140 BK164 HB BK177 GW177 GE177 NB140_177 NB177_140 NB164_177 NB177_164; clear hb hbox hg; have := NB177_140.out; have := NB140_177.out; have := NB177_164.out; have := NB164_177.out; obtain ⟨_, _, _, _, _, _, _, _, _⟩ := cells9 BK177.out; obtain ⟨_, _, _, _, _, _, _, _, _⟩ := frozens9 BK177.out; obtain ⟨Ao38, co38, eo38⟩ := Kd.V_slice HO175.out; subst eo38) | ((with_reducible refine gate_store (t := 31) (p := 4) rfl ?_); refine store_event (t := 31) (p := 4) (v := ?vo_w39) (w1 := (((((((((w34.setCell ⟨gb177, 0, none⟩ (.int .i64 t165)).setCell ⟨gb177, 1, none⟩ (.int .i64 t166)).setCell ⟨gb177, 2, none⟩ (.int .i64 t167)).setCell ⟨gb177, 3, none⟩ (.int .i64 t168)).setCell ⟨gb177, 4, none⟩ (.int .i64 t169)).setCell ⟨gb177, 5, none⟩ (.string t170)).setCell ⟨gb177, 6, none⟩ (.string t171)).setCell ⟨gb177, 7, none⟩ (.string t172)).setCell ⟨gb177, 8, none⟩ (.slice Ao38 t173.length co38))) ?hg ?ho ?hn ?hr ?_; (case ho => rfl); (case hg => rfl); (case hn => rfl); (case hr => first | (go_simp; done) | (go_simp; rfl)); intro w39 hw; have _ : Aside0 (Kd.R Kd.string 9 w39 w.heap.size (fun _ => True) v150 t149) := ⟨(by rw [hw]; exact (ru (Kd.R_mono (rf gb177 8 (rf gb177 7 (rf gb177 6 (rf gb177 5 (rf gb177 4 (rf gb177 3 (rf gb177 2 (rf gb177 1 (rf gb177 0 (Kd.R_types HO151.out BK177.out (by decide)) (.int .i64 t165)) (.int .i64 t166)) (.int .i64 t167)) (.int .i64 t168)) (.int .i64 t169)) (.string t170)) (.string t171)) (.string t172)) (.slice Ao38 t173.length co38)) (fun _ hk => trivial))))⟩; have _ : Aside0 (Kd.V Kd.string 9 w39 w.heap.size (fun k_ => k_ ≠ gb140 ∧ k_ ≠ gb164 ∧ k_ ≠ gb177) (.slice Ao27 t160.length co27) t160) := ⟨(by rw [hw]; exact (by (with_reducible repeat (first | apply Kd.V_alloc | apply Kd.V_drewN | apply Kd.V_drew)); exact Kd.V_mono (vf gb177 8 (vf gb177 7 (vf gb177 6 (vf gb177 5 (vf gb177 4 (vf gb177 3 (vf gb177 2 (vf gb177 1 (vf gb177 0 (Kd.V_mono HO162.out (fun k_ hk => (⟨hk, by first | exact hk.2 | exact hk.2.2.2 | exact hk.2.2 | exact hk.2.1 | exact hk.2.2.1⟩ : _ ∧ k_ ≠ gb177))) (.int .i64 t165)) (.int .i64 t166)) (.int .i64 t167)) (.int .i64 t168)) (.int .i64 t169)) (.string t170)) (.string t171)) (.string t172)) (.slice Ao38 t173.length co38)) (fun _ hk => ⟨hk.1.1.1, ⟨hk.1.1.2, hk.1.2⟩⟩)))⟩; have _ : Aside0 (Kd.V Kd.string 9 w39 w.heap.size (fun k_ => k_ ≠ gb140 ∧ k_ ≠ gb164 ∧ k_ ≠ gb177) (.slice Ao38 t173.length co38) t173) := ⟨(by rw [hw]; exact (by (with_reducible repeat (first | apply Kd.V_alloc | apply Kd.V_drewN | apply Kd.V_drew)); exact Kd.V_mono (vf gb177 8 (vf gb177 7 (vf gb177 6 (vf gb177 5 (vf gb177 4 (vf gb177 3 (vf gb177 2 (vf gb177 1 (vf gb177 0 (Kd.V_mono HO175.out (fun k_ hk => (⟨hk, by first | exact hk.2 | exact hk.2.2.2 | exact hk.2.2 | exact hk.2.1 | exact hk.2.2.1⟩ : _ ∧ k_ ≠ gb177))) (.int .i64 t165)) (.int .i64 t166)) (.int .i64 t167)) (.int .i64 t168)) (.int .i64 t169)) (.string t170)) (.string t171)) (.string t172)) (.slice Ao38 t173.length co38)) (fun _ hk => ⟨hk.1.1.1, ⟨hk.1.1.2, hk.1.2⟩⟩)))⟩; have _ : Aside0 (w39.heap[gb140]? = some (.cells #[.int .i64 2, .int .i64 100] 23 (0, 0))) := ⟨(by rw [hw]; exact (bf BK140.out))⟩; have _ : Aside0 (w39.heap[gb164]? = some (.cells #[.int .i64 t152, .int .i64 t153, .int .i64 t154, .int .i64 t155, .int .i64 t156, .string t157, .string t158, .string t159, .slice Ao27 t160.length co27] 31 (0, 0))) := ⟨(by rw [hw]; exact (bf BK164.out))⟩; have _ : Aside0 (w39.heap[gb177]? = some (.cells #[.int .i64 t165, .int .i64 t166, .int .i64 t167, .int .i64 t168, .int .i64 t169, .string t170, .string t171, .string t172, .slice Ao38 t173.length co38] 31 (0, 0))) := ⟨(by rw [hw]; exact (by refine bu ?_; refine blk_put (cs := #[.int .i64 t165, .int .i64 t166, .int .i64 t167, .int .i64 t168, .int .i64 t169, .string t170, .string t171, .string t172, .slice none 0 0]) ?_ 8 _ rfl; refine bu ?_; refine blk_put (cs := #[.int .i64 t165, .int .i64 t166, .int .i64 t167, .int .i64 t168, .int .i64 t169, .string t170, .string t171, .string ⟨#[]⟩, .slice none 0 0]) ?_ 7 _ rfl; refine bu ?_; refine blk_put (cs := #[.int .i64 t165, .int .i64 t166, .int .i64 t167, .int .i64 t168, .int .i64 t169, .string t170, .string ⟨#[]⟩, .string ⟨#[]⟩, .slice none 0 0]) ?_ 6 _ rfl; refine bu ?_; refine blk_put (cs := #[.int .i64 t165, .int .i64 t166, .int .i64 t167, .int .i64 t168, .int .i64 t169, .string ⟨#[]⟩, .string ⟨#[]⟩, .string ⟨#[]⟩, .slice none 0 0]) ?_ 5 _ rfl; refine bu ?_; refine blk_put (cs := #[.int .i64 t165, .int .i64 t166, .int .i64 t167, .int .i64 t168, .int .i64 0, .string ⟨#[]⟩, .string ⟨#[]⟩, .string ⟨#[]⟩, .slice none 0 0]) ?_ 4 _ rfl; refine bu ?_; refine blk_put (cs := #[.int .i64 t165, .int .i64 t166, .int .i64 t167, .int .i64 0, .int .i64 0, .string ⟨#[]⟩, .string ⟨#[]⟩, .string ⟨#[]⟩, .slice none 0 0]) ?_ 3 _ rfl; refine bu ?_; refine blk_put (cs := #[.int .i64 t165, .int .i64 t166, .int .i64 0, .int .i64 0, .int .i64 0, .string ⟨#[]⟩, .string ⟨#[]⟩, .string ⟨#[]⟩, .slice none 0 0]) ?_ 2 _ rfl; refine bu ?_; refine blk_put (cs := #[.int .i64 t165, .int .i64 0, .int .i64 0, .int .i64 0, .int .i64 0, .string ⟨#[]⟩, .string ⟨#[]⟩, .string ⟨#[]⟩, .slice none 0 0]) ?_ 1 _ rfl; refine bu ?_; refine blk_put (cs := #[.int .i64 0, .int .i64 0, .int .i64 0, .int .i64 0, .int .i64 0, .string ⟨#[]⟩, .string ⟨#[]⟩, .string ⟨#[]⟩, .slice none 0 0]) ?_ 0 _ rfl; refine bu ?_; exact BK177.out))⟩; have _ : Aside0 (Below w.heap.size w w39) := ⟨(by rw [hw]; exact (beu HB.out))⟩; clear hw HO151 HO162 HO175 BK140 BK164 BK177 HB; rename_i HO151 HO162 HO175 BK140 BK164 BK177 HB; obtain ⟨hcz40_0, hcz40_1, hcz40_2, hcz40_3, hcz40_4, hcz40_5, hcz40_6, hcz40_7, hcz40_8⟩ := cells9 BK177.out; obtain ⟨hfz40_0, hfz40_1, hfz40_2, hfz40_3, hfz40_4, hfz40_5, hfz40_6, hfz40_7, hfz40_8⟩ := frozens9 BK177.out; obtain ⟨_, _⟩ := cells2 BK140.out; obtain ⟨_, _⟩ := frozens2 BK140.out) | ((with_reducible refine gate_callee (f := 13) rfl ?_); refine goesL_ (some 24) rfl rfl Tryd.func13 (by kernel_rfl) rfl #[.agg #[.int .i64 t165, .int .i64 t166, .int .i64 t167, .int .i64 t168, .int .i64 t169, .string t170, .string t171, .string t172, .slice Ao38 t173.length co38], .agg #[.int .i64 2, .int .i64 100], .string (⟨#[100]⟩ : ByteArray), .int .i64 10] rfl ap1 ?_; (with_reducible refine (batch_Join.calls k t165 t166 t167 t168 t169 t170 t171 t172 (fun k_ => (k_ ≠ gb140 ∧ (k_ ≠ gb164 ∧ k_ ≠ gb177))) _ _ t173 2 100 (⟨#[100]⟩ : ByteArray) 10 t178 t179 t180 t181 t182 t183 t184 t185 t186 t189 _ ?side1 ?side2 A4.out).mono ?_); (case side1 => exact HO175.out); (case side2 => first | (with_reducible exact HT.out) | exact Tabs.below HT.out (beu HB.out)); rintro e w42 ⟨v187, rfl, ho0, hb⟩; refine ⟨_, rfl, ?_⟩; have _ := am (Kd.R_below (ru HO151.out) hb); have _ := am (Kd.V_below (by (with_reducible repeat (first | apply Kd.V_alloc | apply Kd.V_drewN | apply Kd.V_drew)); exact HO162.out) hb); have _ := am (Kd.V_below (by (with_reducible repeat (first | apply Kd.V_alloc | apply Kd.V_drewN | apply Kd.V_drew)); exact HO175.out) hb); have _ := am (Kd.V_lower (Kd.V_mono (ok' := fun k_ => k_ ≠ gb140 ∧ k_ ≠ gb164 ∧ k_ ≠ gb177) ho0 (fun k_ hk_ => ⟨Or.elim hk_ (fun hs_ => hs_.1) (fun hn_ => (Kd.freshB (bu BK140.out) k_ hn_)), Or.elim hk_ (fun hs_ => hs_.2.1) (fun hn_ => (Kd.freshB (bu BK164.out) k_ hn_)), Or.elim hk_ (fun hs_ => hs_.2.2) (fun hn_ => (Kd.freshB (bu BK177.out) k_ hn_))⟩)) (below_size (beu HB.out))); have _ := am (blk_below (bu BK140.out) hb); have _ := am (blk_below (bu BK164.out) hb); have _ := am (blk_below (bu BK177.out) hb); have _ := am (below_step (beu HB.out) hb); clear HO151 HO162 HO175 BK140 BK164 BK177 HB; rename_i HO151 HO162 HO175 HO188 BK140 BK164 BK177 HB; (try clear hb); (try clear ho0)) | ((with_reducible refine gate_dst (N := 6) rfl ?_); (try (refine gate_guard (by rfl) ?_; dsimp only)); refine box_event ?hg (N := 6) ?hd (cs := #[.int .i64 0, .int .i64 0, .int .i64 0, .int .i64 0, .int .i64 0, .string ⟨#[]⟩, .string ⟨#[]⟩, .string ⟨#[]⟩, .slice none 0 0]) (t := 31) ?hr ?_; (case hd => rfl); (case hg => rfl); (case hr => first | (go_simp; done) | (go_simp; rfl)); intro gb190 hg w43 hbox hb; have _ := am (Kd.R_below (ru HO151.out) hb); have _ := am (Kd.V_below (Kd.V_elderB (by (with_reducible repeat (first | apply Kd.V_alloc | apply Kd.V_drewN | apply Kd.V_drew)); exact HO162.out) gb190 (Nat.le_of_eq hg.symm)) hb); have _ := am (Kd.V_below (Kd.V_elderB (by (with_reducible repeat (first | apply Kd.V_alloc | apply Kd.V_drewN | apply Kd.V_drew)); exact HO175.out) gb190 (Nat.le_of_eq hg.symm)) hb); have _ := am (Kd.V_below (Kd.V_elderB (by (with_reducible repeat (first | apply Kd.V_alloc | apply Kd.V_drewN | apply Kd.V_drew)); exact HO188.out) gb190 (Nat.le_of_eq hg.symm)) hb); have _ := am (blk_below (bu BK140.out) hb); have _ := am (blk_below (bu BK164.out) hb); have _ := am (blk_below (bu BK177.out) hb); have _ := am (below_step (beu HB.out) hb); have _ := am (hbox); have _ := am ((by rw [hg]; exact (below_size (beu HB.out)) : w.heap.size ≤ gb190)); have _ := am ((by rw [hg]; exact (below_size (beu HB.out)) : w.heap.size ≤ gb190)); have _ := am (nb1 hg BK140.out : gb140 ≠ gb190); have _ := am (nb2 hg BK140.out : gb190 ≠ gb140); have _ := am (nb1 hg BK164.out : gb164 ≠ gb190); have _ := am (nb2 hg BK164.out : gb190 ≠ gb164); have _ := am (nb1 hg BK177.out : gb177 ≠ gb190); have _ := am (nb2 hg BK177.out : gb190 ≠ gb177); clear HO151 HO162 HO175 HO188 BK140 BK164 BK177 HB; rename_i HO151 HO162 HO175 HO188 BK140 BK164 BK177 HB BK190 GW190 GE190 NB140_190 NB190_140 NB164_190 NB190_164 NB177_190 NB190_177; clear hb hbox hg; have := NB190_140.out; have := NB140_190.out; have := NB190_164.out; have := NB164_190.out; have := NB190_177.out; have := NB177_190.out; obtain ⟨_, _, _, _, _, _, _, _, _⟩ := cells9 BK190.out; obtain ⟨_, _, _, _, _, _, _, _, _⟩ := frozens9 BK190.out; obtain ⟨Ao48, co48, eo48⟩ := Kd.V_slice HO188.out; subst eo48; obtain ⟨hcz49_0, hcz49_1, hcz49_2, hcz49_3, hcz49_4, hcz49_5, hcz49_6, hcz49_7, hcz49_8⟩ := cells9 BK177.out; obtain ⟨hfz49_0, hfz49_1, hfz49_2, hfz49_3, hfz49_4, hfz49_5, hfz49_6, hfz49_7, hfz49_8⟩ := frozens9 BK177.out; obtain ⟨_, _, _, _, _, _, _, _, _⟩ := cells9 BK164.out; obtain ⟨_, _, _, _, _, _, _, _, _⟩ := frozens9 BK164.out))
            go_ret
            exact ⟨ap4, beu HB.out⟩
          · rw [if_neg c9] at H
            have c9b0 : (t166 == 20) = false := beq_eq_false_iff_ne.mpr c9; have c9b1 : (t166 != 20) = true := bne_iff_ne.mpr c9; obtain rfl := Option.some.inj H; exact absurd HRT.out (by decide)
        · rw [if_neg c8] at H
          have c8b0 : ((t173.length : Int) == 2) = false := beq_eq_false_iff_ne.mpr c8; have c8b1 : ((t173.length : Int) != 2) = true := bne_iff_ne.mpr c8; obtain rfl := Option.some.inj H; exact absurd HRT.out (by decide)
      · rw [if_neg c7] at H
        have c7b0 : (t189 == 111) = false := beq_eq_false_iff_ne.mpr c7; have c7b1 : (t189 != 111) = true := bne_iff_ne.mpr c7; obtain rfl := Option.some.inj H; exact absurd HRT.out (by decide)
    · rw [if_neg c6] at H
      have c6b0 : (t176 == 0) = false := beq_eq_false_iff_ne.mpr c6; have c6b1 : (t176 != 0) = true := bne_iff_ne.mpr c6; obtain rfl := Option.some.inj H; exact absurd HRT.out (by decide)
  · rw [if_neg c5] at H
    have c5b0 : (t163 == 0) = false := beq_eq_false_iff_ne.mpr c5; have c5b1 : (t163 != 0) = true := bne_iff_ne.mpr c5; obtain rfl := Option.some.inj H; exact absurd HRT.out (by decide)
def batch_Caps.f (a0_0 : Int) (a0_1 : Int) : Option (Bool) := if a0_0 ≥ 1 then (if a0_0 ≤ 64 then (if a0_1 ≥ 1 then ((tally_Right.f a0_1).bind fun t192 => (some t192)) else (some false)) else (some false)) else (some false)
set_option maxHeartbeats 8000000 in
set_option maxRecDepth 100000 in
theorem batch_Caps.calls (a0_0 : Int) (a0_1 : Int) (r : Bool) (w : World) (h : batch_Caps.f a0_0 a0_1 = some r) :
    Calls Tryd.prog 11 #[.agg #[.int .i64 a0_0, .int .i64 a0_1]] w fun e w' => e = .returned (.bool r) ∧ Below w.heap.size w w' := by
  have hu23 := Tryd.underlying23; have HB := am (Below.refl w.heap.size w); have H : (if a0_0 ≥ 1 then (if a0_0 ≤ 64 then (if a0_1 ≥ 1 then ((tally_Right.f a0_1).bind fun t192 => (some t192)) else (some false)) else (some false)) else (some false)) = some r := h; clear h
  by_cases c2 : a0_0 ≥ 1
  · rw [if_pos c2] at H
    have c2b0 : decide (1 ≤ a0_0) = true := decide_eq_true c2; clear c2
    by_cases c3 : a0_0 ≤ 64
    · rw [if_pos c3] at H
      have c3b0 : decide (a0_0 ≤ 64) = true := decide_eq_true c3; clear c3
      by_cases c4 : a0_1 ≥ 1
      · rw [if_pos c4] at H
        have c4b0 : decide (1 ≤ a0_1) = true := decide_eq_true c4; clear c4; replace H := obm H; obtain ⟨t192, A50, H⟩ := H; replace H : (some t192) = some r := H; have A5 := am A50; clear A50; obtain rfl := Option.some.inj H; simp only [Option.some.injEq, Prod.mk.injEq] at H; obtain ⟨rfl⟩ := H
        go_enter Tryd.func11, Tryd.ntmps11
        go_wp2_with (first | ((with_reducible refine gate_dst (N := 1) rfl ?_); refine box_event ?hg (N := 1) ?hd (cs := #[.int .i64 a0_0, .int .i64 a0_1]) (t := 23) ?hr ?_; (case hd => rfl); (case hg => rfl); (case hr => first | (go_simp; done) | (go_simp; rfl)); intro gb191 hg w6 hbox hb; have _ := am (below_step (beu HB.out) hb); have _ := am (hbox); have _ := am ((by rw [hg]; exact (below_size (beu HB.out)) : w.heap.size ≤ gb191)); have _ := am ((by rw [hg]; exact (below_size (beu HB.out)) : w.heap.size ≤ gb191)); clear HB; rename_i HB BK191 GW191 GE191; clear hb hbox hg; obtain ⟨_, _⟩ := cells2 BK191.out; obtain ⟨_, _⟩ := frozens2 BK191.out) | (go_at_call 31; (with_reducible refine (tally_Right.calls a0_1 t192 _ A5.out).mono ?_); rintro e w' ⟨rfl, ⟨nd, rfl⟩⟩))
        go_ret
        exact ⟨ap4, beu HB.out⟩
      · rw [if_neg c4] at H
        have c4b0 : decide (1 ≤ a0_1) = false := decide_eq_false c4; clear c4; obtain rfl := Option.some.inj H; simp only [Option.some.injEq, Prod.mk.injEq] at H; obtain ⟨rfl⟩ := H
        go_enter Tryd.func11, Tryd.ntmps11
        go_wp2_with (first | ((with_reducible refine gate_dst (N := 1) rfl ?_); refine box_event ?hg (N := 1) ?hd (cs := #[.int .i64 a0_0, .int .i64 a0_1]) (t := 23) ?hr ?_; (case hd => rfl); (case hg => rfl); (case hr => first | (go_simp; done) | (go_simp; rfl)); intro gb191 hg w8 hbox hb; have _ := am (below_step (beu HB.out) hb); have _ := am (hbox); have _ := am ((by rw [hg]; exact (below_size (beu HB.out)) : w.heap.size ≤ gb191)); have _ := am ((by rw [hg]; exact (below_size (beu HB.out)) : w.heap.size ≤ gb191)); clear HB; rename_i HB BK191 GW191 GE191; clear hb hbox hg; obtain ⟨_, _⟩ := cells2 BK191.out; obtain ⟨_, _⟩ := frozens2 BK191.out))
        go_ret
        exact ⟨ap4, beu HB.out⟩
    · rw [if_neg c3] at H
      have c3b0 : decide (a0_0 ≤ 64) = false := decide_eq_false c3; clear c3; obtain rfl := Option.some.inj H; simp only [Option.some.injEq, Prod.mk.injEq] at H; obtain ⟨rfl⟩ := H
      go_enter Tryd.func11, Tryd.ntmps11
      go_wp2_with (first | ((with_reducible refine gate_dst (N := 1) rfl ?_); refine box_event ?hg (N := 1) ?hd (cs := #[.int .i64 a0_0, .int .i64 a0_1]) (t := 23) ?hr ?_; (case hd => rfl); (case hg => rfl); (case hr => first | (go_simp; done) | (go_simp; rfl)); intro gb191 hg w10 hbox hb; have _ := am (below_step (beu HB.out) hb); have _ := am (hbox); have _ := am ((by rw [hg]; exact (below_size (beu HB.out)) : w.heap.size ≤ gb191)); have _ := am ((by rw [hg]; exact (below_size (beu HB.out)) : w.heap.size ≤ gb191)); clear HB; rename_i HB BK191 GW191 GE191; clear hb hbox hg; obtain ⟨hcz11_0, hcz11_1⟩ := cells2 BK191.out; obtain ⟨hfz11_0, hfz11_1⟩ := frozens2 BK191.out))
      go_ret
      exact ⟨ap4, beu HB.out⟩
  · rw [if_neg c2] at H
    have c2b0 : decide (1 ≤ a0_0) = false := decide_eq_false c2; clear c2; obtain rfl := Option.some.inj H; simp only [Option.some.injEq, Prod.mk.injEq] at H; obtain ⟨rfl⟩ := H
    go_enter Tryd.func11, Tryd.ntmps11
    go_wp2_with (first | ((with_reducible refine gate_dst (N := 1) rfl ?_); refine box_event ?hg (N := 1) ?hd (cs := #[.int .i64 a0_0, .int .i64 a0_1]) (t := 23) ?hr ?_; (case hd => rfl); (case hg => rfl); (case hr => first | (go_simp; done) | (go_simp; rfl)); intro gb191 hg w12 hbox hb; have _ := am (below_step (beu HB.out) hb); have _ := am (hbox); have _ := am ((by rw [hg]; exact (below_size (beu HB.out)) : w.heap.size ≤ gb191)); have _ := am ((by rw [hg]; exact (below_size (beu HB.out)) : w.heap.size ≤ gb191)); clear HB; rename_i HB BK191 GW191 GE191; clear hb hbox hg; obtain ⟨hcz13_0, hcz13_1⟩ := cells2 BK191.out; obtain ⟨hfz13_0, hfz13_1⟩ := frozens2 BK191.out))
    go_ret
    exact ⟨ap4, beu HB.out⟩
def day_Right.f (a0 : Int) : Option (Bool) := if a0 ≥ 0 then (some (decide (a0 ≤ 1099511627776))) else (some false)
set_option maxHeartbeats 8000000 in
set_option maxRecDepth 100000 in
theorem day_Right.calls (a0 : Int) (r : Bool) (w : World) (h : day_Right.f a0 = some r) :
    Calls Tryd.prog 35 #[.int .i64 a0] w fun e w' => e = .returned (.bool r) ∧ Drawn0 w w' := by
  have H : (if a0 ≥ 0 then (some (decide (a0 ≤ 1099511627776))) else (some false)) = some r := h; clear h
  by_cases c2 : a0 ≥ 0
  · rw [if_pos c2] at H
    have c2b0 : decide (0 ≤ a0) = true := decide_eq_true c2; clear c2; obtain rfl := Option.some.inj H; simp only [Option.some.injEq, Prod.mk.injEq] at H; obtain ⟨rfl⟩ := H
    go_enter Tryd.func35, Tryd.ntmps35
    go_wp2
    go_ret
    exact ⟨ap3, ap5⟩
  · rw [if_neg c2] at H
    have c2b0 : decide (0 ≤ a0) = false := decide_eq_false c2; clear c2; obtain rfl := Option.some.inj H; simp only [Option.some.injEq, Prod.mk.injEq] at H; obtain ⟨rfl⟩ := H
    go_enter Tryd.func35, Tryd.ntmps35
    go_wp2
    go_ret
    exact ⟨ap3, ap5⟩
def batch_group.f (a0_0 : ByteArray) (a0_1 : ByteArray) (a0_2 : ByteArray) : Option (Bool) := (label_Right.f a0_0).bind fun t194 => (if t194 = true then ((label_Right.f a0_1).bind fun t195 => (if t195 = true then ((label_Right.f a0_2).bind fun t196 => (some t196)) else (some false))) else (some false))
set_option maxHeartbeats 8000000 in
set_option maxRecDepth 100000 in
theorem batch_group.calls (a0_0 : ByteArray) (a0_1 : ByteArray) (a0_2 : ByteArray) (r : Bool) (w : World) (hT : Tabs w) (h : batch_group.f a0_0 a0_1 a0_2 = some r) :
    Calls Tryd.prog 36 #[.agg #[.string a0_0, .string a0_1, .string a0_2]] w fun e w' => e = .returned (.bool r) ∧ Below w.heap.size w w' := by
  have hu28 := Tryd.underlying28; have HT := am hT; clear hT; have HB := am (Below.refl w.heap.size w); have H : ((label_Right.f a0_0).bind fun t194 => (if t194 = true then ((label_Right.f a0_1).bind fun t195 => (if t195 = true then ((label_Right.f a0_2).bind fun t196 => (some t196)) else (some false))) else (some false))) = some r := h; clear h; replace H := obm H; obtain ⟨t194, A20, H⟩ := H; replace H : (if t194 = true then ((label_Right.f a0_1).bind fun t195 => (if t195 = true then ((label_Right.f a0_2).bind fun t196 => (some t196)) else (some false))) else (some false)) = some r := H; have A2 := am A20; clear A20
  by_cases c3 : t194 = true
  · subst c3
    have H1 : ((label_Right.f a0_1).bind fun t195 => (if t195 = true then ((label_Right.f a0_2).bind fun t196 => (some t196)) else (some false))) = some r := by rw [if_pos rfl] at H; exact H
    clear H; have H := H1; clear H1; replace H := obm H; obtain ⟨t195, A40, H⟩ := H; replace H : (if t195 = true then ((label_Right.f a0_2).bind fun t196 => (some t196)) else (some false)) = some r := H; have A4 := am A40; clear A40
    by_cases c5 : t195 = true
    · subst c5
      have H1 : ((label_Right.f a0_2).bind fun t196 => (some t196)) = some r := by rw [if_pos rfl] at H; exact H
      clear H; have H := H1; clear H1; replace H := obm H; obtain ⟨t196, A60, H⟩ := H; replace H : (some t196) = some r := H; have A6 := am A60; clear A60; obtain rfl := Option.some.inj H; simp only [Option.some.injEq, Prod.mk.injEq] at H; obtain ⟨rfl⟩ := H
      go_enter Tryd.func36, Tryd.ntmps36
      go_wp2_with (first | ((with_reducible refine gate_dst (N := 1) rfl ?_); refine box_event ?hg (N := 1) ?hd (cs := #[.string a0_0, .string a0_1, .string a0_2]) (t := 28) ?hr ?_; (case hd => rfl); (case hg => rfl); (case hr => first | (go_simp; done) | (go_simp; rfl)); intro gb193 hg w7 hbox hb; have _ := am (below_step (beu HB.out) hb); have _ := am (hbox); have _ := am ((by rw [hg]; exact (below_size (beu HB.out)) : w.heap.size ≤ gb193)); have _ := am ((by rw [hg]; exact (below_size (beu HB.out)) : w.heap.size ≤ gb193)); clear HB; rename_i HB BK193 GW193 GE193; clear hb hbox hg; obtain ⟨_, _, _⟩ := cells3 BK193.out; obtain ⟨_, _, _⟩ := frozens3 BK193.out) | ((with_reducible refine gate_callee (f := 33) rfl ?_); refine goesL_ (some 5) rfl rfl Tryd.func33 (by kernel_rfl) rfl #[.string a0_0] rfl ap1 ?_; (with_reducible refine (label_Right.calls a0_0 true _ ?side1 A2.out).mono ?_); (case side1 => first | (with_reducible exact HT.out) | exact Tabs.below HT.out (beu HB.out)); rintro e w9 ⟨rfl, hb⟩; refine ⟨_, rfl, ?_⟩; have _ := am (blk_below (bu BK193.out) hb); have _ := am (below_step (beu HB.out) hb); clear BK193 HB; rename_i BK193 HB; (try clear hb); obtain ⟨_, _, _⟩ := cells3 BK193.out; obtain ⟨_, _, _⟩ := frozens3 BK193.out) | (go_at_call 33; (with_reducible refine (label_Right.calls a0_1 true _ ?side1 A4.out).mono ?_); (case side1 => first | (with_reducible exact HT.out) | exact Tabs.below HT.out (beu HB.out)); rintro e w11 ⟨rfl, hb⟩; have _ := am (blk_below (bu BK193.out) hb); have _ := am (below_step (beu HB.out) hb); clear BK193 HB; rename_i BK193 HB; (try clear hb); obtain ⟨_, _, _⟩ := cells3 BK193.out; obtain ⟨_, _, _⟩ := frozens3 BK193.out) | (go_at_call 33; (with_reducible refine (label_Right.calls a0_2 t196 _ ?side1 A6.out).mono ?_); (case side1 => first | (with_reducible exact HT.out) | exact Tabs.below HT.out (beu HB.out)); rintro e w13 ⟨rfl, hb⟩; have _ := am (blk_below (bu BK193.out) hb); have _ := am (below_step (beu HB.out) hb); clear BK193 HB; rename_i BK193 HB; (try clear hb)))
      go_ret
      exact ⟨ap4, beu HB.out⟩
    · replace c5 := Bool.eq_false_iff.mpr c5
      subst c5
      have H1 : (some false) = some r := by rw [if_neg (show ¬ (false = true) by decide)] at H; exact H
      clear H; have H := H1; clear H1; obtain rfl := Option.some.inj H; simp only [Option.some.injEq, Prod.mk.injEq] at H; obtain ⟨rfl⟩ := H
      go_enter Tryd.func36, Tryd.ntmps36
      go_wp2_with (first | ((with_reducible refine gate_dst (N := 1) rfl ?_); refine box_event ?hg (N := 1) ?hd (cs := #[.string a0_0, .string a0_1, .string a0_2]) (t := 28) ?hr ?_; (case hd => rfl); (case hg => rfl); (case hr => first | (go_simp; done) | (go_simp; rfl)); intro gb193 hg w14 hbox hb; have _ := am (below_step (beu HB.out) hb); have _ := am (hbox); have _ := am ((by rw [hg]; exact (below_size (beu HB.out)) : w.heap.size ≤ gb193)); have _ := am ((by rw [hg]; exact (below_size (beu HB.out)) : w.heap.size ≤ gb193)); clear HB; rename_i HB BK193 GW193 GE193; clear hb hbox hg; obtain ⟨_, _, _⟩ := cells3 BK193.out; obtain ⟨_, _, _⟩ := frozens3 BK193.out) | ((with_reducible refine gate_callee (f := 33) rfl ?_); refine goesL_ (some 5) rfl rfl Tryd.func33 (by kernel_rfl) rfl #[.string a0_0] rfl ap1 ?_; (with_reducible refine (label_Right.calls a0_0 true _ ?side1 A2.out).mono ?_); (case side1 => first | (with_reducible exact HT.out) | exact Tabs.below HT.out (beu HB.out)); rintro e w16 ⟨rfl, hb⟩; refine ⟨_, rfl, ?_⟩; have _ := am (blk_below (bu BK193.out) hb); have _ := am (below_step (beu HB.out) hb); clear BK193 HB; rename_i BK193 HB; (try clear hb); obtain ⟨_, _, _⟩ := cells3 BK193.out; obtain ⟨_, _, _⟩ := frozens3 BK193.out) | (go_at_call 33; (with_reducible refine (label_Right.calls a0_1 false _ ?side1 A4.out).mono ?_); (case side1 => first | (with_reducible exact HT.out) | exact Tabs.below HT.out (beu HB.out)); rintro e w18 ⟨rfl, hb⟩; have _ := am (blk_below (bu BK193.out) hb); have _ := am (below_step (beu HB.out) hb); clear BK193 HB; rename_i BK193 HB; (try clear hb)))
      go_ret
      exact ⟨ap4, beu HB.out⟩
  · replace c3 := Bool.eq_false_iff.mpr c3
    subst c3
    have H1 : (some false) = some r := by rw [if_neg (show ¬ (false = true) by decide)] at H; exact H
    clear H; have H := H1; clear H1; obtain rfl := Option.some.inj H; simp only [Option.some.injEq, Prod.mk.injEq] at H; obtain ⟨rfl⟩ := H
    go_enter Tryd.func36, Tryd.ntmps36
    go_wp2_with (first | ((with_reducible refine gate_dst (N := 1) rfl ?_); refine box_event ?hg (N := 1) ?hd (cs := #[.string a0_0, .string a0_1, .string a0_2]) (t := 28) ?hr ?_; (case hd => rfl); (case hg => rfl); (case hr => first | (go_simp; done) | (go_simp; rfl)); intro gb193 hg w19 hbox hb; have _ := am (below_step (beu HB.out) hb); have _ := am (hbox); have _ := am ((by rw [hg]; exact (below_size (beu HB.out)) : w.heap.size ≤ gb193)); have _ := am ((by rw [hg]; exact (below_size (beu HB.out)) : w.heap.size ≤ gb193)); clear HB; rename_i HB BK193 GW193 GE193; clear hb hbox hg; obtain ⟨hcz20_0, hcz20_1, hcz20_2⟩ := cells3 BK193.out; obtain ⟨hfz20_0, hfz20_1, hfz20_2⟩ := frozens3 BK193.out) | ((with_reducible refine gate_callee (f := 33) rfl ?_); refine goesL_ (some 5) rfl rfl Tryd.func33 (by kernel_rfl) rfl #[.string a0_0] rfl ap1 ?_; (with_reducible refine (label_Right.calls a0_0 false _ ?side1 A2.out).mono ?_); (case side1 => first | (with_reducible exact HT.out) | exact Tabs.below HT.out (beu HB.out)); rintro e w21 ⟨rfl, hb⟩; refine ⟨_, rfl, ?_⟩; have _ := am (blk_below (bu BK193.out) hb); have _ := am (below_step (beu HB.out) hb); clear BK193 HB; rename_i BK193 HB; (try clear hb)))
    go_ret
    exact ⟨ap4, beu HB.out⟩
end Go.Proofs.YtapfpdjcbeiibaaDoor.PAll
