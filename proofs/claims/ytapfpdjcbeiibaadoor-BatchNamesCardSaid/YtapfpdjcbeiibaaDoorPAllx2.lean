-- Made by a program of this session (wip/gen)
import Derived.Test.YtapfpdjcbeiibaaDoorPAllx0
import Derived.Test.YtapfpdjcbeiibaaDoorPAllx1
namespace Go.Proofs.YtapfpdjcbeiibaaDoor.PAll
open Go.RowKit Go.Proofs.YtapfpdjcbeiibaaDoorW.PrintWords Go.Proofs.YtapfpdjcbeiibaaDoorW.PrintLast Go.Proofs.YtapfpdjcbeiibaaDoorW.PrintMore
attribute [local go_sem] max2_int min2_int max_two min_two max_three min_three max_four min_four   -- for this text's walks alone
set_option linter.unusedVariables false
set_option linter.unusedSimpArgs false

/-! ### utf8_word_string: function 66 -/
def utf8_word_string.f (a0 : ByteArray) : Option (Int) := if 0 < (a0.size : Int) then (if 1 < (a0.size : Int) then (if 2 < (a0.size : Int) then (if 3 < (a0.size : Int) then (if 4 < (a0.size : Int) then (if 5 < (a0.size : Int) then (if 6 < (a0.size : Int) then (if 7 < (a0.size : Int) then (some (Go.bits .or .u64 (Go.bits .or .u64 (Go.bits .or .u64 (Go.bits .or .u64 (Go.bits .or .u64 (Go.bits .or .u64 (Go.bits .or .u64 (IntKind.u64.wrap (bt a0 0)) (IntKind.u64.wrap ((IntKind.u64.wrap (bt a0 1)) * 256))) (IntKind.u64.wrap ((IntKind.u64.wrap (bt a0 2)) * 65536))) (IntKind.u64.wrap ((IntKind.u64.wrap (bt a0 3)) * 16777216))) (IntKind.u64.wrap ((IntKind.u64.wrap (bt a0 4)) * 4294967296))) (IntKind.u64.wrap ((IntKind.u64.wrap (bt a0 5)) * 1099511627776))) (IntKind.u64.wrap ((IntKind.u64.wrap (bt a0 6)) * 281474976710656))) (IntKind.u64.wrap ((IntKind.u64.wrap (bt a0 7)) * 72057594037927936)))) else (none)) else (none)) else (none)) else (none)) else (none)) else (none)) else (none)) else (none)
set_option maxHeartbeats 8000000 in
set_option maxRecDepth 100000 in
theorem utf8_word_string.calls (a0 : ByteArray) (r : Int) (w : World) (h : utf8_word_string.f a0 = some r) :
    Calls Tryd.prog 66 #[.string a0] w fun e w' => e = .returned (.int .u64 r) ∧ Drawn0 w w' := by
  have H : (if 0 < (a0.size : Int) then (if 1 < (a0.size : Int) then (if 2 < (a0.size : Int) then (if 3 < (a0.size : Int) then (if 4 < (a0.size : Int) then (if 5 < (a0.size : Int) then (if 6 < (a0.size : Int) then (if 7 < (a0.size : Int) then (some (Go.bits .or .u64 (Go.bits .or .u64 (Go.bits .or .u64 (Go.bits .or .u64 (Go.bits .or .u64 (Go.bits .or .u64 (Go.bits .or .u64 (IntKind.u64.wrap (bt a0 0)) (IntKind.u64.wrap ((IntKind.u64.wrap (bt a0 1)) * 256))) (IntKind.u64.wrap ((IntKind.u64.wrap (bt a0 2)) * 65536))) (IntKind.u64.wrap ((IntKind.u64.wrap (bt a0 3)) * 16777216))) (IntKind.u64.wrap ((IntKind.u64.wrap (bt a0 4)) * 4294967296))) (IntKind.u64.wrap ((IntKind.u64.wrap (bt a0 5)) * 1099511627776))) (IntKind.u64.wrap ((IntKind.u64.wrap (bt a0 6)) * 281474976710656))) (IntKind.u64.wrap ((IntKind.u64.wrap (bt a0 7)) * 72057594037927936)))) else (none)) else (none)) else (none)) else (none)) else (none)) else (none)) else (none)) else (none)) = some r := h
  clear h
  by_cases c2 : 0 < (a0.size : Int)
  · rw [if_pos c2] at H
    have c2b0 : decide (0 < (a0.size : Int)) = true := decide_eq_true c2
    have c2b1 : decide (0 < a0.size) = true := decide_eq_true (by omega)
    clear c2
    by_cases c4 : 1 < (a0.size : Int)
    · rw [if_pos c4] at H
      have c4b0 : decide (1 < (a0.size : Int)) = true := decide_eq_true c4
      have c4b1 : decide (1 < a0.size) = true := decide_eq_true (by omega)
      clear c4
      by_cases c6 : 2 < (a0.size : Int)
      · rw [if_pos c6] at H
        have c6b0 : decide (2 < (a0.size : Int)) = true := decide_eq_true c6
        have c6b1 : decide (2 < a0.size) = true := decide_eq_true (by omega)
        clear c6
        by_cases c8 : 3 < (a0.size : Int)
        · rw [if_pos c8] at H
          have c8b0 : decide (3 < (a0.size : Int)) = true := decide_eq_true c8
          have c8b1 : decide (3 < a0.size) = true := decide_eq_true (by omega)
          clear c8
          by_cases c10 : 4 < (a0.size : Int)
          · rw [if_pos c10] at H
            have c10b0 : decide (4 < (a0.size : Int)) = true := decide_eq_true c10
            have c10b1 : decide (4 < a0.size) = true := decide_eq_true (by omega)
            clear c10
            by_cases c12 : 5 < (a0.size : Int)
            · rw [if_pos c12] at H
              have c12b0 : decide (5 < (a0.size : Int)) = true := decide_eq_true c12
              have c12b1 : decide (5 < a0.size) = true := decide_eq_true (by omega)
              clear c12
              by_cases c14 : 6 < (a0.size : Int)
              · rw [if_pos c14] at H
                have c14b0 : decide (6 < (a0.size : Int)) = true := decide_eq_true c14
                have c14b1 : decide (6 < a0.size) = true := decide_eq_true (by omega)
                clear c14
                by_cases c16 : 7 < (a0.size : Int)
                · rw [if_pos c16] at H
                  have c16b0 : decide (7 < (a0.size : Int)) = true := decide_eq_true c16
                  have c16b1 : decide (7 < a0.size) = true := decide_eq_true (by omega)
                  clear c16
                  obtain rfl := Option.some.inj H
                  simp only [Option.some.injEq, Prod.mk.injEq] at H
                  obtain ⟨rfl⟩ := H
                  have p3 : 0 ≤ (0 : Int) := (by omega)
                  have q3 : 0 < a0.size := (by have : (0 : Int) < (a0.size : Int) := of_decide_eq_true (by first | (with_reducible assumption) | assumption); omega)
                  have hx3 : ∀ h : 0 < a0.size, ((a0[0]'h).toNat : Int) = bt a0 0 := bt_at a0 0
                  clear p3
                  have qi3 : (0 < (a0.size : Int)) = True := eq_true (of_decide_eq_true (by first | (with_reducible assumption) | assumption))
                  replace q3 := eq_true q3
                  have p5 : 0 ≤ (1 : Int) := (by omega)
                  have q5 : 1 < a0.size := (by have : (1 : Int) < (a0.size : Int) := of_decide_eq_true (by first | (with_reducible assumption) | assumption); omega)
                  have hx5 : ∀ h : 1 < a0.size, ((a0[1]'h).toNat : Int) = bt a0 1 := bt_at a0 1
                  clear p5
                  have qi5 : (1 < (a0.size : Int)) = True := eq_true (of_decide_eq_true (by first | (with_reducible assumption) | assumption))
                  replace q5 := eq_true q5
                  have p7 : 0 ≤ (2 : Int) := (by omega)
                  have q7 : 2 < a0.size := (by have : (2 : Int) < (a0.size : Int) := of_decide_eq_true (by first | (with_reducible assumption) | assumption); omega)
                  have hx7 : ∀ h : 2 < a0.size, ((a0[2]'h).toNat : Int) = bt a0 2 := bt_at a0 2
                  clear p7
                  have qi7 : (2 < (a0.size : Int)) = True := eq_true (of_decide_eq_true (by first | (with_reducible assumption) | assumption))
                  replace q7 := eq_true q7
                  have p9 : 0 ≤ (3 : Int) := (by omega)
                  have q9 : 3 < a0.size := (by have : (3 : Int) < (a0.size : Int) := of_decide_eq_true (by first | (with_reducible assumption) | assumption); omega)
                  have hx9 : ∀ h : 3 < a0.size, ((a0[3]'h).toNat : Int) = bt a0 3 := bt_at a0 3
                  clear p9
                  have qi9 : (3 < (a0.size : Int)) = True := eq_true (of_decide_eq_true (by first | (with_reducible assumption) | assumption))
                  replace q9 := eq_true q9
                  have p11 : 0 ≤ (4 : Int) := (by omega)
                  have q11 : 4 < a0.size := (by have : (4 : Int) < (a0.size : Int) := of_decide_eq_true (by first | (with_reducible assumption) | assumption); omega)
                  have hx11 : ∀ h : 4 < a0.size, ((a0[4]'h).toNat : Int) = bt a0 4 := bt_at a0 4
                  clear p11
                  have qi11 : (4 < (a0.size : Int)) = True := eq_true (of_decide_eq_true (by first | (with_reducible assumption) | assumption))
                  replace q11 := eq_true q11
                  have p13 : 0 ≤ (5 : Int) := (by omega)
                  have q13 : 5 < a0.size := (by have : (5 : Int) < (a0.size : Int) := of_decide_eq_true (by first | (with_reducible assumption) | assumption); omega)
                  have hx13 : ∀ h : 5 < a0.size, ((a0[5]'h).toNat : Int) = bt a0 5 := bt_at a0 5
                  clear p13
                  have qi13 : (5 < (a0.size : Int)) = True := eq_true (of_decide_eq_true (by first | (with_reducible assumption) | assumption))
                  replace q13 := eq_true q13
                  have p15 : 0 ≤ (6 : Int) := (by omega)
                  have q15 : 6 < a0.size := (by have : (6 : Int) < (a0.size : Int) := of_decide_eq_true (by first | (with_reducible assumption) | assumption); omega)
                  have hx15 : ∀ h : 6 < a0.size, ((a0[6]'h).toNat : Int) = bt a0 6 := bt_at a0 6
                  clear p15
                  have qi15 : (6 < (a0.size : Int)) = True := eq_true (of_decide_eq_true (by first | (with_reducible assumption) | assumption))
                  replace q15 := eq_true q15
                  have p17 : 0 ≤ (7 : Int) := (by omega)
                  have q17 : 7 < a0.size := (by have : (7 : Int) < (a0.size : Int) := of_decide_eq_true (by first | (with_reducible assumption) | assumption); omega)
                  have hx17 : ∀ h : 7 < a0.size, ((a0[7]'h).toNat : Int) = bt a0 7 := bt_at a0 7
                  clear p17
                  have qi17 : (7 < (a0.size : Int)) = True := eq_true (of_decide_eq_true (by first | (with_reducible assumption) | assumption))
                  replace q17 := eq_true q17
                  go_enter Tryd.func66, Tryd.ntmps66
                  go_wp2
                  repeat (go_quiet (fail); try go_wp2)
                  go_ret
                  exact ⟨by first | rfl | (simp; done) | (simp [*]; done), by repeat (first | exact Drawn0.refl _ | apply Drawn0.step)⟩
                · rw [if_neg c16] at H
                  exact absurd H (by simp)
              · rw [if_neg c14] at H
                exact absurd H (by simp)
            · rw [if_neg c12] at H
              exact absurd H (by simp)
          · rw [if_neg c10] at H
            exact absurd H (by simp)
        · rw [if_neg c8] at H
          exact absurd H (by simp)
      · rw [if_neg c6] at H
        exact absurd H (by simp)
    · rw [if_neg c4] at H
      exact absurd H (by simp)
  · rw [if_neg c2] at H
    exact absurd H (by simp)

-- NOT PRINTED: function 64 (utf8_ValidString)

/-! ### label_Signs: function 57 -/
def label_Signs.f (a0 : ByteArray) : Option (Int) := if a0.size ≤ 140737488351232 then some (Go.Proofs.YtapfpdjcbeiibaaDoor.Lab.signs a0) else none
theorem label_letter_nat (c : Nat) : label_letter.f (c : Int) = some (Go.Proofs.YtapfpdjcbeiibaaDoor.Lab.letter c) := by
  unfold label_letter.f Go.Proofs.YtapfpdjcbeiibaaDoor.Lab.letter
  by_cases h1 : 97 ≤ c
  · rw [if_pos (by omega)]
    by_cases h2 : c ≤ 122
    · rw [if_pos (by omega)]; simp [h1, h2]
    · rw [if_neg (by omega)]
      by_cases h3 : 945 ≤ c
      · rw [if_pos (by omega)]; simp [h2, h3]; omega
      · rw [if_neg (by omega)]; simp [h2, h3]
  · rw [if_neg (by omega), if_neg (by omega)]
    have h3 : ¬ 945 ≤ c := by omega
    simp [h1, h3]
theorem label_digit_nat (c : Nat) : label_digit.f (c : Int) = some (decide (48 ≤ c) && decide (c ≤ 57)) := by
  unfold label_digit.f
  by_cases h1 : 48 ≤ c
  · rw [if_pos (by omega)]; simp [h1]; omega
  · rw [if_neg (by omega)]; simp [h1]
set_option maxHeartbeats 8000000 in
set_option maxRecDepth 100000 in
theorem label_Signs.calls (a0 : ByteArray) (r : Int) (w : World) (hT : Tabs w) (h : label_Signs.f a0 = some r) :
    Calls Tryd.prog 57 #[.string a0] w fun e w' => e = .returned (.int .i64 r) ∧ Below w.heap.size w w' := by
  have hsz : a0.size ≤ 140737488351232 := by
    by_cases c : a0.size ≤ 140737488351232
    · exact c
    · rw [label_Signs.f, if_neg c] at h; cases h
  obtain rfl : Go.Proofs.YtapfpdjcbeiibaaDoor.Lab.signs a0 = r := by rw [label_Signs.f, if_pos hsz] at h; exact Option.some.inj h
  clear h
  unfold Go.Proofs.YtapfpdjcbeiibaaDoor.Lab.signs
  obtain ⟨ANS, hANS⟩ : ∃ ANS, Go.Proofs.YtapfpdjcbeiibaaDoor.Lab.scan a0 a0.size 0 0 = ANS := ⟨_, rfl⟩
  have hA0 : -1 ≤ ANS ∧ ANS ≤ 140737488351232 := by
    rw [← hANS]; have := Go.Proofs.YtapfpdjcbeiibaaDoor.Lab.scan_le a0 a0.size 0 0; omega
  rw [hANS]
  obtain ⟨RES, hRES⟩ : ∃ RES : Int, (if ANS ≤ 0 ∨ 16 < ANS ∨ Lib.validD a0.data.toList = false then -1 else ANS) = RES := ⟨_, rfl⟩
  rw [hRES]
  have HR := Aside0.mk hRES
  clear hRES
  have HTA := Aside0.mk hT
  clear hT
  go_enter Tryd.func57, Tryd.ntmps57
  go_wp2
  go_loopg [3] a0.size (fun g s3 wx => ∃ (v : World) (pos n : Nat), wx = v.iter a0 pos ∧ v.heap.size = w.heap.size ∧ Below w.heap.size w v ∧ s3 = .int .i64 (n : Int) ∧ n ≤ pos ∧ a0.size ≤ pos + g ∧ Go.Proofs.YtapfpdjcbeiibaaDoor.Lab.scan a0 g pos n = ANS)
  case atStart => exact ⟨w, 0, 0, rfl, rfl, Below.refl _ _, rfl, by omega, by omega, hANS⟩
  case round =>
    obtain ⟨v, pos, n, rfl, hv, hbv, rfl, hnp, hpg, hsc⟩ := hrel
    clear hANS
    by_cases hp : pos < a0.size
    · obtain ⟨g', rfl⟩ : ∃ g', gk = g' + 1 := ⟨gk - 1, by omega⟩
      rw [Go.Proofs.YtapfpdjcbeiibaaDoor.Lab.scan_step a0 g' pos n hp] at hsc
      have hnx := fun ty => run_next_any (P := Tryd.prog) v a0 pos ty hp
      rw [hv] at hnx
      have hw1 := Lib.width_pos a0 pos
      generalize Utf8.decode a0 pos = d at hsc hnx hw1
      obtain ⟨c, wd⟩ := d
      have hL := label_letter_nat c
      have hD := label_digit_nat c
      simp only at hsc hnx hw1
      have Hsc := Aside0.mk hsc
      clear hsc
      have Hbv := Aside0.mk hbv
      clear hbv
      have hwr : IntKind.i64.wrap ((n : Int) + 1) = (n : Int) + 1 := by rw [IntKind.wrap_i64]; omega
      cases cL : Go.Proofs.YtapfpdjcbeiibaaDoor.Lab.letter c
      · rw [cL] at hL
        have Hc := Aside0.mk cL
        clear cL
        by_cases n0 : n = 0
        · subst n0
          go_wp2_with (first | (go_at_call 62; refine (label_letter.calls (c : Int) _ _ hL).mono ?_; rintro e w' ⟨rfl, nd, rfl⟩) | (go_at_call 63; refine (label_digit.calls (c : Int) _ _ hD).mono ?_; rintro e w' ⟨rfl, nd2, rfl⟩))
          go_ret
          have h2 := Hsc.out
          rw [Hc.out] at h2
          simp at h2
          have h3 := HR.out
          rw [if_pos (by omega)] at h3
          subst h3
          exact ⟨rfl, pw_below_drewN (show Below w.heap.size w (v.iter a0 (pos + wd)) from Hbv.out.alloc (Nat.le_of_eq hv.symm) _) nd⟩
        · have n1 : ((n : Int) == 0) = false := by simp [n0]
          have HN := Aside0.mk (show decide (0 < n) = true by simp; omega)
          cases cD : (decide (48 ≤ c) && decide (c ≤ 57))
          · rw [cD] at hD
            have Hd := Aside0.mk cD
            clear cD
            by_cases c45 : c = 45
            · have m1 : ((c : Int) != 45) = false := by simp [c45]
              have H45 := Aside0.mk c45
              clear c45
              go_wp2_with (first | (go_at_call 62; refine (label_letter.calls (c : Int) _ _ hL).mono ?_; rintro e w' ⟨rfl, nd, rfl⟩) | (go_at_call 63; refine (label_digit.calls (c : Int) _ _ hD).mono ?_; rintro e w' ⟨rfl, nd2, rfl⟩))
              go_roundg g'
              case measure => omega
              case rel => exact ⟨v.drewN (nd + nd2), pos + wd, n + 1, rfl, hv, pw_below_drewN Hbv.out (nd + nd2), congrArg (Value.int .i64) (by omega), by omega, by omega, by have h2 := Hsc.out; rw [Hc.out, HN.out, show Go.Proofs.YtapfpdjcbeiibaaDoor.Lab.behind c = true by unfold Go.Proofs.YtapfpdjcbeiibaaDoor.Lab.behind; rw [Hd.out, H45.out]; rfl] at h2; exact h2⟩
            · have m1 : ((c : Int) != 45) = true := by simp; omega
              have H45 := Aside0.mk c45
              clear c45
              go_wp2_with (first | (go_at_call 62; refine (label_letter.calls (c : Int) _ _ hL).mono ?_; rintro e w' ⟨rfl, nd, rfl⟩) | (go_at_call 63; refine (label_digit.calls (c : Int) _ _ hD).mono ?_; rintro e w' ⟨rfl, nd2, rfl⟩))
              go_ret
              have h2 := Hsc.out
              rw [Hc.out, HN.out, show Go.Proofs.YtapfpdjcbeiibaaDoor.Lab.behind c = false by unfold Go.Proofs.YtapfpdjcbeiibaaDoor.Lab.behind; rw [Hd.out, decide_eq_false H45.out]; rfl] at h2
              simp at h2
              have h3 := HR.out
              rw [if_pos (by omega)] at h3
              subst h3
              exact ⟨rfl, pw_below_drewN (show Below w.heap.size w (v.iter a0 (pos + wd)) from Hbv.out.alloc (Nat.le_of_eq hv.symm) _) (nd + nd2)⟩
          · rw [cD] at hD
            have Hd := Aside0.mk cD
            clear cD
            go_wp2_with (first | (go_at_call 62; refine (label_letter.calls (c : Int) _ _ hL).mono ?_; rintro e w' ⟨rfl, nd, rfl⟩) | (go_at_call 63; refine (label_digit.calls (c : Int) _ _ hD).mono ?_; rintro e w' ⟨rfl, nd2, rfl⟩))
            go_roundg g'
            case measure => omega
            case rel => exact ⟨v.drewN (nd + nd2), pos + wd, n + 1, rfl, hv, pw_below_drewN Hbv.out (nd + nd2), congrArg (Value.int .i64) (by omega), by omega, by omega, by have h2 := Hsc.out; rw [Hc.out, HN.out, show Go.Proofs.YtapfpdjcbeiibaaDoor.Lab.behind c = true by unfold Go.Proofs.YtapfpdjcbeiibaaDoor.Lab.behind; rw [Hd.out]; rfl] at h2; exact h2⟩
      · rw [cL] at hL
        have Hc := Aside0.mk cL
        clear cL
        go_wp2_with (first | (go_at_call 62; refine (label_letter.calls (c : Int) _ _ hL).mono ?_; rintro e w' ⟨rfl, nd, rfl⟩) | (go_at_call 63; refine (label_digit.calls (c : Int) _ _ hD).mono ?_; rintro e w' ⟨rfl, nd2, rfl⟩))
        go_roundg g'
        case measure => omega
        case rel => exact ⟨v.drewN nd, pos + wd, n + 1, rfl, hv, pw_below_drewN Hbv.out nd, congrArg (Value.int .i64) (by omega), by omega, by omega, by have h2 := Hsc.out; rw [Hc.out] at h2; exact h2⟩
    · have hnx := fun ty => run_next_end (P := Tryd.prog) v a0 pos ty hp
      rw [hv] at hnx
      rw [Go.Proofs.YtapfpdjcbeiibaaDoor.Lab.scan_end a0 gk pos n hp] at hsc
      have Hbv := Aside0.mk hbv
      clear hbv
      have Hb2 := Aside0.mk (show Below w.heap.size w (v.iter a0 pos) from Hbv.out.alloc (Nat.le_of_eq hv.symm) _)
      clear hA0 hpg hp
      by_cases n0 : n = 0
      · subst n0
        go_wp2_with fail
        go_ret
        have h3 := HR.out
        rw [if_pos (by omega)] at h3
        subst h3
        exact ⟨rfl, Hb2.out⟩
      · have n1 : ((n : Int) == 0) = false := by simp [n0]
        by_cases n16 : 16 < n
        · have n2 : (16 : Int) < (n : Int) := by omega
          go_wp2_with fail
          go_ret
          have h3 := HR.out
          rw [if_pos (by omega)] at h3
          subst h3
          exact ⟨rfl, Hb2.out⟩
        · have n2 : decide ((16 : Int) < (n : Int)) = false := decide_eq_false (by omega)
          have cV := Aside0.mk (show Calls Tryd.prog 64 #[.string a0] (v.iter a0 pos) _ from Any.utf8_ValidString Tryd.laysValid a0 (v.iter a0 pos) (by omega) (Tabs.below HTA.out Hb2.out))
          have Hsc := Aside0.mk hsc
          have Hn := Aside0.mk (show (n : Int) ≤ 16 ∧ 0 < (n : Int) by omega)
          clear hsc
          have HV := Aside0.mk (rfl : Lib.validD a0.data.toList = Lib.validD a0.data.toList)
          generalize hVV : Lib.validD a0.data.toList = V at cV HR
          clear HV
          cases V
          · go_wp2_with (go_at_call 64; refine cV.out.mono ?_; rintro e w' ⟨rfl, hb⟩)
            go_ret
            have h3 := HR.out
            rw [if_pos (by simp)] at h3
            subst h3
            exact ⟨rfl, below_step Hb2.out hb⟩
          · go_wp2_with (go_at_call 64; refine cV.out.mono ?_; rintro e w' ⟨rfl, hb⟩)
            go_ret
            have h3 := HR.out
            have h4 := Hsc.out
            have h5 := Hn.out
            rw [if_neg (by rintro (h | h | h); · omega
                           · omega
                           · cases h)] at h3
            subst h3
            subst h4
            exact ⟨rfl, below_step Hb2.out hb⟩

end Go.Proofs.YtapfpdjcbeiibaaDoor.PAll
