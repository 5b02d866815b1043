
import Derived.Test.YtnacmehhmheooaaDoorQOutboxCutPAllx0
namespace Go.Proofs.YtnacmehhmheooaaDoor.PAll
open Go.RowKit Go.Proofs.YtnacmehhmheooaaDoorW.PrintWords Go.Proofs.YtnacmehhmheooaaDoorW.PrintLast Go.Proofs.YtnacmehhmheooaaDoorW.PrintMore
attribute [local go_sem] max2_int min2_int max_two min_two
set_option linter.unusedVariables false
set_option linter.unusedSimpArgs false
def day_Right.f (a0 : Int) : Option (Bool) := if a0 ≥ 0 then (some (decide (a0 ≤ 1099511627776))) else (some false)
set_option maxHeartbeats 8000000 in
set_option maxRecDepth 100000 in
theorem day_Right.calls (a0 : Int) (r : Bool) (w : World) (h : day_Right.f a0 = some r) :
    Calls Tryd.prog 35 #[.int .i64 a0] w fun e w' => e = .returned (.bool r) ∧ Drawn0 w w' := by
  have H : (if a0 ≥ 0 then (some (decide (a0 ≤ 1099511627776))) else (some false)) = some r := h; clear h
  by_cases c2 : a0 ≥ 0
  · rw [if_pos c2] at H
    have c2b0 : decide (0 ≤ a0) = true := decide_eq_true c2; clear c2; obtain rfl := Option.some.inj H; simp only [Option.some.injEq, Prod.mk.injEq] at H; obtain ⟨rfl⟩ := H
    go_enter Tryd.func35, Tryd.ntmps35
    go_wp2
    go_ret
    exact ⟨ap3, ap5⟩
  · rw [if_neg c2] at H
    have c2b0 : decide (0 ≤ a0) = false := decide_eq_false c2; clear c2; obtain rfl := Option.some.inj H; simp only [Option.some.injEq, Prod.mk.injEq] at H; obtain ⟨rfl⟩ := H
    go_enter Tryd.func35, Tryd.ntmps35
    go_wp2
    go_ret
    exact ⟨ap3, ap5⟩
def tally_Right.f (a0 : Int) : Option (Bool) := if a0 ≥ 0 then (some (decide (a0 ≤ 1000000000000))) else (some false)
set_option maxHeartbeats 8000000 in
set_option maxRecDepth 100000 in
theorem tally_Right.calls (a0 : Int) (r : Bool) (w : World) (h : tally_Right.f a0 = some r) :
    Calls Tryd.prog 48 #[.int .i64 a0] w fun e w' => e = .returned (.bool r) ∧ Drawn0 w w' := by
  have H : (if a0 ≥ 0 then (some (decide (a0 ≤ 1000000000000))) else (some false)) = some r := h; clear h
  by_cases c2 : a0 ≥ 0
  · rw [if_pos c2] at H
    have c2b0 : decide (0 ≤ a0) = true := decide_eq_true c2; clear c2; obtain rfl := Option.some.inj H; simp only [Option.some.injEq, Prod.mk.injEq] at H; obtain ⟨rfl⟩ := H
    go_enter Tryd.func48, Tryd.ntmps48
    go_wp2
    go_ret
    exact ⟨ap3, ap5⟩
  · rw [if_neg c2] at H
    have c2b0 : decide (0 ≤ a0) = false := decide_eq_false c2; clear c2; obtain rfl := Option.some.inj H; simp only [Option.some.injEq, Prod.mk.injEq] at H; obtain ⟨rfl⟩ := H
    go_enter Tryd.func48, Tryd.ntmps48
    go_wp2
    go_ret
    exact ⟨ap3, ap5⟩
def outbox_batched.f (a0 : Int) : Option (Bool) := if a0 = 3 then (some true) else (some (a0 == 4))
set_option maxHeartbeats 8000000 in
set_option maxRecDepth 100000 in
theorem outbox_batched.calls (a0 : Int) (r : Bool) (w : World) (h : outbox_batched.f a0 = some r) :
    Calls Tryd.prog 49 #[.int .i64 a0] w fun e w' => e = .returned (.bool r) ∧ Drawn0 w w' := by
  have H : (if a0 = 3 then (some true) else (some (a0 == 4))) = some r := h; clear h
  by_cases c2 : a0 = 3
  · rw [if_pos c2] at H
    have c2b0 : (a0 == 3) = true := beq_iff_eq.mpr c2; have c2b1 : (a0 != 3) = false := bne_eq_false_iff_eq.mpr c2; clear c2; obtain rfl := Option.some.inj H; simp only [Option.some.injEq, Prod.mk.injEq] at H; obtain ⟨rfl⟩ := H
    go_enter Tryd.func49, Tryd.ntmps49
    go_wp2
    go_ret
    exact ⟨ap3, ap5⟩
  · rw [if_neg c2] at H
    have c2b0 : (a0 == 3) = false := beq_eq_false_iff_ne.mpr c2; have c2b1 : (a0 != 3) = true := bne_iff_ne.mpr c2; obtain rfl := Option.some.inj H; simp only [Option.some.injEq, Prod.mk.injEq] at H; obtain ⟨rfl⟩ := H
    go_enter Tryd.func49, Tryd.ntmps49
    go_wp2
    go_ret
    exact ⟨ap3, ap5⟩
def label_letter.f (a0 : Int) : Option (Bool) := if 97 ≤ a0 then (if a0 ≤ 122 then (some true) else (if 945 ≤ a0 then (some (decide (a0 ≤ 969))) else (some false))) else (if 945 ≤ a0 then (some (decide (a0 ≤ 969))) else (some false))
set_option maxHeartbeats 8000000 in
set_option maxRecDepth 100000 in
theorem label_letter.calls (a0 : Int) (r : Bool) (w : World) (h : label_letter.f a0 = some r) :
    Calls Tryd.prog 61 #[.int .i32 a0] w fun e w' => e = .returned (.bool r) ∧ Drawn0 w w' := by
  have H : (if 97 ≤ a0 then (if a0 ≤ 122 then (some true) else (if 945 ≤ a0 then (some (decide (a0 ≤ 969))) else (some false))) else (if 945 ≤ a0 then (some (decide (a0 ≤ 969))) else (some false))) = some r := h; clear h
  by_cases c2 : 97 ≤ a0
  · rw [if_pos c2] at H
    have c2b0 : decide (97 ≤ a0) = true := decide_eq_true c2; clear c2
    by_cases c3 : a0 ≤ 122
    · rw [if_pos c3] at H
      have c3b0 : decide (a0 ≤ 122) = true := decide_eq_true c3; clear c3; obtain rfl := Option.some.inj H; simp only [Option.some.injEq, Prod.mk.injEq] at H; obtain ⟨rfl⟩ := H
      go_enter Tryd.func61, Tryd.ntmps61
      go_wp2
      go_ret
      exact ⟨ap3, ap5⟩
    · rw [if_neg c3] at H
      have c3b0 : decide (a0 ≤ 122) = false := decide_eq_false c3; clear c3
      by_cases c4 : 945 ≤ a0
      · rw [if_pos c4] at H
        have c4b0 : decide (945 ≤ a0) = true := decide_eq_true c4; clear c4; obtain rfl := Option.some.inj H; simp only [Option.some.injEq, Prod.mk.injEq] at H; obtain ⟨rfl⟩ := H
        go_enter Tryd.func61, Tryd.ntmps61
        go_wp2
        go_ret
        exact ⟨ap3, ap5⟩
      · rw [if_neg c4] at H
        have c4b0 : decide (945 ≤ a0) = false := decide_eq_false c4; clear c4; obtain rfl := Option.some.inj H; simp only [Option.some.injEq, Prod.mk.injEq] at H; obtain ⟨rfl⟩ := H
        go_enter Tryd.func61, Tryd.ntmps61
        go_wp2
        go_ret
        exact ⟨ap3, ap5⟩
  · rw [if_neg c2] at H
    have c2b0 : decide (97 ≤ a0) = false := decide_eq_false c2; clear c2
    by_cases c5 : 945 ≤ a0
    · rw [if_pos c5] at H
      have c5b0 : decide (945 ≤ a0) = true := decide_eq_true c5; clear c5; obtain rfl := Option.some.inj H; simp only [Option.some.injEq, Prod.mk.injEq] at H; obtain ⟨rfl⟩ := H
      go_enter Tryd.func61, Tryd.ntmps61
      go_wp2
      go_ret
      exact ⟨ap3, ap5⟩
    · rw [if_neg c5] at H
      have c5b0 : decide (945 ≤ a0) = false := decide_eq_false c5; clear c5; obtain rfl := Option.some.inj H; simp only [Option.some.injEq, Prod.mk.injEq] at H; obtain ⟨rfl⟩ := H
      go_enter Tryd.func61, Tryd.ntmps61
      go_wp2
      go_ret
      exact ⟨ap3, ap5⟩
def label_digit.f (a0 : Int) : Option (Bool) := if 48 ≤ a0 then (some (decide (a0 ≤ 57))) else (some false)
set_option maxHeartbeats 8000000 in
set_option maxRecDepth 100000 in
theorem label_digit.calls (a0 : Int) (r : Bool) (w : World) (h : label_digit.f a0 = some r) :
    Calls Tryd.prog 62 #[.int .i32 a0] w fun e w' => e = .returned (.bool r) ∧ Drawn0 w w' := by
  have H : (if 48 ≤ a0 then (some (decide (a0 ≤ 57))) else (some false)) = some r := h; clear h
  by_cases c2 : 48 ≤ a0
  · rw [if_pos c2] at H
    have c2b0 : decide (48 ≤ a0) = true := decide_eq_true c2; clear c2; obtain rfl := Option.some.inj H; simp only [Option.some.injEq, Prod.mk.injEq] at H; obtain ⟨rfl⟩ := H
    go_enter Tryd.func62, Tryd.ntmps62
    go_wp2
    go_ret
    exact ⟨ap3, ap5⟩
  · rw [if_neg c2] at H
    have c2b0 : decide (48 ≤ a0) = false := decide_eq_false c2; clear c2; obtain rfl := Option.some.inj H; simp only [Option.some.injEq, Prod.mk.injEq] at H; obtain ⟨rfl⟩ := H
    go_enter Tryd.func62, Tryd.ntmps62
    go_wp2
    go_ret
    exact ⟨ap3, ap5⟩
def label_Signs.f (a0 : ByteArray) : Option (Int) := if a0.size ≤ 140737488351232 then some (Go.Proofs.YtnacmehhmheooaaDoor.Lab.signs a0) else none
theorem label_letter_nat (c : Nat) : label_letter.f (c : Int) = some (Go.Proofs.YtnacmehhmheooaaDoor.Lab.letter c) := by
  unfold label_letter.f Go.Proofs.YtnacmehhmheooaaDoor.Lab.letter
  by_cases h1 : 97 ≤ c
  · rw [if_pos (by omega)]
    by_cases h2 : c ≤ 122
    · rw [if_pos (by omega)]; simp [h1, h2]
    · rw [if_neg (by omega)]
      by_cases h3 : 945 ≤ c
      · rw [if_pos (by omega)]; simp [h2, h3]; omega
      · rw [if_neg (by omega)]; simp [h2, h3]
  · rw [if_neg (by omega), if_neg (by omega)]
    have h3 : ¬ 945 ≤ c := by omega
    simp [h1, h3]
theorem label_digit_nat (c : Nat) : label_digit.f (c : Int) = some (decide (48 ≤ c) && decide (c ≤ 57)) := by
  unfold label_digit.f
  by_cases h1 : 48 ≤ c
  · rw [if_pos (by omega)]; simp [h1]; omega
  · rw [if_neg (by omega)]; simp [h1]
set_option maxHeartbeats 8000000 in
set_option maxRecDepth 100000 in
theorem label_Signs.calls (a0 : ByteArray) (r : Int) (w : World) (hT : Tabs w) (h : label_Signs.f a0 = some r) :
    Calls Tryd.prog 58 #[.string a0] w fun e w' => e = .returned (.int .i64 r) ∧ Below w.heap.size w w' := by
  have hsz : a0.size ≤ 140737488351232 := by
    by_cases c : a0.size ≤ 140737488351232
    · exact c
    · rw [label_Signs.f, if_neg c] at h; cases h
  obtain rfl : Go.Proofs.YtnacmehhmheooaaDoor.Lab.signs a0 = r := by rw [label_Signs.f, if_pos hsz] at h; exact Option.some.inj h
  clear h
  unfold Go.Proofs.YtnacmehhmheooaaDoor.Lab.signs
  obtain ⟨ANS, hANS⟩ : ∃ ANS, Go.Proofs.YtnacmehhmheooaaDoor.Lab.scan a0 a0.size 0 0 = ANS := ⟨_, rfl⟩
  have hA0 : -1 ≤ ANS ∧ ANS ≤ 140737488351232 := by
    rw [← hANS]; have := Go.Proofs.YtnacmehhmheooaaDoor.Lab.scan_le a0 a0.size 0 0; omega
  rw [hANS]; obtain ⟨RES, hRES⟩ : ∃ RES : Int, (if ANS ≤ 0 ∨ 16 < ANS ∨ Lib.validD a0.data.toList = false then -1 else ANS) = RES := ⟨_, rfl⟩; rw [hRES]; have HR := am hRES; clear hRES; have HTA := am hT; clear hT
  go_enter Tryd.func58, Tryd.ntmps58
  go_wp2
  go_loopg [3] a0.size (fun g s3 wx => ∃ (v : World) (pos n : Nat), wx = v.iter a0 pos ∧ v.heap.size = w.heap.size ∧ Below w.heap.size w v ∧ s3 = .int .i64 (n : Int) ∧ n ≤ pos ∧ a0.size ≤ pos + g ∧ Go.Proofs.YtnacmehhmheooaaDoor.Lab.scan a0 g pos n = ANS)
  case atStart => exact ⟨w, 0, 0, rfl, rfl, Below.refl _ _, rfl, by omega, by omega, hANS⟩
  case round =>
    obtain ⟨v, pos, n, rfl, hv, hbv, rfl, hnp, hpg, hsc⟩ := hrel; clear hANS
    by_cases hp : pos < a0.size
    · obtain ⟨g', rfl⟩ : ∃ g', gk = g' + 1 := ⟨gk - 1, by omega⟩
      rw [Go.Proofs.YtnacmehhmheooaaDoor.Lab.scan_step a0 g' pos n hp] at hsc
      have hnx := fun ty => run_next_any (P := Tryd.prog) v a0 pos ty hp
      rw [hv] at hnx; have hw1 := Lib.width_pos a0 pos; generalize Utf8.decode a0 pos = d at hsc hnx hw1; obtain ⟨c, wd⟩ := d; have hL := label_letter_nat c; have hD := label_digit_nat c; simp only at hsc hnx hw1; have Hsc := am hsc; clear hsc; have Hbv := am hbv; clear hbv
      have hwr : IntKind.i64.wrap ((n : Int) + 1) = (n : Int) + 1 := by rw [IntKind.wrap_i64]; omega
      cases cL : Go.Proofs.YtnacmehhmheooaaDoor.Lab.letter c
      · rw [cL] at hL
        have Hc := am cL; clear cL
        by_cases n0 : n = 0
        · subst n0
          go_wp2_with (first | (go_at_call 61; refine (label_letter.calls (c : Int) _ _ hL).mono ?_; rintro e w' ⟨rfl, nd, rfl⟩) | (go_at_call 62; refine (label_digit.calls (c : Int) _ _ hD).mono ?_; rintro e w' ⟨rfl, nd2, rfl⟩))
          go_ret
          have h2 := Hsc.out; rw [Hc.out] at h2; simp at h2; have h3 := HR.out; rw [if_pos (by omega)] at h3; subst h3; exact ⟨rfl, pw_below_drewN (show Below w.heap.size w (v.iter a0 (pos + wd)) from Hbv.out.alloc (Nat.le_of_eq hv.symm) _) nd⟩
        · have n1 : ((n : Int) == 0) = false := by simp [n0]
          have HN := am (show decide (0 < n) = true by simp; omega)
          cases cD : (decide (48 ≤ c) && decide (c ≤ 57))
          · rw [cD] at hD
            have Hd := am cD; clear cD
            by_cases c45 : c = 45
            · have m1 : ((c : Int) != 45) = false := by simp [c45]
              have H45 := am c45; clear c45
              go_wp2_with (first | (go_at_call 61; refine (label_letter.calls (c : Int) _ _ hL).mono ?_; rintro e w' ⟨rfl, nd, rfl⟩) | (go_at_call 62; refine (label_digit.calls (c : Int) _ _ hD).mono ?_; rintro e w' ⟨rfl, nd2, rfl⟩))
              go_roundg g'
              case measure => omega
              case rel => exact ⟨v.drewN (nd + nd2), pos + wd, n + 1, rfl, hv, pw_below_drewN Hbv.out (nd + nd2), congrArg (Value.int .i64) (by omega), by omega, by omega, by have h2 := Hsc.out; rw [Hc.out, HN.out, show Go.Proofs.YtnacmehhmheooaaDoor.Lab.behind c = true by unfold Go.Proofs.YtnacmehhmheooaaDoor.Lab.behind; rw [Hd.out, H45.out]; rfl] at h2; exact h2⟩
            · have m1 : ((c : Int) != 45) = true := by simp; omega
              have H45 := am c45; clear c45
              go_wp2_with (first | (go_at_call 61; refine (label_letter.calls (c : Int) _ _ hL).mono ?_; rintro e w' ⟨rfl, nd, rfl⟩) | (go_at_call 62; refine (label_digit.calls (c : Int) _ _ hD).mono ?_; rintro e w' ⟨rfl, nd2, rfl⟩))
              go_ret
              have h2 := Hsc.out; rw [Hc.out, HN.out, show Go.Proofs.YtnacmehhmheooaaDoor.Lab.behind c = false by unfold Go.Proofs.YtnacmehhmheooaaDoor.Lab.behind; rw [Hd.out, decide_eq_false H45.out]; rfl] at h2; simp at h2; have h3 := HR.out; rw [if_pos (by omega)] at h3; subst h3; exact ⟨rfl, pw_below_drewN (show Below w.heap.size w (v.iter a0 (pos + wd)) from Hbv.out.alloc (Nat.le_of_eq hv.symm) _) (nd + nd2)⟩
          · rw [cD] at hD
            have Hd := am cD; clear cD
            go_wp2_with (first | (go_at_call 61; refine (label_letter.calls (c : Int) _ _ hL).mono ?_; rintro e w' ⟨rfl, nd, rfl⟩) | (go_at_call 62; refine (label_digit.calls (c : Int) _ _ hD).mono ?_; rintro e w' ⟨rfl, nd2, rfl⟩))
            go_roundg g'
            case measure => omega
            case rel => exact ⟨v.drewN (nd + nd2), pos + wd, n + 1, rfl, hv, pw_below_drewN Hbv.out (nd + nd2), congrArg (Value.int .i64) (by omega), by omega, by omega, by have h2 := Hsc.out; rw [Hc.out, HN.out, show Go.Proofs.YtnacmehhmheooaaDoor.Lab.behind c = true by unfold Go.Proofs.YtnacmehhmheooaaDoor.Lab.behind; rw [Hd.out]; rfl] at h2; exact h2⟩
      · rw [cL] at hL
        have Hc := am cL; clear cL
        go_wp2_with (first | (go_at_call 61; refine (label_letter.calls (c : Int) _ _ hL).mono ?_; rintro e w' ⟨rfl, nd, rfl⟩) | (go_at_call 62; refine (label_digit.calls (c : Int) _ _ hD).mono ?_; rintro e w' ⟨rfl, nd2, rfl⟩))
        go_roundg g'
        case measure => omega
        case rel => exact ⟨v.drewN nd, pos + wd, n + 1, rfl, hv, pw_below_drewN Hbv.out nd, congrArg (Value.int .i64) (by omega), by omega, by omega, by have h2 := Hsc.out; rw [Hc.out] at h2; exact h2⟩
    · have hnx := fun ty => run_next_end (P := Tryd.prog) v a0 pos ty hp
      rw [hv] at hnx; rw [Go.Proofs.YtnacmehhmheooaaDoor.Lab.scan_end a0 gk pos n hp] at hsc; have Hbv := am hbv; clear hbv; have Hb2 := am (show Below w.heap.size w (v.iter a0 pos) from Hbv.out.alloc (Nat.le_of_eq hv.symm) _); clear hA0 hpg hp
      by_cases n0 : n = 0
      · subst n0
        go_wp2_with fail
        go_ret
        have h3 := HR.out; rw [if_pos (by omega)] at h3; subst h3; exact ⟨rfl, Hb2.out⟩
      · have n1 : ((n : Int) == 0) = false := by simp [n0]
        by_cases n16 : 16 < n
        · have n2 : (16 : Int) < (n : Int) := by omega
          go_wp2_with fail
          go_ret
          have h3 := HR.out; rw [if_pos (by omega)] at h3; subst h3; exact ⟨rfl, Hb2.out⟩
        · have n2 : decide ((16 : Int) < (n : Int)) = false := decide_eq_false (by omega)
          have cV := am (show Calls Tryd.prog 63 #[.string a0] (v.iter a0 pos) _ from Any.utf8_ValidString Tryd.laysValid a0 (v.iter a0 pos) (by omega) (Tabs.u8 (Tabs.below HTA.out Hb2.out))); have Hsc := am hsc; have Hn := am (show (n : Int) ≤ 16 ∧ 0 < (n : Int) by omega); clear hsc; have HV := am (rfl : Lib.validD a0.data.toList = Lib.validD a0.data.toList); generalize hVV : Lib.validD a0.data.toList = V at cV HR; clear HV
          cases V
          · go_wp2_with (go_at_call 63; refine cV.out.mono ?_; rintro e w' ⟨rfl, hb⟩)
            go_ret
            have h3 := HR.out; rw [if_pos (by simp)] at h3; subst h3; exact ⟨rfl, below_step Hb2.out hb⟩
          · go_wp2_with (go_at_call 63; refine cV.out.mono ?_; rintro e w' ⟨rfl, hb⟩)
            go_ret
            have h3 := HR.out; have h4 := Hsc.out; have h5 := Hn.out
            rw [if_neg (by rintro (h | h | h); · omega
                           · omega
                           · cases h)] at h3
            subst h3; subst h4; exact ⟨rfl, below_step Hb2.out hb⟩
def label_Right.f (a0 : ByteArray) : Option (Bool) := (label_Signs.f a0).bind fun t108 => (some (decide (t108 > 0)))
set_option maxHeartbeats 8000000 in
set_option maxRecDepth 100000 in
theorem label_Right.calls (a0 : ByteArray) (r : Bool) (w : World) (hT : Tabs w) (h : label_Right.f a0 = some r) :
    Calls Tryd.prog 50 #[.string a0] w fun e w' => e = .returned (.bool r) ∧ Below w.heap.size w w' := by
  have HT := am hT; clear hT; have HB := am (Below.refl w.heap.size w); have H : ((label_Signs.f a0).bind fun t108 => (some (decide (t108 > 0)))) = some r := h; clear h; replace H := obm H; obtain ⟨t108, A20, H⟩ := H; replace H : (some (decide (t108 > 0))) = some r := H; have A2 := am A20; clear A20; obtain rfl := Option.some.inj H; simp only [Option.some.injEq, Prod.mk.injEq] at H; obtain ⟨rfl⟩ := H
  go_enter Tryd.func50, Tryd.ntmps50
  go_wp2_with (first | ((with_reducible refine gate_callee (f := 58) rfl ?_); refine goesL_ (some 4) rfl rfl Tryd.func58 (by kernel_rfl) rfl #[.string a0] rfl ap1 ?_; (with_reducible refine (label_Signs.calls a0 t108 _ ?side1 A2.out).mono ?_); (case side1 => first | (with_reducible exact HT.out) | exact Tabs.below HT.out (beu HB.out)); rintro e w3 ⟨rfl, hb⟩; refine ⟨_, rfl, ?_⟩; have _ := am (below_step (beu HB.out) hb); clear HB; rename_i HB; (try clear hb)))
  go_ret
  exact ⟨ap4, beu HB.out⟩
def outbox_one.j0 : Nat → Bool → Int → Int → Int → Int → Int → ByteArray → Option (Bool)
  | 0, _, _, _, _, _, _, _ => none
  | k + 1, x37, X0, X1, X2, X3, X4, X5 => if x37 = true then (some false) else ((outbox_batched.f X3).bind fun t112 => (if t112 = true then (if X1 ≥ 1 then ((tally_Right.f X1).bind fun t113 => (if t113 = true then (some (X5.toList == ([] : List UInt8))) else (some false))) else (some false)) else (if X1 = 0 then ((label_Right.f X5).bind fun t114 => (some t114)) else (some false))))
def outbox_one.f (k : Nat) (a0_0 : Int) (a0_1 : Int) (a0_2 : Int) (a0_3 : Int) (a0_4 : Int) (a0_5 : ByteArray) : Option (Bool) := if a0_0 < 1 then (outbox_one.j0 k true a0_0 a0_1 a0_2 a0_3 a0_4 a0_5) else ((tally_Right.f a0_0).bind fun t110 => (if t110 = true then ((day_Right.f a0_2).bind fun t111 => (if t111 = true then (if a0_4 < 0 then (outbox_one.j0 k true a0_0 a0_1 a0_2 a0_3 a0_4 a0_5) else (if a0_4 > 1000000 then (outbox_one.j0 k true a0_0 a0_1 a0_2 a0_3 a0_4 a0_5) else (if a0_3 < 1 then (outbox_one.j0 k true a0_0 a0_1 a0_2 a0_3 a0_4 a0_5) else (outbox_one.j0 k (decide (a0_3 > 7)) a0_0 a0_1 a0_2 a0_3 a0_4 a0_5)))) else (outbox_one.j0 k true a0_0 a0_1 a0_2 a0_3 a0_4 a0_5))) else (outbox_one.j0 k true a0_0 a0_1 a0_2 a0_3 a0_4 a0_5)))
theorem outbox_one.mono_l : ∀ k, (∀ y0 y1 y2 y3 y4 y5 y6, LeO (outbox_one.j0 k y0 y1 y2 y3 y4 y5 y6) (outbox_one.j0 (k + 1) y0 y1 y2 y3 y4 y5 y6))
  | 0 => fun _ _ _ _ _ _ _ r h => by simp [outbox_one.j0] at h
  | k + 1 => by
    have ih0 := outbox_one.mono_l k
    · intro y0 y1 y2 y3 y4 y5 y6
      unfold outbox_one.j0
      repeat' first
      | (with_reducible exact ih0 _ _ _ _ _ _ _)
      | (with_reducible exact LeO.refl _)
      | (with_reducible exact LeO.none _)
      | (with_reducible refine LeO.ite ?_ ?_)
      | (with_reducible refine LeO.bind ?_ (fun _ => ?_))
      | exact ih0 _ _ _ _ _ _ _
      | exact LeO.none _
      | refine LeO.ite ?_ ?_
      | refine LeO.bind ?_ (fun _ => ?_)
theorem outbox_one.mono : ∀ a0 a1 a2 a3 a4 a5 k, LeO (outbox_one.f k a0 a1 a2 a3 a4 a5) (outbox_one.f (k + 1) a0 a1 a2 a3 a4 a5) := by
  intro a0 a1 a2 a3 a4 a5 k; have ih0 := outbox_one.mono_l k
  unfold outbox_one.f
  repeat' first
      | (with_reducible exact ih0 _ _ _ _ _ _ _)
      | (with_reducible exact LeO.refl _)
      | (with_reducible exact LeO.none _)
      | (with_reducible refine LeO.ite ?_ ?_)
      | (with_reducible refine LeO.bind ?_ (fun _ => ?_))
      | exact ih0 _ _ _ _ _ _ _
      | exact LeO.none _
      | refine LeO.ite ?_ ?_
      | refine LeO.bind ?_ (fun _ => ?_)
set_option maxHeartbeats 8000000 in
set_option maxRecDepth 100000 in
theorem outbox_one.calls (k : Nat) (a0_0 : Int) (a0_1 : Int) (a0_2 : Int) (a0_3 : Int) (a0_4 : Int) (a0_5 : ByteArray) (r : Bool) (w : World) (hT : Tabs w) (h : outbox_one.f k a0_0 a0_1 a0_2 a0_3 a0_4 a0_5 = some r) :
    Calls Tryd.prog 31 #[.agg #[.int .i64 a0_0, .int .i64 a0_1, .int .i64 a0_2, .int .i64 a0_3, .int .i64 a0_4, .string a0_5]] w fun e w' => e = .returned (.bool r) ∧ Below w.heap.size w w' := by
  have hu27 := Tryd.underlying27; have HT := am hT; clear hT; have HB := am (Below.refl w.heap.size w); have H : (if a0_0 < 1 then (outbox_one.j0 k true a0_0 a0_1 a0_2 a0_3 a0_4 a0_5) else ((tally_Right.f a0_0).bind fun t110 => (if t110 = true then ((day_Right.f a0_2).bind fun t111 => (if t111 = true then (if a0_4 < 0 then (outbox_one.j0 k true a0_0 a0_1 a0_2 a0_3 a0_4 a0_5) else (if a0_4 > 1000000 then (outbox_one.j0 k true a0_0 a0_1 a0_2 a0_3 a0_4 a0_5) else (if a0_3 < 1 then (outbox_one.j0 k true a0_0 a0_1 a0_2 a0_3 a0_4 a0_5) else (outbox_one.j0 k (decide (a0_3 > 7)) a0_0 a0_1 a0_2 a0_3 a0_4 a0_5)))) else (outbox_one.j0 k true a0_0 a0_1 a0_2 a0_3 a0_4 a0_5))) else (outbox_one.j0 k true a0_0 a0_1 a0_2 a0_3 a0_4 a0_5)))) = some r := h; clear h; have HC2 := am H; clear H
  go_enter Tryd.func31, Tryd.ntmps31
  go_upto_region 1 with (first | ((with_reducible refine gate_dst (N := 1) rfl ?_); refine box_event ?hg (N := 1) ?hd (cs := #[.int .i64 a0_0, .int .i64 a0_1, .int .i64 a0_2, .int .i64 a0_3, .int .i64 a0_4, .string a0_5]) (t := 27) ?hr ?_; (case hd => rfl); (case hg => rfl); (case hr => first | (go_simp; done) | (go_simp; rfl)); intro gb109 hg w3 hbox hb; have _ := am (below_step (beu HB.out) hb); have _ := am (hbox); have _ := am ((by rw [hg]; exact (below_size (beu HB.out)) : w.heap.size ≤ gb109)); have _ := am ((by rw [hg]; exact (below_size (beu HB.out)) : w.heap.size ≤ gb109)); clear HB; rename_i HB BK109 GW109 GE109; clear hb hbox hg))
  (try simp only [Act.put, sA, sB, sC])
  go_cut [37] (fun v37 wc => ∃ (kq : Nat) (x37_1 : Bool), v37 = .bool x37_1 ∧ Aside0 (outbox_one.j0 kq x37_1 a0_0 a0_1 a0_2 a0_3 a0_4 a0_5 = some r) ∧ Aside0 (kq ≤ k) ∧ Aside0 (wc.heap[gb109]? = some (.cells #[.int .i64 a0_0, .int .i64 a0_1, .int .i64 a0_2, .int .i64 a0_3, .int .i64 a0_4, .string a0_5] 27 (0, 0))) ∧ Aside0 (Below w.heap.size w wc))
  case first =>
    have H := HC2.out; clear HC2
    by_cases c4 : a0_0 < 1
    · rw [if_pos c4] at H
      have c4b0 : decide (a0_0 < 1) = true := decide_eq_true c4; clear c4
      (first | rw [c4b0] | (simp only [i64_w, i32_w]; rw [c4b0]) | skip)
      have H' := am H; clear H; obtain ⟨hcz5_0, hcz5_1, hcz5_2, hcz5_3, hcz5_4, hcz5_5⟩ := cells6 BK109.out; obtain ⟨hfz5_0, hfz5_1, hfz5_2, hfz5_3, hfz5_4, hfz5_5⟩ := frozens6 BK109.out
      go_wp2
      go_meet
      case rel => exact ⟨_, (true), ap3, H', ⟨by first | omega | exact Nat.le_refl _⟩, ⟨by refine bu ?_; exact BK109.out⟩, ⟨beu HB.out⟩⟩
    · rw [if_neg c4] at H
      have c4b0 : decide (a0_0 < 1) = false := decide_eq_false c4; clear c4
      (first | rw [c4b0] | (simp only [i64_w, i32_w]; rw [c4b0]) | skip)
      replace H := obm H; obtain ⟨t110, A60, H⟩ := H; replace H : (if t110 = true then ((day_Right.f a0_2).bind fun t111 => (if t111 = true then (if a0_4 < 0 then (outbox_one.j0 k true a0_0 a0_1 a0_2 a0_3 a0_4 a0_5) else (if a0_4 > 1000000 then (outbox_one.j0 k true a0_0 a0_1 a0_2 a0_3 a0_4 a0_5) else (if a0_3 < 1 then (outbox_one.j0 k true a0_0 a0_1 a0_2 a0_3 a0_4 a0_5) else (outbox_one.j0 k (decide (a0_3 > 7)) a0_0 a0_1 a0_2 a0_3 a0_4 a0_5)))) else (outbox_one.j0 k true a0_0 a0_1 a0_2 a0_3 a0_4 a0_5))) else (outbox_one.j0 k true a0_0 a0_1 a0_2 a0_3 a0_4 a0_5)) = some r := H; have A6 := am A60; clear A60
      by_cases c7 : t110 = true
      · subst c7
        have H1 : ((day_Right.f a0_2).bind fun t111 => (if t111 = true then (if a0_4 < 0 then (outbox_one.j0 k true a0_0 a0_1 a0_2 a0_3 a0_4 a0_5) else (if a0_4 > 1000000 then (outbox_one.j0 k true a0_0 a0_1 a0_2 a0_3 a0_4 a0_5) else (if a0_3 < 1 then (outbox_one.j0 k true a0_0 a0_1 a0_2 a0_3 a0_4 a0_5) else (outbox_one.j0 k (decide (a0_3 > 7)) a0_0 a0_1 a0_2 a0_3 a0_4 a0_5)))) else (outbox_one.j0 k true a0_0 a0_1 a0_2 a0_3 a0_4 a0_5))) = some r := by rw [if_pos rfl] at H; exact H
        clear H; have H := H1; clear H1; replace H := obm H; obtain ⟨t111, A80, H⟩ := H; replace H : (if t111 = true then (if a0_4 < 0 then (outbox_one.j0 k true a0_0 a0_1 a0_2 a0_3 a0_4 a0_5) else (if a0_4 > 1000000 then (outbox_one.j0 k true a0_0 a0_1 a0_2 a0_3 a0_4 a0_5) else (if a0_3 < 1 then (outbox_one.j0 k true a0_0 a0_1 a0_2 a0_3 a0_4 a0_5) else (outbox_one.j0 k (decide (a0_3 > 7)) a0_0 a0_1 a0_2 a0_3 a0_4 a0_5)))) else (outbox_one.j0 k true a0_0 a0_1 a0_2 a0_3 a0_4 a0_5)) = some r := H; have A8 := am A80; clear A80
        by_cases c9 : t111 = true
        · subst c9
          have H1 : (if a0_4 < 0 then (outbox_one.j0 k true a0_0 a0_1 a0_2 a0_3 a0_4 a0_5) else (if a0_4 > 1000000 then (outbox_one.j0 k true a0_0 a0_1 a0_2 a0_3 a0_4 a0_5) else (if a0_3 < 1 then (outbox_one.j0 k true a0_0 a0_1 a0_2 a0_3 a0_4 a0_5) else (outbox_one.j0 k (decide (a0_3 > 7)) a0_0 a0_1 a0_2 a0_3 a0_4 a0_5)))) = some r := by rw [if_pos rfl] at H; exact H
          clear H; have H := H1; clear H1
          by_cases c10 : a0_4 < 0
          · rw [if_pos c10] at H
            have c10b0 : decide (a0_4 < 0) = true := decide_eq_true c10; clear c10; have H' := am H; clear H; obtain ⟨hcz11_0, hcz11_1, hcz11_2, hcz11_3, hcz11_4, hcz11_5⟩ := cells6 BK109.out; obtain ⟨hfz11_0, hfz11_1, hfz11_2, hfz11_3, hfz11_4, hfz11_5⟩ := frozens6 BK109.out
            go_wp2_with (first | (go_at_call 48; (with_reducible refine (tally_Right.calls a0_0 true _ A6.out).mono ?_); rintro e w' ⟨rfl, ⟨nd, rfl⟩⟩) | (go_at_call 35; (with_reducible refine (day_Right.calls a0_2 true _ A8.out).mono ?_); rintro e w' ⟨rfl, ⟨nd, rfl⟩⟩))
            go_meet
            case rel => exact ⟨_, (true), ap3, H', ⟨by first | omega | exact Nat.le_refl _⟩, ⟨by refine bu ?_; exact BK109.out⟩, ⟨beu HB.out⟩⟩
          · rw [if_neg c10] at H
            have c10b0 : decide (a0_4 < 0) = false := decide_eq_false c10; clear c10
            by_cases c12 : a0_4 > 1000000
            · rw [if_pos c12] at H
              have c12b0 : decide (1000000 < a0_4) = true := decide_eq_true c12; clear c12; have H' := am H; clear H; obtain ⟨hcz13_0, hcz13_1, hcz13_2, hcz13_3, hcz13_4, hcz13_5⟩ := cells6 BK109.out; obtain ⟨hfz13_0, hfz13_1, hfz13_2, hfz13_3, hfz13_4, hfz13_5⟩ := frozens6 BK109.out
              go_wp2_with (first | (go_at_call 48; (with_reducible refine (tally_Right.calls a0_0 true _ A6.out).mono ?_); rintro e w' ⟨rfl, ⟨nd, rfl⟩⟩) | (go_at_call 35; (with_reducible refine (day_Right.calls a0_2 true _ A8.out).mono ?_); rintro e w' ⟨rfl, ⟨nd, rfl⟩⟩))
              go_meet
              case rel => exact ⟨_, (true), ap3, H', ⟨by first | omega | exact Nat.le_refl _⟩, ⟨by refine bu ?_; exact BK109.out⟩, ⟨beu HB.out⟩⟩
            · rw [if_neg c12] at H
              have c12b0 : decide (1000000 < a0_4) = false := decide_eq_false c12; clear c12
              by_cases c14 : a0_3 < 1
              · rw [if_pos c14] at H
                have c14b0 : decide (a0_3 < 1) = true := decide_eq_true c14; clear c14; have H' := am H; clear H; obtain ⟨hcz15_0, hcz15_1, hcz15_2, hcz15_3, hcz15_4, hcz15_5⟩ := cells6 BK109.out; obtain ⟨hfz15_0, hfz15_1, hfz15_2, hfz15_3, hfz15_4, hfz15_5⟩ := frozens6 BK109.out
                go_wp2_with (first | (go_at_call 48; (with_reducible refine (tally_Right.calls a0_0 true _ A6.out).mono ?_); rintro e w' ⟨rfl, ⟨nd, rfl⟩⟩) | (go_at_call 35; (with_reducible refine (day_Right.calls a0_2 true _ A8.out).mono ?_); rintro e w' ⟨rfl, ⟨nd, rfl⟩⟩))
                go_meet
                case rel => exact ⟨_, (true), ap3, H', ⟨by first | omega | exact Nat.le_refl _⟩, ⟨by refine bu ?_; exact BK109.out⟩, ⟨beu HB.out⟩⟩
              · rw [if_neg c14] at H
                have c14b0 : decide (a0_3 < 1) = false := decide_eq_false c14; clear c14; have H' := am H; clear H; obtain ⟨hcz16_0, hcz16_1, hcz16_2, hcz16_3, hcz16_4, hcz16_5⟩ := cells6 BK109.out; obtain ⟨hfz16_0, hfz16_1, hfz16_2, hfz16_3, hfz16_4, hfz16_5⟩ := frozens6 BK109.out
                go_wp2_with (first | (go_at_call 48; (with_reducible refine (tally_Right.calls a0_0 true _ A6.out).mono ?_); rintro e w' ⟨rfl, ⟨nd, rfl⟩⟩) | (go_at_call 35; (with_reducible refine (day_Right.calls a0_2 true _ A8.out).mono ?_); rintro e w' ⟨rfl, ⟨nd, rfl⟩⟩))
                go_meet
                case rel => exact ⟨_, (decide (a0_3 > 7)), ap3, H', ⟨by first | omega | exact Nat.le_refl _⟩, ⟨by refine bu ?_; exact BK109.out⟩, ⟨beu HB.out⟩⟩
        · replace c9 := Bool.eq_false_iff.mpr c9
          subst c9
          have H1 : (outbox_one.j0 k true a0_0 a0_1 a0_2 a0_3 a0_4 a0_5) = some r := by rw [if_neg (show ¬ (false = true) by decide)] at H; exact H
          clear H; have H := H1; clear H1; have H' := am H; clear H; obtain ⟨hcz17_0, hcz17_1, hcz17_2, hcz17_3, hcz17_4, hcz17_5⟩ := cells6 BK109.out; obtain ⟨hfz17_0, hfz17_1, hfz17_2, hfz17_3, hfz17_4, hfz17_5⟩ := frozens6 BK109.out
          go_wp2_with (first | (go_at_call 48; (with_reducible refine (tally_Right.calls a0_0 true _ A6.out).mono ?_); rintro e w' ⟨rfl, ⟨nd, rfl⟩⟩) | (go_at_call 35; (with_reducible refine (day_Right.calls a0_2 false _ A8.out).mono ?_); rintro e w' ⟨rfl, ⟨nd, rfl⟩⟩))
          go_meet
          case rel => exact ⟨_, (true), ap3, H', ⟨by first | omega | exact Nat.le_refl _⟩, ⟨by refine bu ?_; exact BK109.out⟩, ⟨beu HB.out⟩⟩
      · replace c7 := Bool.eq_false_iff.mpr c7
        subst c7
        have H1 : (outbox_one.j0 k true a0_0 a0_1 a0_2 a0_3 a0_4 a0_5) = some r := by rw [if_neg (show ¬ (false = true) by decide)] at H; exact H
        clear H; have H := H1; clear H1; have H' := am H; clear H; obtain ⟨hcz18_0, hcz18_1, hcz18_2, hcz18_3, hcz18_4, hcz18_5⟩ := cells6 BK109.out; obtain ⟨hfz18_0, hfz18_1, hfz18_2, hfz18_3, hfz18_4, hfz18_5⟩ := frozens6 BK109.out
        go_wp2_with (first | (go_at_call 48; (with_reducible refine (tally_Right.calls a0_0 false _ A6.out).mono ?_); rintro e w' ⟨rfl, ⟨nd, rfl⟩⟩))
        go_meet
        case rel => exact ⟨_, (true), ap3, H', ⟨by first | omega | exact Nat.le_refl _⟩, ⟨by refine bu ?_; exact BK109.out⟩, ⟨beu HB.out⟩⟩
  case rest =>
    clear HC2; (try clear c1); (try clear p2); (try clear c3); (try clear c4); (try clear c4b0); (try clear c7); (try clear c9); (try clear c10); (try clear c10b0); (try clear c12); (try clear c12b0); (try clear c14); (try clear c14b0); (try clear hcz11_0); (try clear hcz11_1); (try clear hcz11_2); (try clear hcz11_3); (try clear hcz11_4); (try clear hcz11_5); (try clear hcz13_0); (try clear hcz13_1); (try clear hcz13_2); (try clear hcz13_3); (try clear hcz13_4); (try clear hcz13_5); (try clear hcz15_0); (try clear hcz15_1); (try clear hcz15_2); (try clear hcz15_3); (try clear hcz15_4); (try clear hcz15_5); (try clear hcz16_0); (try clear hcz16_1); (try clear hcz16_2); (try clear hcz16_3); (try clear hcz16_4); (try clear hcz16_5); (try clear hcz17_0); (try clear hcz17_1); (try clear hcz17_2); (try clear hcz17_3); (try clear hcz17_4); (try clear hcz17_5); (try clear hcz18_0); (try clear hcz18_1); (try clear hcz18_2); (try clear hcz18_3); (try clear hcz18_4); (try clear hcz18_5); (try clear hcz5_0); (try clear hcz5_1); (try clear hcz5_2); (try clear hcz5_3); (try clear hcz5_4); (try clear hcz5_5); (try clear hfz11_0); (try clear hfz11_1); (try clear hfz11_2); (try clear hfz11_3); (try clear hfz11_4); (try clear hfz11_5); (try clear hfz13_0); (try clear hfz13_1); (try clear hfz13_2); (try clear hfz13_3); (try clear hfz13_4); (try clear hfz13_5); (try clear hfz15_0); (try clear hfz15_1); (try clear hfz15_2); (try clear hfz15_3); (try clear hfz15_4); (try clear hfz15_5); (try clear hfz16_0); (try clear hfz16_1); (try clear hfz16_2); (try clear hfz16_3); (try clear hfz16_4); (try clear hfz16_5); (try clear hfz17_0); (try clear hfz17_1); (try clear hfz17_2); (try clear hfz17_3); (try clear hfz17_4); (try clear hfz17_5); (try clear hfz18_0); (try clear hfz18_1); (try clear hfz18_2); (try clear hfz18_3); (try clear hfz18_4); (try clear hfz18_5); (try clear hfz5_0); (try clear hfz5_1); (try clear hfz5_2); (try clear hfz5_3); (try clear hfz5_4); (try clear hfz5_5); obtain ⟨kq, x37_1, rfl, HA, HJ1, BK109, HB⟩ := hcut
    cases kq with
    | zero => exact absurd HA.out (by simp [outbox_one.j0])
    | succ kj1 =>
      have H := HA.out; clear HA; simp only [outbox_one.j0] at H
      by_cases c19 : x37_1 = true
      · subst c19
        have H1 : (some false) = some r := by rw [if_pos rfl] at H; exact H
        clear H; have H := H1; clear H1; obtain rfl := Option.some.inj H; simp only [Option.some.injEq, Prod.mk.injEq] at H; obtain ⟨rfl⟩ := H
        go_wp2
        go_ret
        exact ⟨ap4, beu HB.out⟩
      · replace c19 := Bool.eq_false_iff.mpr c19
        subst c19
        have H1 : ((outbox_batched.f a0_3).bind fun t112 => (if t112 = true then (if a0_1 ≥ 1 then ((tally_Right.f a0_1).bind fun t113 => (if t113 = true then (some (a0_5.toList == ([] : List UInt8))) else (some false))) else (some false)) else (if a0_1 = 0 then ((label_Right.f a0_5).bind fun t114 => (some t114)) else (some false)))) = some r := by rw [if_neg (show ¬ (false = true) by decide)] at H; exact H
        clear H; have H := H1; clear H1; replace H := obm H; obtain ⟨t112, A200, H⟩ := H; replace H : (if t112 = true then (if a0_1 ≥ 1 then ((tally_Right.f a0_1).bind fun t113 => (if t113 = true then (some (a0_5.toList == ([] : List UInt8))) else (some false))) else (some false)) else (if a0_1 = 0 then ((label_Right.f a0_5).bind fun t114 => (some t114)) else (some false))) = some r := H; have A20 := am A200; clear A200
        by_cases c21 : t112 = true
        · subst c21
          have H1 : (if a0_1 ≥ 1 then ((tally_Right.f a0_1).bind fun t113 => (if t113 = true then (some (a0_5.toList == ([] : List UInt8))) else (some false))) else (some false)) = some r := by rw [if_pos rfl] at H; exact H
          clear H; have H := H1; clear H1
          by_cases c22 : a0_1 ≥ 1
          · rw [if_pos c22] at H
            have c22b0 : decide (1 ≤ a0_1) = true := decide_eq_true c22; clear c22; replace H := obm H; obtain ⟨t113, A230, H⟩ := H; replace H : (if t113 = true then (some (a0_5.toList == ([] : List UInt8))) else (some false)) = some r := H; have A23 := am A230; clear A230
            by_cases c24 : t113 = true
            · subst c24
              have H1 : (some (a0_5.toList == ([] : List UInt8))) = some r := by rw [if_pos rfl] at H; exact H
              clear H; have H := H1; clear H1; obtain rfl := Option.some.inj H; simp only [Option.some.injEq, Prod.mk.injEq] at H; obtain ⟨rfl⟩ := H; obtain ⟨_, _, _, _, _, _⟩ := cells6 BK109.out; obtain ⟨_, _, _, _, _, _⟩ := frozens6 BK109.out
              go_wp2_with (first | ((with_reducible refine gate_callee (f := 49) rfl ?_); refine goesL_ (some 40) rfl rfl Tryd.func49 (by kernel_rfl) rfl #[.int .i64 a0_3] rfl ap1 ?_; (with_reducible refine (outbox_batched.calls a0_3 true _ A20.out).mono ?_); rintro e w' ⟨rfl, ⟨nd, rfl⟩⟩; refine ⟨_, rfl, ?_⟩) | (go_at_call 48; (with_reducible refine (tally_Right.calls a0_1 true _ A23.out).mono ?_); rintro e w' ⟨rfl, ⟨nd, rfl⟩⟩))
              go_ret
              exact ⟨ap4, beu HB.out⟩
            · replace c24 := Bool.eq_false_iff.mpr c24
              subst c24
              have H1 : (some false) = some r := by rw [if_neg (show ¬ (false = true) by decide)] at H; exact H
              clear H; have H := H1; clear H1; obtain rfl := Option.some.inj H; simp only [Option.some.injEq, Prod.mk.injEq] at H; obtain ⟨rfl⟩ := H; obtain ⟨_, _, _, _, _, _⟩ := cells6 BK109.out; obtain ⟨_, _, _, _, _, _⟩ := frozens6 BK109.out
              go_wp2_with (first | ((with_reducible refine gate_callee (f := 49) rfl ?_); refine goesL_ (some 40) rfl rfl Tryd.func49 (by kernel_rfl) rfl #[.int .i64 a0_3] rfl ap1 ?_; (with_reducible refine (outbox_batched.calls a0_3 true _ A20.out).mono ?_); rintro e w' ⟨rfl, ⟨nd, rfl⟩⟩; refine ⟨_, rfl, ?_⟩) | (go_at_call 48; (with_reducible refine (tally_Right.calls a0_1 false _ A23.out).mono ?_); rintro e w' ⟨rfl, ⟨nd, rfl⟩⟩))
              go_ret
              exact ⟨ap4, beu HB.out⟩
          · rw [if_neg c22] at H
            have c22b0 : decide (1 ≤ a0_1) = false := decide_eq_false c22; clear c22; obtain rfl := Option.some.inj H; simp only [Option.some.injEq, Prod.mk.injEq] at H; obtain ⟨rfl⟩ := H; obtain ⟨_, _, _, _, _, _⟩ := cells6 BK109.out; obtain ⟨_, _, _, _, _, _⟩ := frozens6 BK109.out
            go_wp2_with (first | ((with_reducible refine gate_callee (f := 49) rfl ?_); refine goesL_ (some 40) rfl rfl Tryd.func49 (by kernel_rfl) rfl #[.int .i64 a0_3] rfl ap1 ?_; (with_reducible refine (outbox_batched.calls a0_3 true _ A20.out).mono ?_); rintro e w' ⟨rfl, ⟨nd, rfl⟩⟩; refine ⟨_, rfl, ?_⟩))
            go_ret
            exact ⟨ap4, beu HB.out⟩
        · replace c21 := Bool.eq_false_iff.mpr c21
          subst c21
          have H1 : (if a0_1 = 0 then ((label_Right.f a0_5).bind fun t114 => (some t114)) else (some false)) = some r := by rw [if_neg (show ¬ (false = true) by decide)] at H; exact H
          clear H; have H := H1; clear H1
          by_cases c28 : a0_1 = 0
          · rw [if_pos c28] at H
            have c28b0 : (a0_1 == 0) = true := beq_iff_eq.mpr c28; have c28b1 : (a0_1 != 0) = false := bne_eq_false_iff_eq.mpr c28; clear c28; replace H := obm H; obtain ⟨t114, A290, H⟩ := H; replace H : (some t114) = some r := H; have A29 := am A290; clear A290; obtain rfl := Option.some.inj H; simp only [Option.some.injEq, Prod.mk.injEq] at H; obtain ⟨rfl⟩ := H; obtain ⟨_, _, _, _, _, _⟩ := cells6 BK109.out; obtain ⟨_, _, _, _, _, _⟩ := frozens6 BK109.out
            go_wp2_with (first | ((with_reducible refine gate_callee (f := 49) rfl ?_); refine goesL_ (some 40) rfl rfl Tryd.func49 (by kernel_rfl) rfl #[.int .i64 a0_3] rfl ap1 ?_; (with_reducible refine (outbox_batched.calls a0_3 false _ A20.out).mono ?_); rintro e w' ⟨rfl, ⟨nd, rfl⟩⟩; refine ⟨_, rfl, ?_⟩) | (go_at_call 50; (with_reducible refine (label_Right.calls a0_5 t114 _ ?side1 A29.out).mono ?_); (case side1 => first | (with_reducible exact HT.out) | exact Tabs.below HT.out (beu HB.out)); rintro e w31 ⟨rfl, hb⟩; have _ := am (blk_below (bu BK109.out) hb); have _ := am (below_step (beu HB.out) hb); clear BK109 HB; rename_i BK109 HB; (try clear hb)))
            go_ret
            exact ⟨ap4, beu HB.out⟩
          · rw [if_neg c28] at H
            have c28b0 : (a0_1 == 0) = false := beq_eq_false_iff_ne.mpr c28; have c28b1 : (a0_1 != 0) = true := bne_iff_ne.mpr c28; obtain rfl := Option.some.inj H; simp only [Option.some.injEq, Prod.mk.injEq] at H; obtain ⟨rfl⟩ := H; obtain ⟨_, _, _, _, _, _⟩ := cells6 BK109.out; obtain ⟨_, _, _, _, _, _⟩ := frozens6 BK109.out
            go_wp2_with (first | ((with_reducible refine gate_callee (f := 49) rfl ?_); refine goesL_ (some 40) rfl rfl Tryd.func49 (by kernel_rfl) rfl #[.int .i64 a0_3] rfl ap1 ?_; (with_reducible refine (outbox_batched.calls a0_3 false _ A20.out).mono ?_); rintro e w' ⟨rfl, ⟨nd, rfl⟩⟩; refine ⟨_, rfl, ?_⟩))
            go_ret
            exact ⟨ap4, beu HB.out⟩
def api_Effect_32.f (a0 : List S27) : Option (List S27) := if a0.length < 2513169434916 then some a0 else none
set_option maxHeartbeats 4000000 in
set_option maxRecDepth 100000 in
theorem api_Effect_32.calls (A0 : Option Addr) (c0 : Nat) (l0 : List S27) (r : List S27) (w : World) (hr0 : Kd.C k27 w A0 l0.length l0) (hc0 : l0.length ≤ c0) (h : api_Effect_32.f l0 = some r) :
    Calls Tryd.prog 32 #[.slice A0 l0.length c0] w fun e w' => ∃ v0_ : Value, e = .returned (v0_) ∧ Kd.R k27 27 w' w.heap.size (fun _ => True) v0_ r ∧ Below w.heap.size w w' := by
  have hl : l0.length < 2513169434916 := by
    by_cases c : l0.length < 2513169434916
    · exact c
    · rw [api_Effect_32.f, if_neg c] at h; cases h
  obtain rfl : l0 = r := by rw [api_Effect_32.f, if_pos hl] at h; exact Option.some.inj h
  clear h; have HC := am hr0
  cases A0 with
  | none =>
    have h0 : l0 = [] := by
      cases l0 with
      | nil => rfl
      | cons x t =>
        obtain ⟨ad, c, hA, _⟩ := Kd.C_get hr0 x 0 (by omega) (by simp)
        cases hA
    subst h0; clear hr0
    have heq := fun W => Lib.run_eql_slice_nil (P := Tryd.prog) W 22 27 none 0 c0 0 0 Tryd.underlying22
    go_enter Tryd.func32, Tryd.ntmps32
    go_wp2_with fail
    go_ret
    exact ⟨.slice none 0 0, rfl, Kd.R_nil _ _ _ _ _, Below.refl _ _⟩
  | some ad =>
    clear hr0; have LM := am hl; clear hl
    have heq := fun W => Lib.run_eql_slice_nil (P := Tryd.prog) W 22 27 (some ad) l0.length c0 0 0 Tryd.underlying22
    go_enter Tryd.func32, Tryd.ntmps32
    go_wp2_with (first | ((with_reducible refine gate_dst (N := 5) rfl ?_); refine Kd.R_lit k27 w.heap.size 27 ?hg (N := 5) ?hd (xs := ([] : List S27)) (inner := []) (ok := fun _ => True) (okp := fun _ => True) ?hr ?hp (fun _ hk => hk) trivial (Below.refl _ _) (Nat.le_refl _) (by simp) ?_; (case hd => rfl); (case hg => rfl); (case hr => first | (go_simp; done) | (go_simp; rfl)); (case hp => exact (Reps.none _ _)); intro v1 w1 ho1 hb1 hg1 hn1; have HO := am ho1; have HB := am hb1; have HC1 := am (Kd.C_below HC.out hb1); clear ho1 hb1 hg1 hn1) | ((with_reducible refine gate_builtin (b := .append) (xs := #[.tmp 5, .tmp 6]) rfl ?_); at_builtin; refine Kd.R_append_rows k27 (w0 := w) w.heap.size rfl (.tmp 5) (.tmp 6) 22 27 (.agg #[(.int .i64 0), (.int .i64 0), (.int .i64 0), (.int .i64 0), (.int .i64 0), (.string ⟨#[]⟩)]) 56 rfl Tryd.underlying22 info27 rfl (by decide) (by omega) v1 [] l0 _ _ _ (fun _ => True) (fun _ => False) rfl rfl ?aO ?aR (fun _ _ h => h) (fun _ h => h.elim) ?aF ?aB ?aS ?aL ?_; (case aR => exact HC1.out); (case aB => exact HB.out); (case aF => exact (fun _ _ => trivial)); (case aO => exact HO.out); (case aS => exact HB.out.size); (case aL => have := LM.out; simp; omega); intro v2 w2 ho hb hg hat; have HO2 := am ho; have HB2 := am hb; clear ho hb hg hat))
    go_ret
    exact ⟨_, rfl, HO2.out, HB2.out⟩
def outbox_Add.f (k : Nat) (l0 : List (S27)) (a1_0 : Int) (a1_1 : Int) (a1_2 : Int) (a1_3 : Int) (a1_4 : Int) (a1_5 : ByteArray) : Option ((List (S27)) × Int) := (outbox_one.f k a1_0 a1_1 a1_2 a1_3 a1_4 a1_5).bind fun t116 => (if t116 = true then (if (l0.length : Int) > 0 then (if 0 ≤ (wrap64 ((l0.length : Int) - 1)) then (if (wrap64 ((l0.length : Int) - 1)) < (l0.length : Int) then (if ((rd_T27 l0 (wrap64 ((l0.length : Int) - 1))).f0) ≥ a1_0 then (some (([] : List (S27)), 131)) else ((api_Effect_32.f l0).bind fun t118 => ((some (([(⟨a1_0, a1_1, a1_2, a1_3, a1_4, a1_5⟩ : S27)] : List (S27)) : List (S27))).bind fun y121 => (if t118.length + y121.length < 2513169434916 then (some ((t118 ++ y121), 0)) else (none))))) else (none)) else (none)) else ((api_Effect_32.f l0).bind fun t127 => ((some (([(⟨a1_0, a1_1, a1_2, a1_3, a1_4, a1_5⟩ : S27)] : List (S27)) : List (S27))).bind fun y130 => (if t127.length + y130.length < 2513169434916 then (some ((t127 ++ y130), 0)) else (none))))) else (some (([] : List (S27)), 131)))
theorem outbox_Add.mono : ∀ a0 a1 a2 a3 a4 a5 a6 k, LeO (outbox_Add.f k a0 a1 a2 a3 a4 a5 a6) (outbox_Add.f (k + 1) a0 a1 a2 a3 a4 a5 a6) := by
  intro a0 a1 a2 a3 a4 a5 a6 k
  unfold outbox_Add.f
  repeat' first
      | (with_reducible exact outbox_one.mono _ _ _ _ _ _ _)
      | (with_reducible exact LeO.refl _)
      | (with_reducible exact LeO.none _)
      | (with_reducible refine LeO.ite ?_ ?_)
      | (with_reducible refine LeO.bind ?_ (fun _ => ?_))
      | exact outbox_one.mono _ _ _ _ _ _ _
      | exact LeO.none _
      | refine LeO.ite ?_ ?_
      | refine LeO.bind ?_ (fun _ => ?_)
def outbox_Add.T1 : Bool × List (List Nat × List Nat) := (true, [([], []), ([0], [0]), ([1], [1]), ([2, 1], [2]), ([3], [3]), ([4, 3], [3, 4]), ([5, 3], [3, 5]), ([6, 3, 3], [3, 6]), ([7], [7]), ([7], [7]), ([9, 7], [7, 9]), ([10, 7], [7, 10]), ([8, 11, 7], [7, 8, 11]), ([12, 7], [7, 12]), ([13, 7], [7, 13]), ([7], [7]), ([15, 7], [7, 15]), ([14, 16, 7], [7, 14, 16]), ([7, 17, 3], [3, 7, 17]), ([3, 18], [3, 18])])
def outbox_Add.B1 : List Nat := [0, 1, 3, 7, 15, 31, 63, 127, 255, 255, 767, 1791, 4095, 8191, 16383, 255, 33023, 131071, 262143, 524287]
theorem outbox_Add.tab1 : rtab .any (opsOf Tryd.f9 1) = outbox_Add.T1 := by kernel_rfl
theorem outbox_Add.bits1 : waitsOk outbox_Add.T1.2 outbox_Add.B1 = true := by kernel_rfl
set_option maxHeartbeats 8000000 in
set_option maxRecDepth 100000 in
theorem outbox_Add.calls (k : Nat) (A0 : Option Addr) (c0 : Nat) (l0 : List (S27)) (a1_0 : Int) (a1_1 : Int) (a1_2 : Int) (a1_3 : Int) (a1_4 : Int) (a1_5 : ByteArray) (r1 : List (S27)) (r2 : Int) (w : World) (hr0 : Kd.C k27 w A0 l0.length l0) (hc0 : l0.length ≤ c0) (hT : Tabs w) (h : outbox_Add.f k l0 a1_0 a1_1 a1_2 a1_3 a1_4 a1_5 = some (r1, r2)) :
    Calls Tryd.prog 9 #[.slice A0 l0.length c0, .agg #[.int .i64 a1_0, .int .i64 a1_1, .int .i64 a1_2, .int .i64 a1_3, .int .i64 a1_4, .string a1_5]] w fun e w' => ∃ v0_ : Value, e = .returned (.tuple #[v0_, .int .i64 r2]) ∧ Kd.R k27 27 w' w.heap.size (fun _ => True) v0_ r1 ∧ Below w.heap.size w w' := by
  have hu27 := Tryd.underlying27; have HR0 := am hr0; have HC0 := am hc0; clear hr0 hc0; have HT := am hT; clear hT; have HB := am (Below.refl w.heap.size w); have H : ((outbox_one.f k a1_0 a1_1 a1_2 a1_3 a1_4 a1_5).bind fun t116 => (if t116 = true then (if (l0.length : Int) > 0 then (if 0 ≤ (wrap64 ((l0.length : Int) - 1)) then (if (wrap64 ((l0.length : Int) - 1)) < (l0.length : Int) then (if ((rd_T27 l0 (wrap64 ((l0.length : Int) - 1))).f0) ≥ a1_0 then (some (([] : List (S27)), 131)) else ((api_Effect_32.f l0).bind fun t118 => ((some (([(⟨a1_0, a1_1, a1_2, a1_3, a1_4, a1_5⟩ : S27)] : List (S27)) : List (S27))).bind fun y121 => (if t118.length + y121.length < 2513169434916 then (some ((t118 ++ y121), 0)) else (none))))) else (none)) else (none)) else ((api_Effect_32.f l0).bind fun t127 => ((some (([(⟨a1_0, a1_1, a1_2, a1_3, a1_4, a1_5⟩ : S27)] : List (S27)) : List (S27))).bind fun y130 => (if t127.length + y130.length < 2513169434916 then (some ((t127 ++ y130), 0)) else (none))))) else (some (([] : List (S27)), 131)))) = some (r1, r2) := h; clear h; replace H := obm H; obtain ⟨t116, A30, H⟩ := H; replace H : (if t116 = true then (if (l0.length : Int) > 0 then (if 0 ≤ (wrap64 ((l0.length : Int) - 1)) then (if (wrap64 ((l0.length : Int) - 1)) < (l0.length : Int) then (if ((rd_T27 l0 (wrap64 ((l0.length : Int) - 1))).f0) ≥ a1_0 then (some (([] : List (S27)), 131)) else ((api_Effect_32.f l0).bind fun t118 => ((some (([(⟨a1_0, a1_1, a1_2, a1_3, a1_4, a1_5⟩ : S27)] : List (S27)) : List (S27))).bind fun y121 => (if t118.length + y121.length < 2513169434916 then (some ((t118 ++ y121), 0)) else (none))))) else (none)) else (none)) else ((api_Effect_32.f l0).bind fun t127 => ((some (([(⟨a1_0, a1_1, a1_2, a1_3, a1_4, a1_5⟩ : S27)] : List (S27)) : List (S27))).bind fun y130 => (if t127.length + y130.length < 2513169434916 then (some ((t127 ++ y130), 0)) else (none))))) else (some (([] : List (S27)), 131))) = some (r1, r2) := H; have A3 := am A30; clear A30
  by_cases c4 : t116 = true
  · subst c4
    have H1 : (if (l0.length : Int) > 0 then (if 0 ≤ (wrap64 ((l0.length : Int) - 1)) then (if (wrap64 ((l0.length : Int) - 1)) < (l0.length : Int) then (if ((rd_T27 l0 (wrap64 ((l0.length : Int) - 1))).f0) ≥ a1_0 then (some (([] : List (S27)), 131)) else ((api_Effect_32.f l0).bind fun t118 => ((some (([(⟨a1_0, a1_1, a1_2, a1_3, a1_4, a1_5⟩ : S27)] : List (S27)) : List (S27))).bind fun y121 => (if t118.length + y121.length < 2513169434916 then (some ((t118 ++ y121), 0)) else (none))))) else (none)) else (none)) else ((api_Effect_32.f l0).bind fun t127 => ((some (([(⟨a1_0, a1_1, a1_2, a1_3, a1_4, a1_5⟩ : S27)] : List (S27)) : List (S27))).bind fun y130 => (if t127.length + y130.length < 2513169434916 then (some ((t127 ++ y130), 0)) else (none))))) = some (r1, r2) := by rw [if_pos rfl] at H; exact H
    clear H; have H := H1; clear H1
    by_cases c5 : (l0.length : Int) > 0
    · rw [if_pos c5] at H
      have c5b0 : decide (0 < (l0.length : Int)) = true := decide_eq_true c5; have c5b1 : decide (0 < l0.length) = true := decide_eq_true (by omega); clear c5; obtain ⟨ji6, hji6⟩ : ∃ j_ : Int, (wrap64 ((l0.length : Int) - 1)) = j_ := ⟨_, rfl⟩
      replace H : (if 0 ≤ (ji6) then (if (ji6) < (l0.length : Int) then (if ((rd_T27 l0 (ji6)).f0) ≥ a1_0 then (some (([] : List (S27)), 131)) else ((api_Effect_32.f l0).bind fun t118 => ((some (([(⟨a1_0, a1_1, a1_2, a1_3, a1_4, a1_5⟩ : S27)] : List (S27)) : List (S27))).bind fun y121 => (if t118.length + y121.length < 2513169434916 then (some ((t118 ++ y121), 0)) else (none))))) else (none)) else (none)) = some (r1, r2) := by first | (rw [hji6] at H; exact H) | (simp only [hji6] at H ⊢; exact H)
      (try rw [hji6] at A3)
      have hji6w : (IntKind.i64.wrap ((l0.length : Int) - 1)) = ji6 := (i64_w _).trans hji6
      by_cases c7 : 0 ≤ (ji6)
      · rw [if_pos c7] at H
        have c7b0 : decide (0 ≤ (ji6)) = true := decide_eq_true c7; clear c7
        by_cases c8 : (ji6) < (l0.length : Int)
        · rw [if_pos c8] at H
          have c8b0 : decide ((ji6) < (l0.length : Int)) = true := decide_eq_true c8; clear c8
          by_cases c9 : ((rd_T27 l0 (ji6)).f0) ≥ a1_0
          · rw [if_pos c9] at H
            have c9b0 : decide (a1_0 ≤ ((rd_T27 l0 (ji6)).f0)) = true := decide_eq_true c9; clear c9; simp only [Option.some.injEq, Prod.mk.injEq] at H; obtain ⟨rfl, rfl⟩ := H
            go_enter Tryd.func9, Tryd.ntmps9
            try go_wp2_with (first | ((with_reducible refine gate_dst (N := 3) rfl ?_); (try (refine gate_guard (by rfl) ?_; dsimp only)); refine box_event ?hg (N := 3) ?hd (cs := #[.int .i64 a1_0, .int .i64 a1_1, .int .i64 a1_2, .int .i64 a1_3, .int .i64 a1_4, .string a1_5]) (t := 27) ?hr ?_; (case hd => rfl); (case hg => rfl); (case hr => first | (go_simp; done) | (go_simp; rfl)); intro gb115 hg w10 hbox hb; have _ := am (below_step (beu HB.out) hb); have _ := am (hbox); have _ := am ((by rw [hg]; exact (below_size (beu HB.out)) : w.heap.size ≤ gb115)); have _ := am ((by rw [hg]; exact (below_size (beu HB.out)) : w.heap.size ≤ gb115)); clear HB; rename_i HB BK115 GW115 GE115; clear hb hbox hg))
            (try (rw [drewN_self w10]; generalize hq_ : World.drewN w10 _ = w10; have _ := am (blk_at hq_ BK115.out); have _ := am (below_at hq_ HB.out); clear hq_ BK115 HB; rename_i BK115 HB))
            have n0_ := am (blk_drew BK115.out); have n1_ := am (below_drew1 HB.out); clear BK115 HB; have BK115 := n0_; have HB := n1_; clear n0_ n1_; have p117 : 0 ≤ ((ji6) : Int) := of_decide_eq_true ap2; have q117 : (ji6) < (l0.length : Int) := of_decide_eq_true ap2; obtain ⟨ad117, e117, hx117_0, hx117_1, hx117_2, hx117_3, hx117_4, hx117_5⟩ := at_T27 HR0.out (ji6) p117 q117; have hw117_5 := hx117_5; have hw117_4 := hx117_4; have hw117_3 := hx117_3; have hw117_2 := hx117_2; have hw117_1 := hx117_1; have hw117_0 := hx117_0
            cases e117
            replace hx117_0 := (HB.out.cell (World.block_lt_of_cell? w _ hx117_0)).trans hx117_0; replace hx117_1 := (HB.out.cell (World.block_lt_of_cell? w _ hx117_1)).trans hx117_1; replace hx117_2 := (HB.out.cell (World.block_lt_of_cell? w _ hx117_2)).trans hx117_2; replace hx117_3 := (HB.out.cell (World.block_lt_of_cell? w _ hx117_3)).trans hx117_3; replace hx117_4 := (HB.out.cell (World.block_lt_of_cell? w _ hx117_4)).trans hx117_4; replace hx117_5 := (HB.out.cell (World.block_lt_of_cell? w _ hx117_5)).trans hx117_5; replace p117 := eq_true p117; replace q117 := eq_true q117
            refine start_ (n := 20) (S := fun w' => w'.cell? ⟨gb115, 0, none⟩ = some (.int .i64 a1_0) ∧ w'.cell? ⟨gb115, 1, none⟩ = some (.int .i64 a1_1) ∧ w'.cell? ⟨gb115, 2, none⟩ = some (.int .i64 a1_2) ∧ w'.cell? ⟨gb115, 3, none⟩ = some (.int .i64 a1_3) ∧ w'.cell? ⟨gb115, 4, none⟩ = some (.int .i64 a1_4) ∧ w'.cell? ⟨gb115, 5, none⟩ = some (.string a1_5) ∧ w'.cell? (ad117.add (((ji6)).toNat * 6)) = some (.int .i64 ((rd_T27 l0 (ji6)).f0)) ∧ w'.cell? ⟨(ad117.add (((ji6)).toNat * 6)).block, (ad117.add (((ji6)).toNat * 6)).off + 1, none⟩ = some (.int .i64 ((rd_T27 l0 (ji6)).f1)) ∧ w'.cell? ⟨(ad117.add (((ji6)).toNat * 6)).block, (ad117.add (((ji6)).toNat * 6)).off + 2, none⟩ = some (.int .i64 ((rd_T27 l0 (ji6)).f2)) ∧ w'.cell? ⟨(ad117.add (((ji6)).toNat * 6)).block, (ad117.add (((ji6)).toNat * 6)).off + 3, none⟩ = some (.int .i64 ((rd_T27 l0 (ji6)).f3)) ∧ w'.cell? ⟨(ad117.add (((ji6)).toNat * 6)).block, (ad117.add (((ji6)).toNat * 6)).off + 4, none⟩ = some (.int .i64 ((rd_T27 l0 (ji6)).f4)) ∧ w'.cell? ⟨(ad117.add (((ji6)).toNat * 6)).block, (ad117.add (((ji6)).toNat * 6)).off + 5, none⟩ = some (.string ((rd_T27 l0 (ji6)).f5))) (ds := []) #[false, false, false, false, false, false, false, false, false, false, false, false, false, false, false, false, false, false, false, false] (by kernel_rfl) rfl rfl ⟨(blk_cell BK115.out 0).trans rfl, (blk_cell BK115.out 1).trans rfl, (blk_cell BK115.out 2).trans rfl, (blk_cell BK115.out 3).trans rfl, (blk_cell BK115.out 4).trans rfl, (blk_cell BK115.out 5).trans rfl, ((HB.out.cell (World.block_lt_of_cell? w _ hw117_0)).trans hw117_0), ((HB.out.cell (World.block_lt_of_cell? w _ hw117_1)).trans hw117_1), ((HB.out.cell (World.block_lt_of_cell? w _ hw117_2)).trans hw117_2), ((HB.out.cell (World.block_lt_of_cell? w _ hw117_3)).trans hw117_3), ((HB.out.cell (World.block_lt_of_cell? w _ hw117_4)).trans hw117_4), ((HB.out.cell (World.block_lt_of_cell? w _ hw117_5)).trans hw117_5)⟩ (fun hHeld => ?_); refine with_tabW outbox_Add.tab1 outbox_Add.bits1 (fun HT_ HW_ => ?_)
            generalize w10.drew = w11 at BK115 HB hx117_0 hx117_1 hx117_2 hx117_3 hx117_4 hx117_5 hHeld ⊢; refine take_ (i := 0) (N := some 6) (v := ?_) (a' := ?_) (bs 20 1) rfl rfl (take_ofW HT_.out HW_.out (by kernel_rfl)) (fun _ _ _ h => h) (Or.inl ⟨by rfl, ?_⟩) hHeld ?_ ?_; rotate_left
            · rintro w' ⟨s0, s1, s2, s3, s4, s5, s6, s7, s8, s9, s10, s11⟩
              go_simp
              with_reducible rfl
            rotate_left
            · simp only [Act.put, sA, sB, sC, i64_w, i32_w]
              rfl
            refine one_ (i := 1) (N := some 7) (bs 20 3) rfl rfl (one_of HT_.out (by kernel_rfl)) (by decide) (fun K hK => ?_); refine goes_ Tryd.func31 (by kernel_rfl) rfl #[.agg #[.int .i64 a1_0, .int .i64 a1_1, .int .i64 a1_2, .int .i64 a1_3, .int .i64 a1_4, .string a1_5]] (by rfl) rfl rfl ap1 ?_; with_reducible refine (outbox_one.calls k a1_0 a1_1 a1_2 a1_3 a1_4 a1_5 true _ ?side1 A3.out).mono ?_
            (case side1 => first | (with_reducible exact HT.out) | exact Tabs.below HT.out (beu HB.out))
            rintro e w12 ⟨rfl, hb⟩; refine ⟨_, rfl, ?_⟩; have n0_ := am (blk_below (bu BK115.out) hb); have n1_ := am (below_step (beu HB.out) hb); clear BK115 HB; have BK115 := n0_; have HB := n1_; clear n0_ n1_
            (try clear hb)
            (try clear hb2)
            (try clear hk)
            (try clear hi)
            refine hK.out _ _ ⟨(blk_cell BK115.out 0).trans rfl, (blk_cell BK115.out 1).trans rfl, (blk_cell BK115.out 2).trans rfl, (blk_cell BK115.out 3).trans rfl, (blk_cell BK115.out 4).trans rfl, (blk_cell BK115.out 5).trans rfl, ((HB.out.cell (World.block_lt_of_cell? w _ hw117_0)).trans hw117_0), ((HB.out.cell (World.block_lt_of_cell? w _ hw117_1)).trans hw117_1), ((HB.out.cell (World.block_lt_of_cell? w _ hw117_2)).trans hw117_2), ((HB.out.cell (World.block_lt_of_cell? w _ hw117_3)).trans hw117_3), ((HB.out.cell (World.block_lt_of_cell? w _ hw117_4)).trans hw117_4), ((HB.out.cell (World.block_lt_of_cell? w _ hw117_5)).trans hw117_5)⟩ (fun hHeld => ?_); clear hK K; refine norm_ (a' := ?_) ?_ ?_; rotate_left
            · show Act.put _ (some 7) _ = _
              simp only [Act.put, sA, sB, sC, i64_w, i32_w]
              rfl
            refine pure_ (i := 2) (N := some 8) (v := ?_) (a' := ?_) (bs 20 7) rfl rfl (ak HT_.out) (fun _ _ _ h => h) (Or.inl ⟨by rfl, ?_⟩) ?_ ?_; rotate_left
            · intro w'
              go_simp
              with_reducible rfl
            rotate_left
            · simp only [Act.put, sA, sB, sC, i64_w, i32_w]
              rfl
            refine pure_ (i := 3) (N := some 9) (v := ?_) (a' := ?_) (bs 20 15) rfl rfl (ak HT_.out) (fun _ _ _ h => h) (Or.inl ⟨by rfl, ?_⟩) ?_ ?_; rotate_left
            · intro w'
              go_simp
              with_reducible rfl
            rotate_left
            · simp only [Act.put, sA, sB, sC, i64_w, i32_w]
              rfl
            refine pure_ (i := 4) (N := some 10) (v := ?_) (a' := ?_) (bs 20 31) rfl rfl (ak HT_.out) (fun _ _ _ h => h) (Or.inl ⟨by rfl, ?_⟩) ?_ ?_; rotate_left
            · intro w'
              go_simp
              with_reducible rfl
            rotate_left
            · simp only [Act.put, sA, sB, sC, i64_w, i32_w]
              rfl
            refine pure_ (i := 5) (N := some 11) (v := ?_) (a' := ?_) (bs 20 63) rfl rfl (ak HT_.out) (fun _ _ _ h => h) (Or.inl ⟨by rfl, ?_⟩) ?_ ?_; rotate_left
            · intro w'
              go_simp
              with_reducible rfl
            rotate_left
            · simp only [Act.put, sA, sB, sC, i64_w, i32_w]
              rfl
            refine pure_ (i := 6) (N := some 12) (v := ?_) (a' := ?_) (bs 20 127) rfl rfl (ak HT_.out) (fun _ _ _ h => h) (Or.inl ⟨by rfl, ?_⟩) ?_ ?_; rotate_left
            · intro w'
              go_simp
              with_reducible rfl
            rotate_left
            · simp only [Act.put, sA, sB, sC, i64_w, i32_w]
              rfl
            refine pure_ (i := 7) (N := some 13) (v := ?_) (a' := ?_) (bs 20 255) rfl rfl (ak HT_.out) (fun _ _ _ h => h) (Or.inl ⟨by rfl, ?_⟩) ?_ ?_; rotate_left
            · intro w'
              go_simp
              with_reducible rfl
            rotate_left
            · simp only [Act.put, sA, sB, sC, i64_w, i32_w]
              rfl
            refine pure_ (i := 8) (N := some 14) (v := ?_) (a' := ?_) (bs 20 511) rfl rfl (ak HT_.out) (fun _ _ _ h => h) (Or.inl ⟨by rfl, ?_⟩) ?_ ?_; rotate_left
            · intro w'
              go_simp
              with_reducible rfl
            rotate_left
            · simp only [Act.put, sA, sB, sC, i64_w, i32_w]
              rfl
            refine pure_ (i := 9) (N := some 15) (v := ?_) (a' := ?_) (bs 20 1023) rfl rfl (ak HT_.out) (fun _ _ _ h => h) (Or.inl ⟨by rfl, ?_⟩) ?_ ?_; rotate_left
            · intro w'
              go_simp
              with_reducible rfl
            rotate_left
            · simp only [Act.put, sA, sB, sC, i64_w, i32_w]
              rfl
            refine pure_ (i := 10) (N := some 16) (v := ?_) (a' := ?_) (bs 20 2047) rfl rfl (ak HT_.out) (fun _ _ _ h => h) (Or.inl ⟨by rfl, ?_⟩) ?_ ?_; rotate_left
            · intro w'
              go_simp
              with_reducible rfl
            rotate_left
            · simp only [Act.put, sA, sB, sC, i64_w, i32_w]
              rfl
            refine pure_ (i := 11) (N := some 17) (v := ?_) (a' := ?_) (bs 20 4095) rfl rfl (ak HT_.out) (fun _ _ _ h => h) (Or.inl ⟨by rfl, ?_⟩) ?_ ?_; rotate_left
            · intro w'
              go_simp
              with_reducible rfl
            rotate_left
            · simp only [Act.put, sA, sB, sC, i64_w, i32_w]
              rfl
            refine pure_ (i := 12) (N := some 18) (v := ?_) (a' := ?_) (bs 20 8191) rfl rfl (ak HT_.out) (fun _ _ _ h => h) (Or.inl ⟨by rfl, ?_⟩) ?_ ?_; rotate_left
            · intro w'
              go_simp
              with_reducible rfl
            rotate_left
            · simp only [Act.put, sA, sB, sC, i64_w, i32_w]
              rfl
            refine pure_ (i := 13) (N := some 19) (v := ?_) (a' := ?_) (bs 20 16383) rfl rfl (ak HT_.out) (fun _ _ _ h => h) (Or.inl ⟨by rfl, ?_⟩) ?_ ?_; rotate_left
            · intro w'
              go_simp
              with_reducible rfl
            rotate_left
            · simp only [Act.put, sA, sB, sC, i64_w, i32_w]
              rfl
            refine pure_ (i := 15) (N := some 21) (v := ?_) (a' := ?_) (bs 20 49151) rfl rfl (ak HT_.out) (fun _ _ _ h => h) (Or.inl ⟨by rfl, ?_⟩) ?_ ?_; rotate_left
            · intro w'
              go_simp
              with_reducible rfl
            rotate_left
            · simp only [Act.put, sA, sB, sC, i64_w, i32_w]
              rfl
            refine take_ (i := 14) (N := some 20) (v := ?_) (a' := ?_) (bs 20 65535) rfl rfl (take_ofW HT_.out HW_.out (by kernel_rfl)) (fun _ _ _ h => h) (Or.inl ⟨by rfl, ?_⟩) hHeld ?_ ?_; rotate_left
            · rintro w' ⟨s0, s1, s2, s3, s4, s5, s6, s7, s8, s9, s10, s11⟩
              go_simp
              with_reducible rfl
            rotate_left
            · simp only [Act.put, sA, sB, sC, i64_w, i32_w]
              rfl
            refine take_ (i := 16) (N := some 22) (v := ?_) (a' := ?_) (bs 20 131071) rfl rfl (take_ofW HT_.out HW_.out (by kernel_rfl)) (fun _ _ _ h => h) (Or.inl ⟨by rfl, ?_⟩) hHeld ?_ ?_; rotate_left
            · rintro w' ⟨s0, s1, s2, s3, s4, s5, s6, s7, s8, s9, s10, s11⟩
              go_simp
              with_reducible rfl
            rotate_left
            · simp only [Act.put, sA, sB, sC, i64_w, i32_w]
              rfl
            refine pure_ (i := 17) (N := some 23) (v := ?_) (a' := ?_) (bs 20 262143) rfl rfl (ak HT_.out) (fun _ _ _ h => h) (Or.inl ⟨by rfl, ?_⟩) ?_ ?_; rotate_left
            · intro w'
              go_simp
              with_reducible rfl
            rotate_left
            · simp only [Act.put, sA, sB, sC, i64_w, i32_w]
              rfl
            refine pure_ (i := 18) (N := some 24) (v := ?_) (a' := ?_) (bs 20 524287) rfl rfl (ak HT_.out) (fun _ _ _ h => h) (Or.inl ⟨by rfl, ?_⟩) ?_ ?_; rotate_left
            · intro w'
              go_simp
              with_reducible rfl
            rotate_left
            · simp only [Act.put, sA, sB, sC, i64_w, i32_w]
              rfl
            refine pure_ (i := 19) (N := some 25) (v := ?_) (a' := ?_) (bs 20 1048575) rfl rfl (ak HT_.out) (fun _ _ _ h => h) (Or.inl ⟨by rfl, ?_⟩) ?_ ?_; rotate_left
            · intro w'
              go_simp
              with_reducible rfl
            rotate_left
            · simp only [Act.put, sA, sB, sC, i64_w, i32_w]
              rfl
            refine done_ (done_of HT_.out (by kernel_rfl)) ?_
            try go_wp2
            go_ret2
            exact ⟨_, by first | rfl | (simp [errW_none, errW_some] <;> rfl) | (simp only [← hji6]; first | rfl | (simp [errW_none, errW_some] <;> rfl)) | (simp [*, errW_none, errW_some] <;> rfl), by first | exact Kd.R_nil _ _ _ _ _ | exact Kd.N_nil _ _ _ _ _ | exact Kd.V_nil _ _ _ _ _ | exact Kd.Q_nil _ _ _ _ _ | exact Kd.S_nil _ _ _ _ _, beu HB.out⟩
          · rw [if_neg c9] at H
            have c9b0 : decide (a1_0 ≤ ((rd_T27 l0 (ji6)).f0)) = false := decide_eq_false c9; clear c9; replace H := obm H; obtain ⟨t118, A130, H⟩ := H; replace H : ((some (([(⟨a1_0, a1_1, a1_2, a1_3, a1_4, a1_5⟩ : S27)] : List (S27)) : List (S27))).bind fun y121 => (if t118.length + y121.length < 2513169434916 then (some ((t118 ++ y121), 0)) else (none))) = some (r1, r2) := H; have A13 := am A130; clear A130; obtain ⟨y121, hy121⟩ : ∃ y_ : List (S27), y_ = (([(⟨a1_0, a1_1, a1_2, a1_3, a1_4, a1_5⟩ : S27)] : List (S27))) := ⟨_, rfl⟩
            replace H : (if t118.length + y121.length < 2513169434916 then (some ((t118 ++ y121), 0)) else (none)) = some (r1, r2) := by first | (rw [hy121]; with_reducible exact H) | (have H2_ := (Option.bind_some _ _).symm.trans H; rw [hy121]; with_reducible exact H2_) | (have H2_ := (Option.bind_some _ _).symm.trans H; with_reducible exact H2_) | with_reducible exact H | (rw [hy121]; exact H) | exact H
            have Ny121 := am hy121; clear hy121
            by_cases c14 : t118.length + y121.length < 2513169434916
            · rw [if_pos c14] at H
              have LMc14 := am c14; clear c14; obtain ⟨y124, hy124⟩ : ∃ y_ : List (S27), y_ = (t118 ++ y121) := ⟨_, rfl⟩
              replace H : (some (y124, 0)) = some (r1, r2) := by first | (rw [hy124]; with_reducible exact H) | (have H2_ := (Option.bind_some _ _).symm.trans H; rw [hy124]; with_reducible exact H2_) | (have H2_ := (Option.bind_some _ _).symm.trans H; with_reducible exact H2_) | with_reducible exact H | (rw [hy124]; exact H) | exact H
              have Ny124 := am hy124; clear hy124; simp only [Option.some.injEq, Prod.mk.injEq] at H; obtain ⟨rfl, rfl⟩ := H
              go_enter Tryd.func9, Tryd.ntmps9
              try go_wp2_with (first | ((with_reducible refine gate_dst (N := 3) rfl ?_); (try (refine gate_guard (by rfl) ?_; dsimp only)); refine box_event ?hg (N := 3) ?hd (cs := #[.int .i64 a1_0, .int .i64 a1_1, .int .i64 a1_2, .int .i64 a1_3, .int .i64 a1_4, .string a1_5]) (t := 27) ?hr ?_; (case hd => rfl); (case hg => rfl); (case hr => first | (go_simp; done) | (go_simp; rfl)); intro gb115 hg w15 hbox hb; have _ := am (below_step (beu HB.out) hb); have _ := am (hbox); have _ := am ((by rw [hg]; exact (below_size (beu HB.out)) : w.heap.size ≤ gb115)); have _ := am ((by rw [hg]; exact (below_size (beu HB.out)) : w.heap.size ≤ gb115)); clear HB; rename_i HB BK115 GW115 GE115; clear hb hbox hg))
              (try (rw [drewN_self w15]; generalize hq_ : World.drewN w15 _ = w15; have _ := am (blk_at hq_ BK115.out); have _ := am (below_at hq_ HB.out); clear hq_ BK115 HB; rename_i BK115 HB))
              have n0_ := am (blk_drew BK115.out); have n1_ := am (below_drew1 HB.out); clear BK115 HB; have BK115 := n0_; have HB := n1_; clear n0_ n1_; have p117 : 0 ≤ ((ji6) : Int) := of_decide_eq_true ap2; have q117 : (ji6) < (l0.length : Int) := of_decide_eq_true ap2; obtain ⟨ad117, e117, hx117_0, hx117_1, hx117_2, hx117_3, hx117_4, hx117_5⟩ := at_T27 HR0.out (ji6) p117 q117; have hw117_5 := hx117_5; have hw117_4 := hx117_4; have hw117_3 := hx117_3; have hw117_2 := hx117_2; have hw117_1 := hx117_1; have hw117_0 := hx117_0
              cases e117
              replace hx117_0 := (HB.out.cell (World.block_lt_of_cell? w _ hx117_0)).trans hx117_0; replace hx117_1 := (HB.out.cell (World.block_lt_of_cell? w _ hx117_1)).trans hx117_1; replace hx117_2 := (HB.out.cell (World.block_lt_of_cell? w _ hx117_2)).trans hx117_2; replace hx117_3 := (HB.out.cell (World.block_lt_of_cell? w _ hx117_3)).trans hx117_3; replace hx117_4 := (HB.out.cell (World.block_lt_of_cell? w _ hx117_4)).trans hx117_4; replace hx117_5 := (HB.out.cell (World.block_lt_of_cell? w _ hx117_5)).trans hx117_5; replace p117 := eq_true p117; replace q117 := eq_true q117
              refine start_ (n := 20) (S := fun w' => w'.cell? ⟨gb115, 0, none⟩ = some (.int .i64 a1_0) ∧ w'.cell? ⟨gb115, 1, none⟩ = some (.int .i64 a1_1) ∧ w'.cell? ⟨gb115, 2, none⟩ = some (.int .i64 a1_2) ∧ w'.cell? ⟨gb115, 3, none⟩ = some (.int .i64 a1_3) ∧ w'.cell? ⟨gb115, 4, none⟩ = some (.int .i64 a1_4) ∧ w'.cell? ⟨gb115, 5, none⟩ = some (.string a1_5) ∧ w'.cell? (ad117.add (((ji6)).toNat * 6)) = some (.int .i64 ((rd_T27 l0 (ji6)).f0)) ∧ w'.cell? ⟨(ad117.add (((ji6)).toNat * 6)).block, (ad117.add (((ji6)).toNat * 6)).off + 1, none⟩ = some (.int .i64 ((rd_T27 l0 (ji6)).f1)) ∧ w'.cell? ⟨(ad117.add (((ji6)).toNat * 6)).block, (ad117.add (((ji6)).toNat * 6)).off + 2, none⟩ = some (.int .i64 ((rd_T27 l0 (ji6)).f2)) ∧ w'.cell? ⟨(ad117.add (((ji6)).toNat * 6)).block, (ad117.add (((ji6)).toNat * 6)).off + 3, none⟩ = some (.int .i64 ((rd_T27 l0 (ji6)).f3)) ∧ w'.cell? ⟨(ad117.add (((ji6)).toNat * 6)).block, (ad117.add (((ji6)).toNat * 6)).off + 4, none⟩ = some (.int .i64 ((rd_T27 l0 (ji6)).f4)) ∧ w'.cell? ⟨(ad117.add (((ji6)).toNat * 6)).block, (ad117.add (((ji6)).toNat * 6)).off + 5, none⟩ = some (.string ((rd_T27 l0 (ji6)).f5))) (ds := []) #[false, false, false, false, false, false, false, false, false, false, false, false, false, false, false, false, false, false, false, false] (by kernel_rfl) rfl rfl ⟨(blk_cell BK115.out 0).trans rfl, (blk_cell BK115.out 1).trans rfl, (blk_cell BK115.out 2).trans rfl, (blk_cell BK115.out 3).trans rfl, (blk_cell BK115.out 4).trans rfl, (blk_cell BK115.out 5).trans rfl, ((HB.out.cell (World.block_lt_of_cell? w _ hw117_0)).trans hw117_0), ((HB.out.cell (World.block_lt_of_cell? w _ hw117_1)).trans hw117_1), ((HB.out.cell (World.block_lt_of_cell? w _ hw117_2)).trans hw117_2), ((HB.out.cell (World.block_lt_of_cell? w _ hw117_3)).trans hw117_3), ((HB.out.cell (World.block_lt_of_cell? w _ hw117_4)).trans hw117_4), ((HB.out.cell (World.block_lt_of_cell? w _ hw117_5)).trans hw117_5)⟩ (fun hHeld => ?_); refine with_tabW outbox_Add.tab1 outbox_Add.bits1 (fun HT_ HW_ => ?_)
              generalize w15.drew = w16 at BK115 HB hx117_0 hx117_1 hx117_2 hx117_3 hx117_4 hx117_5 hHeld ⊢; refine take_ (i := 0) (N := some 6) (v := ?_) (a' := ?_) (bs 20 1) rfl rfl (take_ofW HT_.out HW_.out (by kernel_rfl)) (fun _ _ _ h => h) (Or.inl ⟨by rfl, ?_⟩) hHeld ?_ ?_; rotate_left
              · rintro w' ⟨s0, s1, s2, s3, s4, s5, s6, s7, s8, s9, s10, s11⟩
                go_simp
                with_reducible rfl
              rotate_left
              · simp only [Act.put, sA, sB, sC, i64_w, i32_w]
                rfl
              refine one_ (i := 1) (N := some 7) (bs 20 3) rfl rfl (one_of HT_.out (by kernel_rfl)) (by decide) (fun K hK => ?_); refine goes_ Tryd.func31 (by kernel_rfl) rfl #[.agg #[.int .i64 a1_0, .int .i64 a1_1, .int .i64 a1_2, .int .i64 a1_3, .int .i64 a1_4, .string a1_5]] (by rfl) rfl rfl ap1 ?_; with_reducible refine (outbox_one.calls k a1_0 a1_1 a1_2 a1_3 a1_4 a1_5 true _ ?side1 A3.out).mono ?_
              (case side1 => first | (with_reducible exact HT.out) | exact Tabs.below HT.out (beu HB.out))
              rintro e w17 ⟨rfl, hb⟩; refine ⟨_, rfl, ?_⟩; have n0_ := am (blk_below (bu BK115.out) hb); have n1_ := am (below_step (beu HB.out) hb); clear BK115 HB; have BK115 := n0_; have HB := n1_; clear n0_ n1_
              (try clear hb)
              (try clear hb2)
              (try clear hk)
              (try clear hi)
              refine hK.out _ _ ⟨(blk_cell BK115.out 0).trans rfl, (blk_cell BK115.out 1).trans rfl, (blk_cell BK115.out 2).trans rfl, (blk_cell BK115.out 3).trans rfl, (blk_cell BK115.out 4).trans rfl, (blk_cell BK115.out 5).trans rfl, ((HB.out.cell (World.block_lt_of_cell? w _ hw117_0)).trans hw117_0), ((HB.out.cell (World.block_lt_of_cell? w _ hw117_1)).trans hw117_1), ((HB.out.cell (World.block_lt_of_cell? w _ hw117_2)).trans hw117_2), ((HB.out.cell (World.block_lt_of_cell? w _ hw117_3)).trans hw117_3), ((HB.out.cell (World.block_lt_of_cell? w _ hw117_4)).trans hw117_4), ((HB.out.cell (World.block_lt_of_cell? w _ hw117_5)).trans hw117_5)⟩ (fun hHeld => ?_); clear hK K; refine norm_ (a' := ?_) ?_ ?_; rotate_left
              · show Act.put _ (some 7) _ = _
                simp only [Act.put, sA, sB, sC, i64_w, i32_w]
                rfl
              refine pure_ (i := 2) (N := some 8) (v := ?_) (a' := ?_) (bs 20 7) rfl rfl (ak HT_.out) (fun _ _ _ h => h) (Or.inl ⟨by rfl, ?_⟩) ?_ ?_; rotate_left
              · intro w'
                go_simp
                with_reducible rfl
              rotate_left
              · simp only [Act.put, sA, sB, sC, i64_w, i32_w]
                rfl
              refine pure_ (i := 3) (N := some 9) (v := ?_) (a' := ?_) (bs 20 15) rfl rfl (ak HT_.out) (fun _ _ _ h => h) (Or.inl ⟨by rfl, ?_⟩) ?_ ?_; rotate_left
              · intro w'
                go_simp
                with_reducible rfl
              rotate_left
              · simp only [Act.put, sA, sB, sC, i64_w, i32_w]
                rfl
              refine pure_ (i := 4) (N := some 10) (v := ?_) (a' := ?_) (bs 20 31) rfl rfl (ak HT_.out) (fun _ _ _ h => h) (Or.inl ⟨by rfl, ?_⟩) ?_ ?_; rotate_left
              · intro w'
                go_simp
                with_reducible rfl
              rotate_left
              · simp only [Act.put, sA, sB, sC, i64_w, i32_w]
                rfl
              refine pure_ (i := 5) (N := some 11) (v := ?_) (a' := ?_) (bs 20 63) rfl rfl (ak HT_.out) (fun _ _ _ h => h) (Or.inl ⟨by rfl, ?_⟩) ?_ ?_; rotate_left
              · intro w'
                go_simp
                with_reducible rfl
              rotate_left
              · simp only [Act.put, sA, sB, sC, i64_w, i32_w]
                rfl
              refine pure_ (i := 6) (N := some 12) (v := ?_) (a' := ?_) (bs 20 127) rfl rfl (ak HT_.out) (fun _ _ _ h => h) (Or.inl ⟨by rfl, ?_⟩) ?_ ?_; rotate_left
              · intro w'
                go_simp
                with_reducible rfl
              rotate_left
              · simp only [Act.put, sA, sB, sC, i64_w, i32_w]
                rfl
              refine pure_ (i := 7) (N := some 13) (v := ?_) (a' := ?_) (bs 20 255) rfl rfl (ak HT_.out) (fun _ _ _ h => h) (Or.inl ⟨by rfl, ?_⟩) ?_ ?_; rotate_left
              · intro w'
                go_simp
                with_reducible rfl
              rotate_left
              · simp only [Act.put, sA, sB, sC, i64_w, i32_w]
                rfl
              refine pure_ (i := 8) (N := some 14) (v := ?_) (a' := ?_) (bs 20 511) rfl rfl (ak HT_.out) (fun _ _ _ h => h) (Or.inl ⟨by rfl, ?_⟩) ?_ ?_; rotate_left
              · intro w'
                go_simp
                with_reducible rfl
              rotate_left
              · simp only [Act.put, sA, sB, sC, i64_w, i32_w]
                rfl
              refine pure_ (i := 9) (N := some 15) (v := ?_) (a' := ?_) (bs 20 1023) rfl rfl (ak HT_.out) (fun _ _ _ h => h) (Or.inl ⟨by rfl, ?_⟩) ?_ ?_; rotate_left
              · intro w'
                go_simp
                with_reducible rfl
              rotate_left
              · simp only [Act.put, sA, sB, sC, i64_w, i32_w]
                rfl
              refine pure_ (i := 10) (N := some 16) (v := ?_) (a' := ?_) (bs 20 2047) rfl rfl (ak HT_.out) (fun _ _ _ h => h) (Or.inl ⟨by rfl, ?_⟩) ?_ ?_; rotate_left
              · intro w'
                go_simp
                with_reducible rfl
              rotate_left
              · simp only [Act.put, sA, sB, sC, i64_w, i32_w]
                rfl
              refine pure_ (i := 11) (N := some 17) (v := ?_) (a' := ?_) (bs 20 4095) rfl rfl (ak HT_.out) (fun _ _ _ h => h) (Or.inl ⟨by rfl, ?_⟩) ?_ ?_; rotate_left
              · intro w'
                go_simp
                with_reducible rfl
              rotate_left
              · simp only [Act.put, sA, sB, sC, i64_w, i32_w]
                rfl
              refine pure_ (i := 12) (N := some 18) (v := ?_) (a' := ?_) (bs 20 8191) rfl rfl (ak HT_.out) (fun _ _ _ h => h) (Or.inl ⟨by rfl, ?_⟩) ?_ ?_; rotate_left
              · intro w'
                go_simp
                with_reducible rfl
              rotate_left
              · simp only [Act.put, sA, sB, sC, i64_w, i32_w]
                rfl
              refine pure_ (i := 13) (N := some 19) (v := ?_) (a' := ?_) (bs 20 16383) rfl rfl (ak HT_.out) (fun _ _ _ h => h) (Or.inl ⟨by rfl, ?_⟩) ?_ ?_; rotate_left
              · intro w'
                go_simp
                with_reducible rfl
              rotate_left
              · simp only [Act.put, sA, sB, sC, i64_w, i32_w]
                rfl
              refine pure_ (i := 15) (N := some 21) (v := ?_) (a' := ?_) (bs 20 49151) rfl rfl (ak HT_.out) (fun _ _ _ h => h) (Or.inl ⟨by rfl, ?_⟩) ?_ ?_; rotate_left
              · intro w'
                go_simp
                with_reducible rfl
              rotate_left
              · simp only [Act.put, sA, sB, sC, i64_w, i32_w]
                rfl
              refine take_ (i := 14) (N := some 20) (v := ?_) (a' := ?_) (bs 20 65535) rfl rfl (take_ofW HT_.out HW_.out (by kernel_rfl)) (fun _ _ _ h => h) (Or.inl ⟨by rfl, ?_⟩) hHeld ?_ ?_; rotate_left
              · rintro w' ⟨s0, s1, s2, s3, s4, s5, s6, s7, s8, s9, s10, s11⟩
                go_simp
                with_reducible rfl
              rotate_left
              · simp only [Act.put, sA, sB, sC, i64_w, i32_w]
                rfl
              refine take_ (i := 16) (N := some 22) (v := ?_) (a' := ?_) (bs 20 131071) rfl rfl (take_ofW HT_.out HW_.out (by kernel_rfl)) (fun _ _ _ h => h) (Or.inl ⟨by rfl, ?_⟩) hHeld ?_ ?_; rotate_left
              · rintro w' ⟨s0, s1, s2, s3, s4, s5, s6, s7, s8, s9, s10, s11⟩
                go_simp
                with_reducible rfl
              rotate_left
              · simp only [Act.put, sA, sB, sC, i64_w, i32_w]
                rfl
              refine pure_ (i := 17) (N := some 23) (v := ?_) (a' := ?_) (bs 20 262143) rfl rfl (ak HT_.out) (fun _ _ _ h => h) (Or.inl ⟨by rfl, ?_⟩) ?_ ?_; rotate_left
              · intro w'
                go_simp
                with_reducible rfl
              rotate_left
              · simp only [Act.put, sA, sB, sC, i64_w, i32_w]
                rfl
              refine pure_ (i := 18) (N := some 24) (v := ?_) (a' := ?_) (bs 20 524287) rfl rfl (ak HT_.out) (fun _ _ _ h => h) (Or.inl ⟨by rfl, ?_⟩) ?_ ?_; rotate_left
              · intro w'
                go_simp
                with_reducible rfl
              rotate_left
              · simp only [Act.put, sA, sB, sC, i64_w, i32_w]
                rfl
              refine pure_ (i := 19) (N := some 25) (v := ?_) (a' := ?_) (bs 20 1048575) rfl rfl (ak HT_.out) (fun _ _ _ h => h) (Or.inl ⟨by rfl, ?_⟩) ?_ ?_; rotate_left
              · intro w'
                go_simp
                with_reducible rfl
              rotate_left
              · simp only [Act.put, sA, sB, sC, i64_w, i32_w]
                rfl
              refine done_ (done_of HT_.out (by kernel_rfl)) ?_
              try go_wp2
              (try (rw [drewN_self w17]; generalize hq_ : World.drewN w17 _ = w17; have _ := am (blk_at hq_ BK115.out); have _ := am (below_at hq_ HB.out); clear hq_ BK115 HB; rename_i BK115 HB))
              have n0_ := am (blk_drew BK115.out); have n1_ := am (below_drew1 HB.out); clear BK115 HB; have BK115 := n0_; have HB := n1_; clear n0_ n1_; refine start_ (n := 7) (S := fun w' => w'.cell? ⟨gb115, 0, none⟩ = some (.int .i64 a1_0) ∧ w'.cell? ⟨gb115, 1, none⟩ = some (.int .i64 a1_1) ∧ w'.cell? ⟨gb115, 2, none⟩ = some (.int .i64 a1_2) ∧ w'.cell? ⟨gb115, 3, none⟩ = some (.int .i64 a1_3) ∧ w'.cell? ⟨gb115, 4, none⟩ = some (.int .i64 a1_4) ∧ w'.cell? ⟨gb115, 5, none⟩ = some (.string a1_5)) (ds := []) #[false, false, false, false, false, false, false] (by kernel_rfl) rfl rfl ⟨(blk_cell BK115.out 0).trans rfl, (blk_cell BK115.out 1).trans rfl, (blk_cell BK115.out 2).trans rfl, (blk_cell BK115.out 3).trans rfl, (blk_cell BK115.out 4).trans rfl, (blk_cell BK115.out 5).trans rfl⟩ (fun hHeld => ?_); generalize w17.drew = w18 at BK115 HB hHeld ⊢; refine pure_ (i := 0) (N := some 26) (v := ?_) (a' := ?_) (bs 7 1) rfl rfl (by kernel_rfl) (fun _ _ _ h => h) (Or.inl ⟨by rfl, ?_⟩) ?_ ?_; rotate_left
              · intro w'
                go_simp
                with_reducible rfl
              rotate_left
              · simp only [Act.put, sA, sB, sC, i64_w, i32_w]
                rfl
              refine take_ (i := 2) (N := some 28) (v := ?_) (a' := ?_) (bs 7 5) rfl rfl (by kernel_rfl) (fun _ _ _ h => h) (Or.inl ⟨by rfl, ?_⟩) hHeld ?_ ?_; rotate_left
              · rintro w' ⟨s0, s1, s2, s3, s4, s5⟩
                go_simp
                with_reducible rfl
              rotate_left
              · simp only [Act.put, sA, sB, sC, i64_w, i32_w]
                rfl
              refine join_ (σ := Value × Value) 3 #[true, true, true, true, false, false, false] (fun s_ => [(27, s_.1), (29, s_.2)]) (fun s_ w' => (w'.cell? ⟨gb115, 0, none⟩ = some (.int .i64 a1_0) ∧ w'.cell? ⟨gb115, 1, none⟩ = some (.int .i64 a1_1) ∧ w'.cell? ⟨gb115, 2, none⟩ = some (.int .i64 a1_2) ∧ w'.cell? ⟨gb115, 3, none⟩ = some (.int .i64 a1_3) ∧ w'.cell? ⟨gb115, 4, none⟩ = some (.int .i64 a1_4) ∧ w'.cell? ⟨gb115, 5, none⟩ = some (.string a1_5)) ∧ (Kd.R k27 27 w' w.heap.size (fun k_ => some k_ ≠ (s_.2 : Value).ownBlock ∧ k_ ≠ gb115) s_.1 t118) ∧ (Kd.R k27 27 w' w.heap.size (fun k_ => some k_ ≠ (s_.1 : Value).ownBlock ∧ k_ ≠ gb115) s_.2 y121) ∧ (w'.heap[gb115]? = some (.cells #[.int .i64 a1_0, .int .i64 a1_1, .int .i64 a1_2, .int .i64 a1_3, .int .i64 a1_4, .string a1_5] 27 (0, 0))) ∧ (Below w.heap.size w w')) ?_ ?_; rotate_left
              · intro hCont
                refine two_ (i := 1) (j := 3) (Ni := some 27) (Nj := some 29) #[true, true, true, false, false, false, false] #[true, false, true, true, false, false, false] rfl rfl rfl rfl (by kernel_rfl) (by decide) (by decide) (fun K hK => ?_) (fun K hK => ?_)
                · skip
                  refine goes_ Tryd.func32 (by kernel_rfl) rfl #[.slice (some ad117) l0.length c0] (by rfl) rfl rfl ap1 ?_; with_reducible refine (api_Effect_32.calls _ _ l0 t118 _ ?side1 ?side2 A13.out).mono ?_
                  (case side1 => exact cu (Kd.C_below HR0.out HB.out))
                  (case side2 => exact HC0.out)
                  rintro e w19 ⟨v119, rfl, ho0, hb⟩; refine ⟨_, rfl, ?_⟩; have n0_ := am (Kd.R_lower (Kd.R_newB ho0 (bu BK115.out)) (below_size (beu HB.out))); have n1_ := am (blk_below (bu BK115.out) hb); have n2_ := am (below_step (beu HB.out) hb); clear BK115 HB; have HO120 := n0_; have BK115 := n1_; have HB := n2_; clear n0_ n1_ n2_
                  (try clear hb)
                  (try clear hb2)
                  (try clear hk)
                  (try clear hi)
                  (try clear ho0)
                  refine hK.out _ _ ⟨(blk_cell BK115.out 0).trans rfl, (blk_cell BK115.out 1).trans rfl, (blk_cell BK115.out 2).trans rfl, (blk_cell BK115.out 3).trans rfl, (blk_cell BK115.out 4).trans rfl, (blk_cell BK115.out 5).trans rfl⟩ (fun hHeld => ?_); clear hK K; refine norm_ (a' := ?_) ?_ ?_; rotate_left
                  · show Act.put _ (some 27) _ = _
                    simp only [Act.put, sA, sB, sC, i64_w, i32_w]
                    rfl
                  refine one_ (i := 3) (N := some 29) (bs 7 15) rfl rfl (by kernel_rfl) (by decide) (fun K hK => ?_)
                  refine Kd.R_lit_step k27 _ 27 ?hg (N := 29) ?hd (xs := ([(⟨a1_0, a1_1, a1_2, a1_3, a1_4, a1_5⟩ : S27)] : List (S27))) (inner := [.int .i64 a1_0, .int .i64 a1_1, .int .i64 a1_2, .int .i64 a1_3, .int .i64 a1_4, .string a1_5]) (ok := fun _ => True) (okp := fun _ => True) ?hr ?hp (fun _ hk => hk) trivial (Below.refl _ _) (Nat.le_refl _) (by simp) ?_; (case hd => rfl); (case hg => rfl); (case hr => first | (go_simp; done) | (go_simp; rfl)); (case hp => exact (Reps.c6 (show Kd.M k27 _ _ _ (⟨a1_0, a1_1, a1_2, a1_3, a1_4, a1_5⟩ : S27) [.int .i64 a1_0, .int .i64 a1_1, .int .i64 a1_2, .int .i64 a1_3, .int .i64 a1_4, .string a1_5] from (k27_mkM _ _ _ (⟨a1_0, a1_1, a1_2, a1_3, a1_4, a1_5⟩ : S27) )) (Reps.none _ _)))
                  intro v122 w20 ho21 hb hg_ hnew_; clear hg_ hnew_
                  (first | rw [← Ny121.out] at ho21 | (simp only [Int.reduceToNat] at ho21; rw [← Ny121.out] at ho21))
                  have n0_ := am (Kd.R_elder' (ru HO120.out) (Kd.R_base ho21) hb); have n1_ := am (Kd.R_lower (Kd.R_newB (Kd.R_new' ho21 (Kd.R_lt (ru HO120.out))) (bu BK115.out)) (below_size (beu HB.out))); have n2_ := am (blk_below (bu BK115.out) hb); have n3_ := am (below_step (beu HB.out) hb); clear HO120 BK115 HB; have HO120 := n0_; have HO123 := n1_; have BK115 := n2_; have HB := n3_; clear n0_ n1_ n2_ n3_ hb ho21; refine hK.out _ _ ⟨(blk_cell BK115.out 0).trans rfl, (blk_cell BK115.out 1).trans rfl, (blk_cell BK115.out 2).trans rfl, (blk_cell BK115.out 3).trans rfl, (blk_cell BK115.out 4).trans rfl, (blk_cell BK115.out 5).trans rfl⟩ (fun hHeld => ?_); clear hK K; refine norm_ (a' := ?_) ?_ ?_; rotate_left
                  · show Act.put _ (some 29) _ = _
                    simp only [Act.put, sA, sB, sC, i64_w, i32_w]
                    rfl
                  exact norm_ (by simp only [putAll, Act.put, sA, sB, sC]) (hCont (v119, v122) _ ⟨hHeld, (ru (Kd.R_mono HO120.out (fun _ hk => ⟨hk.2, hk.1.2⟩))), (ru (Kd.R_mono HO123.out (fun _ hk => ⟨hk.1.2, hk.2⟩))), (bu BK115.out), (beu HB.out)⟩)
                · skip
                  refine Kd.R_lit_step k27 _ 27 ?hg (N := 29) ?hd (xs := ([(⟨a1_0, a1_1, a1_2, a1_3, a1_4, a1_5⟩ : S27)] : List (S27))) (inner := [.int .i64 a1_0, .int .i64 a1_1, .int .i64 a1_2, .int .i64 a1_3, .int .i64 a1_4, .string a1_5]) (ok := fun _ => True) (okp := fun _ => True) ?hr ?hp (fun _ hk => hk) trivial (Below.refl _ _) (Nat.le_refl _) (by simp) ?_; (case hd => rfl); (case hg => rfl); (case hr => first | (go_simp; done) | (go_simp; rfl)); (case hp => exact (Reps.c6 (show Kd.M k27 _ _ _ (⟨a1_0, a1_1, a1_2, a1_3, a1_4, a1_5⟩ : S27) [.int .i64 a1_0, .int .i64 a1_1, .int .i64 a1_2, .int .i64 a1_3, .int .i64 a1_4, .string a1_5] from (k27_mkM _ _ _ (⟨a1_0, a1_1, a1_2, a1_3, a1_4, a1_5⟩ : S27) )) (Reps.none _ _)))
                  intro v122 w19 ho20 hb hg_ hnew_; clear hg_ hnew_
                  (first | rw [← Ny121.out] at ho20 | (simp only [Int.reduceToNat] at ho20; rw [← Ny121.out] at ho20))
                  have n0_ := am (Kd.R_lower (Kd.R_newB ho20 (bu BK115.out)) (below_size (beu HB.out))); have n1_ := am (blk_below (bu BK115.out) hb); have n2_ := am (below_step (beu HB.out) hb); clear BK115 HB; have HO123 := n0_; have BK115 := n1_; have HB := n2_; clear n0_ n1_ n2_ hb ho20; refine hK.out _ _ ⟨(blk_cell BK115.out 0).trans rfl, (blk_cell BK115.out 1).trans rfl, (blk_cell BK115.out 2).trans rfl, (blk_cell BK115.out 3).trans rfl, (blk_cell BK115.out 4).trans rfl, (blk_cell BK115.out 5).trans rfl⟩ (fun hHeld => ?_); clear hK K; refine norm_ (a' := ?_) ?_ ?_; rotate_left
                  · show Act.put _ (some 29) _ = _
                    simp only [Act.put, sA, sB, sC, i64_w, i32_w]
                    rfl
                  refine one_ (i := 1) (N := some 27) (bs 7 15) rfl rfl (by kernel_rfl) (by decide) (fun K hK => ?_); refine goes_ Tryd.func32 (by kernel_rfl) rfl #[.slice (some ad117) l0.length c0] (by rfl) rfl rfl ap1 ?_; with_reducible refine (api_Effect_32.calls _ _ l0 t118 _ ?side1 ?side2 A13.out).mono ?_
                  (case side1 => exact cu (Kd.C_below HR0.out HB.out))
                  (case side2 => exact HC0.out)
                  rintro e w21 ⟨v119, rfl, ho0, hb⟩; refine ⟨_, rfl, ?_⟩; have n0_ := am (Kd.R_elder' (ru HO123.out) (Kd.R_base ho0) hb); have n1_ := am (Kd.R_lower (Kd.R_newB (Kd.R_new' ho0 (Kd.R_lt (ru HO123.out))) (bu BK115.out)) (below_size (beu HB.out))); have n2_ := am (blk_below (bu BK115.out) hb); have n3_ := am (below_step (beu HB.out) hb); clear HO123 BK115 HB; have HO123 := n0_; have HO120 := n1_; have BK115 := n2_; have HB := n3_; clear n0_ n1_ n2_ n3_
                  (try clear hb)
                  (try clear hb2)
                  (try clear hk)
                  (try clear hi)
                  (try clear ho0)
                  refine hK.out _ _ ⟨(blk_cell BK115.out 0).trans rfl, (blk_cell BK115.out 1).trans rfl, (blk_cell BK115.out 2).trans rfl, (blk_cell BK115.out 3).trans rfl, (blk_cell BK115.out 4).trans rfl, (blk_cell BK115.out 5).trans rfl⟩ (fun hHeld => ?_); clear hK K; refine norm_ (a' := ?_) ?_ ?_; rotate_left
                  · show Act.put _ (some 27) _ = _
                    simp only [Act.put, sA, sB, sC, i64_w, i32_w]
                    rfl
                  exact norm_ (by simp only [putAll, Act.put, sA, sB, sC]) (hCont (v119, v122) _ ⟨hHeld, (ru (Kd.R_mono HO120.out (fun _ hk => ⟨hk.1.2, hk.2⟩))), (ru (Kd.R_mono HO123.out (fun _ hk => ⟨hk.2, hk.1.2⟩))), (bu BK115.out), (beu HB.out)⟩)
              rintro ⟨v119, v122⟩ w22 ⟨hS_, h0_, h1_, h2_, h3_⟩; have n0_ : Aside0 (Kd.R k27 27 w22 w.heap.size (fun k_ => some k_ ≠ (v122 : Value).ownBlock ∧ k_ ≠ gb115) v119 t118) := ⟨h0_⟩; have n1_ : Aside0 (Kd.R k27 27 w22 w.heap.size (fun k_ => some k_ ≠ (v119 : Value).ownBlock ∧ k_ ≠ gb115) v122 y121) := ⟨h1_⟩; have n2_ : Aside0 (w22.heap[gb115]? = some (.cells #[.int .i64 a1_0, .int .i64 a1_1, .int .i64 a1_2, .int .i64 a1_3, .int .i64 a1_4, .string a1_5] 27 (0, 0))) := ⟨h2_⟩; have n3_ : Aside0 (Below w.heap.size w w22) := ⟨h3_⟩; clear BK115 HB h0_ h1_ h2_ h3_; have HO120 := n0_; have HO123 := n1_; have BK115 := n2_; have HB := n3_; clear n0_ n1_ n2_ n3_; have hHeld : w22.cell? ⟨gb115, 0, none⟩ = some (.int .i64 a1_0) ∧ w22.cell? ⟨gb115, 1, none⟩ = some (.int .i64 a1_1) ∧ w22.cell? ⟨gb115, 2, none⟩ = some (.int .i64 a1_2) ∧ w22.cell? ⟨gb115, 3, none⟩ = some (.int .i64 a1_3) ∧ w22.cell? ⟨gb115, 4, none⟩ = some (.int .i64 a1_4) ∧ w22.cell? ⟨gb115, 5, none⟩ = some (.string a1_5) := hS_; obtain ⟨Ao24, co24, eo24⟩ := Kd.R_slice HO123.out
              (first | subst eo24 | (injection eo24 with f1_ f2_ f3_; have f4_ := f1_.symm; have f5_ := f3_.symm; clear f1_ f2_ f3_; subst f4_; subst f5_))
              refine norm_ (a' := ?_) ?_ ?_; rotate_left
              · simp only [putAll, Act.put, sA, sB, sC]
                rfl
              refine one_ (i := 4) (N := some 30) (bs 7 31) rfl rfl (by kernel_rfl) (by decide) (fun K hK => ?_); refine Kd.R_append_rows_step k27 (w0 := w) w.heap.size (by rfl) (.tmp 27) (.tmp 29) 22 27 (.agg #[(.int .i64 0), (.int .i64 0), (.int .i64 0), (.int .i64 0), (.int .i64 0), (.string ⟨#[]⟩)]) 56 rfl Tryd.underlying22 info27 rfl (by decide) (by omega) v119 t118 y121 _ _ _ (fun k_ => some k_ ≠ (.slice Ao24 y121.length co24 : Value).ownBlock ∧ k_ ≠ gb115) (fun _ => False) rfl rfl ?aO ?aR (fun _ _ h => h) (fun _ h => h.elim) ?aF ?aB ?aS ?aL ?_
              (case aR => exact cu (Kd.R_reads' HO123.out).2.2)
              (case aB => exact (beu HB.out))
              (case aF => exact (fun k_ hk => ⟨Kd.fresh' (Kd.R_lt (ru HO123.out)) k_ hk, Kd.freshB (bu BK115.out) k_ hk⟩))
              (case aO => exact (ru HO120.out))
              (case aS => exact (below_size (beu HB.out)))
              (case aL => have := LMc14.out; omega)
              intro v125 w23 ho hb hg hat; rw [← Ny124.out] at ho; have n0_ := am (blk_grown (bu BK115.out) hg (Kd.R_away HO120.out (fun _ hk => hk.2))); have n1_ := am (Kd.R_after (ok := (fun k_ => k_ ≠ gb115)) (ru (Kd.R_mono HO123.out (fun _ hk => ⟨hk.2, hk.1⟩))) hg hat); have n2_ := am (hb); have n3_ := am (ho); clear BK115 HO123 HB HO120; have BK115 := n0_; have HO123 := n1_; have HB := n2_; have HO126 := n3_; clear n0_ n1_ n2_ n3_ ho hb hg hat; refine hK.out _ _ ⟨(blk_cell BK115.out 0).trans rfl, (blk_cell BK115.out 1).trans rfl, (blk_cell BK115.out 2).trans rfl, (blk_cell BK115.out 3).trans rfl, (blk_cell BK115.out 4).trans rfl, (blk_cell BK115.out 5).trans rfl⟩ (fun hHeld => ?_); clear hK K; refine norm_ (a' := ?_) ?_ ?_; rotate_left
              · show Act.put _ (some 30) _ = _
                simp only [Act.put, sA, sB, sC, i64_w, i32_w]
                rfl
              refine pure_ (i := 5) (N := some 4) (v := ?_) (a' := ?_) (bs 7 63) rfl rfl (by kernel_rfl) (fun _ _ _ h => h) (Or.inl ⟨by rfl, ?_⟩) ?_ ?_; rotate_left
              · intro w'
                go_simp
                with_reducible rfl
              rotate_left
              · simp only [Act.put, sA, sB, sC, i64_w, i32_w]
                rfl
              refine pure_ (i := 6) (N := some 5) (v := ?_) (a' := ?_) (bs 7 127) rfl rfl (by kernel_rfl) (fun _ _ _ h => h) (Or.inl ⟨by rfl, ?_⟩) ?_ ?_; rotate_left
              · intro w'
                go_simp
                with_reducible rfl
              rotate_left
              · simp only [Act.put, sA, sB, sC, i64_w, i32_w]
                rfl
              refine done_ (by kernel_rfl) ?_
              try go_wp2
              go_ret2
              exact ⟨_, by first | rfl | (simp [errW_none, errW_some] <;> rfl) | (simp only [← hji6]; first | rfl | (simp [errW_none, errW_some] <;> rfl)) | (simp [*, errW_none, errW_some] <;> rfl), ru (Kd.R_mono HO126.out (fun _ hk => trivial)), beu HB.out⟩
            · rw [if_neg c14] at H
              exact absurd H (by simp)
        · rw [if_neg c8] at H
          exact absurd H (by simp)
      · rw [if_neg c7] at H
        exact absurd H (by simp)
    · rw [if_neg c5] at H
      have c5b0 : decide (0 < (l0.length : Int)) = false := decide_eq_false c5; have c5b1 : decide (0 < l0.length) = false := decide_eq_false (by omega); clear c5; replace H := obm H; obtain ⟨t127, A250, H⟩ := H; replace H : ((some (([(⟨a1_0, a1_1, a1_2, a1_3, a1_4, a1_5⟩ : S27)] : List (S27)) : List (S27))).bind fun y130 => (if t127.length + y130.length < 2513169434916 then (some ((t127 ++ y130), 0)) else (none))) = some (r1, r2) := H; have A25 := am A250; clear A250; obtain ⟨y130, hy130⟩ : ∃ y_ : List (S27), y_ = (([(⟨a1_0, a1_1, a1_2, a1_3, a1_4, a1_5⟩ : S27)] : List (S27))) := ⟨_, rfl⟩
      replace H : (if t127.length + y130.length < 2513169434916 then (some ((t127 ++ y130), 0)) else (none)) = some (r1, r2) := by first | (rw [hy130]; with_reducible exact H) | (have H2_ := (Option.bind_some _ _).symm.trans H; rw [hy130]; with_reducible exact H2_) | (have H2_ := (Option.bind_some _ _).symm.trans H; with_reducible exact H2_) | with_reducible exact H | (rw [hy130]; exact H) | exact H
      have Ny130 := am hy130; clear hy130
      by_cases c26 : t127.length + y130.length < 2513169434916
      · rw [if_pos c26] at H
        have LMc26 := am c26; clear c26; obtain ⟨y133, hy133⟩ : ∃ y_ : List (S27), y_ = (t127 ++ y130) := ⟨_, rfl⟩
        replace H : (some (y133, 0)) = some (r1, r2) := by first | (rw [hy133]; with_reducible exact H) | (have H2_ := (Option.bind_some _ _).symm.trans H; rw [hy133]; with_reducible exact H2_) | (have H2_ := (Option.bind_some _ _).symm.trans H; with_reducible exact H2_) | with_reducible exact H | (rw [hy133]; exact H) | exact H
        have Ny133 := am hy133; clear hy133; simp only [Option.some.injEq, Prod.mk.injEq] at H; obtain ⟨rfl, rfl⟩ := H
        go_enter Tryd.func9, Tryd.ntmps9
        try go_wp2_with (first | ((with_reducible refine gate_dst (N := 3) rfl ?_); (try (refine gate_guard (by rfl) ?_; dsimp only)); refine box_event ?hg (N := 3) ?hd (cs := #[.int .i64 a1_0, .int .i64 a1_1, .int .i64 a1_2, .int .i64 a1_3, .int .i64 a1_4, .string a1_5]) (t := 27) ?hr ?_; (case hd => rfl); (case hg => rfl); (case hr => first | (go_simp; done) | (go_simp; rfl)); intro gb115 hg w27 hbox hb; have _ := am (below_step (beu HB.out) hb); have _ := am (hbox); have _ := am ((by rw [hg]; exact (below_size (beu HB.out)) : w.heap.size ≤ gb115)); have _ := am ((by rw [hg]; exact (below_size (beu HB.out)) : w.heap.size ≤ gb115)); clear HB; rename_i HB BK115 GW115 GE115; clear hb hbox hg))
        (try (rw [drewN_self w27]; generalize hq_ : World.drewN w27 _ = w27; have _ := am (blk_at hq_ BK115.out); have _ := am (below_at hq_ HB.out); clear hq_ BK115 HB; rename_i BK115 HB))
        have n0_ := am (blk_drew BK115.out); have n1_ := am (below_drew1 HB.out); clear BK115 HB; have BK115 := n0_; have HB := n1_; clear n0_ n1_
        refine start_ (n := 20) (S := fun w' => w'.cell? ⟨gb115, 0, none⟩ = some (.int .i64 a1_0) ∧ w'.cell? ⟨gb115, 1, none⟩ = some (.int .i64 a1_1) ∧ w'.cell? ⟨gb115, 2, none⟩ = some (.int .i64 a1_2) ∧ w'.cell? ⟨gb115, 3, none⟩ = some (.int .i64 a1_3) ∧ w'.cell? ⟨gb115, 4, none⟩ = some (.int .i64 a1_4) ∧ w'.cell? ⟨gb115, 5, none⟩ = some (.string a1_5)) (ds := []) #[false, false, false, false, false, false, false, false, false, false, false, false, false, false, false, false, false, false, false, false] (by kernel_rfl) rfl rfl ⟨(blk_cell BK115.out 0).trans rfl, (blk_cell BK115.out 1).trans rfl, (blk_cell BK115.out 2).trans rfl, (blk_cell BK115.out 3).trans rfl, (blk_cell BK115.out 4).trans rfl, (blk_cell BK115.out 5).trans rfl⟩ (fun hHeld => ?_); refine with_tabW outbox_Add.tab1 outbox_Add.bits1 (fun HT_ HW_ => ?_)
        generalize w27.drew = w28 at BK115 HB hHeld ⊢; refine take_ (i := 0) (N := some 6) (v := ?_) (a' := ?_) (bs 20 1) rfl rfl (take_ofW HT_.out HW_.out (by kernel_rfl)) (fun _ _ _ h => h) (Or.inl ⟨by rfl, ?_⟩) hHeld ?_ ?_; rotate_left
        · rintro w' ⟨s0, s1, s2, s3, s4, s5⟩
          go_simp
          with_reducible rfl
        rotate_left
        · simp only [Act.put, sA, sB, sC, i64_w, i32_w]
          rfl
        refine one_ (i := 1) (N := some 7) (bs 20 3) rfl rfl (one_of HT_.out (by kernel_rfl)) (by decide) (fun K hK => ?_); refine goes_ Tryd.func31 (by kernel_rfl) rfl #[.agg #[.int .i64 a1_0, .int .i64 a1_1, .int .i64 a1_2, .int .i64 a1_3, .int .i64 a1_4, .string a1_5]] (by rfl) rfl rfl ap1 ?_; with_reducible refine (outbox_one.calls k a1_0 a1_1 a1_2 a1_3 a1_4 a1_5 true _ ?side1 A3.out).mono ?_
        (case side1 => first | (with_reducible exact HT.out) | exact Tabs.below HT.out (beu HB.out))
        rintro e w29 ⟨rfl, hb⟩; refine ⟨_, rfl, ?_⟩; have n0_ := am (blk_below (bu BK115.out) hb); have n1_ := am (below_step (beu HB.out) hb); clear BK115 HB; have BK115 := n0_; have HB := n1_; clear n0_ n1_
        (try clear hb)
        (try clear hb2)
        (try clear hk)
        (try clear hi)
        refine hK.out _ _ ⟨(blk_cell BK115.out 0).trans rfl, (blk_cell BK115.out 1).trans rfl, (blk_cell BK115.out 2).trans rfl, (blk_cell BK115.out 3).trans rfl, (blk_cell BK115.out 4).trans rfl, (blk_cell BK115.out 5).trans rfl⟩ (fun hHeld => ?_); clear hK K; refine norm_ (a' := ?_) ?_ ?_; rotate_left
        · show Act.put _ (some 7) _ = _
          simp only [Act.put, sA, sB, sC, i64_w, i32_w]
          rfl
        refine pure_ (i := 2) (N := some 8) (v := ?_) (a' := ?_) (bs 20 7) rfl rfl (ak HT_.out) (fun _ _ _ h => h) (Or.inl ⟨by rfl, ?_⟩) ?_ ?_; rotate_left
        · intro w'
          go_simp
          with_reducible rfl
        rotate_left
        · simp only [Act.put, sA, sB, sC, i64_w, i32_w]
          rfl
        refine pure_ (i := 3) (N := some 9) (v := ?_) (a' := ?_) (bs 20 15) rfl rfl (ak HT_.out) (fun _ _ _ h => h) (Or.inl ⟨by rfl, ?_⟩) ?_ ?_; rotate_left
        · intro w'
          go_simp
          with_reducible rfl
        rotate_left
        · simp only [Act.put, sA, sB, sC, i64_w, i32_w]
          rfl
        refine pure_ (i := 4) (N := some 10) (v := ?_) (a' := ?_) (bs 20 31) rfl rfl (ak HT_.out) (fun _ _ _ h => h) (Or.inl ⟨by rfl, ?_⟩) ?_ ?_; rotate_left
        · intro w'
          go_simp
          with_reducible rfl
        rotate_left
        · simp only [Act.put, sA, sB, sC, i64_w, i32_w]
          rfl
        refine pure_ (i := 5) (N := some 11) (v := ?_) (a' := ?_) (bs 20 63) rfl rfl (ak HT_.out) (fun _ _ _ h => h) (Or.inl ⟨by rfl, ?_⟩) ?_ ?_; rotate_left
        · intro w'
          go_simp
          with_reducible rfl
        rotate_left
        · simp only [Act.put, sA, sB, sC, i64_w, i32_w]
          rfl
        refine pure_ (i := 6) (N := some 12) (v := ?_) (a' := ?_) (bs 20 127) rfl rfl (ak HT_.out) (fun _ _ _ h => h) (Or.inl ⟨by rfl, ?_⟩) ?_ ?_; rotate_left
        · intro w'
          go_simp
          with_reducible rfl
        rotate_left
        · simp only [Act.put, sA, sB, sC, i64_w, i32_w]
          rfl
        refine pure_ (i := 7) (N := some 13) (v := ?_) (a' := ?_) (bs 20 255) rfl rfl (ak HT_.out) (fun _ _ _ h => h) (Or.inl ⟨by rfl, ?_⟩) ?_ ?_; rotate_left
        · intro w'
          go_simp
          with_reducible rfl
        rotate_left
        · simp only [Act.put, sA, sB, sC, i64_w, i32_w]
          rfl
        refine pure_ (i := 8) (N := some 14) (v := undef) (a' := ?_) (bs 20 511) rfl rfl (ak HT_.out) (fun _ _ _ h => h) (Or.inr ⟨by rfl, rfl⟩) ?_ ?_; rotate_left
        · simp only [Act.put, sA, sB, sC, i64_w, i32_w]
          rfl
        refine pure_ (i := 9) (N := some 15) (v := undef) (a' := ?_) (bs 20 1023) rfl rfl (ak HT_.out) (fun _ _ _ h => h) (Or.inr ⟨by rfl, rfl⟩) ?_ ?_; rotate_left
        · simp only [Act.put, sA, sB, sC, i64_w, i32_w]
          rfl
        refine pure_ (i := 10) (N := some 16) (v := undef) (a' := ?_) (bs 20 2047) rfl rfl (ak HT_.out) (fun _ _ _ h => h) (Or.inr ⟨by rfl, rfl⟩) ?_ ?_; rotate_left
        · simp only [Act.put, sA, sB, sC, i64_w, i32_w]
          rfl
        refine pure_ (i := 11) (N := some 17) (v := undef) (a' := ?_) (bs 20 4095) rfl rfl (ak HT_.out) (fun _ _ _ h => h) (Or.inr ⟨by rfl, rfl⟩) ?_ ?_; rotate_left
        · simp only [Act.put, sA, sB, sC, i64_w, i32_w]
          rfl
        refine pure_ (i := 12) (N := some 18) (v := undef) (a' := ?_) (bs 20 8191) rfl rfl (ak HT_.out) (fun _ _ _ h => h) (Or.inr ⟨by rfl, rfl⟩) ?_ ?_; rotate_left
        · simp only [Act.put, sA, sB, sC, i64_w, i32_w]
          rfl
        refine pure_ (i := 13) (N := some 19) (v := undef) (a' := ?_) (bs 20 16383) rfl rfl (ak HT_.out) (fun _ _ _ h => h) (Or.inr ⟨by rfl, rfl⟩) ?_ ?_; rotate_left
        · simp only [Act.put, sA, sB, sC, i64_w, i32_w]
          rfl
        refine pure_ (i := 14) (N := some 20) (v := undef) (a' := ?_) (bs 20 32767) rfl rfl (ak HT_.out) (fun _ _ _ h => h) (Or.inr ⟨by rfl, rfl⟩) ?_ ?_; rotate_left
        · simp only [Act.put, sA, sB, sC, i64_w, i32_w]
          rfl
        refine pure_ (i := 15) (N := some 21) (v := undef) (a' := ?_) (bs 20 65535) rfl rfl (ak HT_.out) (fun _ _ _ h => h) (Or.inr ⟨by rfl, rfl⟩) ?_ ?_; rotate_left
        · simp only [Act.put, sA, sB, sC, i64_w, i32_w]
          rfl
        refine pure_ (i := 16) (N := some 22) (v := undef) (a' := ?_) (bs 20 131071) rfl rfl (ak HT_.out) (fun _ _ _ h => h) (Or.inr ⟨by rfl, rfl⟩) ?_ ?_; rotate_left
        · simp only [Act.put, sA, sB, sC, i64_w, i32_w]
          rfl
        refine pure_ (i := 17) (N := some 23) (v := undef) (a' := ?_) (bs 20 262143) rfl rfl (ak HT_.out) (fun _ _ _ h => h) (Or.inr ⟨by rfl, rfl⟩) ?_ ?_; rotate_left
        · simp only [Act.put, sA, sB, sC, i64_w, i32_w]
          rfl
        refine pure_ (i := 18) (N := some 24) (v := ?_) (a' := ?_) (bs 20 524287) rfl rfl (ak HT_.out) (fun _ _ _ h => h) (Or.inl ⟨by rfl, ?_⟩) ?_ ?_; rotate_left
        · intro w'
          go_simp
          with_reducible rfl
        rotate_left
        · simp only [Act.put, sA, sB, sC, i64_w, i32_w]
          rfl
        refine pure_ (i := 19) (N := some 25) (v := ?_) (a' := ?_) (bs 20 1048575) rfl rfl (ak HT_.out) (fun _ _ _ h => h) (Or.inl ⟨by rfl, ?_⟩) ?_ ?_; rotate_left
        · intro w'
          go_simp
          with_reducible rfl
        rotate_left
        · simp only [Act.put, sA, sB, sC, i64_w, i32_w]
          rfl
        refine done_ (done_of HT_.out (by kernel_rfl)) ?_
        try go_wp2
        (try (rw [drewN_self w29]; generalize hq_ : World.drewN w29 _ = w29; have _ := am (blk_at hq_ BK115.out); have _ := am (below_at hq_ HB.out); clear hq_ BK115 HB; rename_i BK115 HB))
        have n0_ := am (blk_drew BK115.out); have n1_ := am (below_drew1 HB.out); clear BK115 HB; have BK115 := n0_; have HB := n1_; clear n0_ n1_; refine start_ (n := 7) (S := fun w' => w'.cell? ⟨gb115, 0, none⟩ = some (.int .i64 a1_0) ∧ w'.cell? ⟨gb115, 1, none⟩ = some (.int .i64 a1_1) ∧ w'.cell? ⟨gb115, 2, none⟩ = some (.int .i64 a1_2) ∧ w'.cell? ⟨gb115, 3, none⟩ = some (.int .i64 a1_3) ∧ w'.cell? ⟨gb115, 4, none⟩ = some (.int .i64 a1_4) ∧ w'.cell? ⟨gb115, 5, none⟩ = some (.string a1_5)) (ds := []) #[false, false, false, false, false, false, false] (by kernel_rfl) rfl rfl ⟨(blk_cell BK115.out 0).trans rfl, (blk_cell BK115.out 1).trans rfl, (blk_cell BK115.out 2).trans rfl, (blk_cell BK115.out 3).trans rfl, (blk_cell BK115.out 4).trans rfl, (blk_cell BK115.out 5).trans rfl⟩ (fun hHeld => ?_); generalize w29.drew = w30 at BK115 HB hHeld ⊢; refine pure_ (i := 0) (N := some 26) (v := ?_) (a' := ?_) (bs 7 1) rfl rfl (by kernel_rfl) (fun _ _ _ h => h) (Or.inl ⟨by rfl, ?_⟩) ?_ ?_; rotate_left
        · intro w'
          go_simp
          with_reducible rfl
        rotate_left
        · simp only [Act.put, sA, sB, sC, i64_w, i32_w]
          rfl
        refine take_ (i := 2) (N := some 28) (v := ?_) (a' := ?_) (bs 7 5) rfl rfl (by kernel_rfl) (fun _ _ _ h => h) (Or.inl ⟨by rfl, ?_⟩) hHeld ?_ ?_; rotate_left
        · rintro w' ⟨s0, s1, s2, s3, s4, s5⟩
          go_simp
          with_reducible rfl
        rotate_left
        · simp only [Act.put, sA, sB, sC, i64_w, i32_w]
          rfl
        refine join_ (σ := Value × Value) 3 #[true, true, true, true, false, false, false] (fun s_ => [(27, s_.1), (29, s_.2)]) (fun s_ w' => (w'.cell? ⟨gb115, 0, none⟩ = some (.int .i64 a1_0) ∧ w'.cell? ⟨gb115, 1, none⟩ = some (.int .i64 a1_1) ∧ w'.cell? ⟨gb115, 2, none⟩ = some (.int .i64 a1_2) ∧ w'.cell? ⟨gb115, 3, none⟩ = some (.int .i64 a1_3) ∧ w'.cell? ⟨gb115, 4, none⟩ = some (.int .i64 a1_4) ∧ w'.cell? ⟨gb115, 5, none⟩ = some (.string a1_5)) ∧ (Kd.R k27 27 w' w.heap.size (fun k_ => some k_ ≠ (s_.2 : Value).ownBlock ∧ k_ ≠ gb115) s_.1 t127) ∧ (Kd.R k27 27 w' w.heap.size (fun k_ => some k_ ≠ (s_.1 : Value).ownBlock ∧ k_ ≠ gb115) s_.2 y130) ∧ (w'.heap[gb115]? = some (.cells #[.int .i64 a1_0, .int .i64 a1_1, .int .i64 a1_2, .int .i64 a1_3, .int .i64 a1_4, .string a1_5] 27 (0, 0))) ∧ (Below w.heap.size w w')) ?_ ?_; rotate_left
        · intro hCont
          refine two_ (i := 1) (j := 3) (Ni := some 27) (Nj := some 29) #[true, true, true, false, false, false, false] #[true, false, true, true, false, false, false] rfl rfl rfl rfl (by kernel_rfl) (by decide) (by decide) (fun K hK => ?_) (fun K hK => ?_)
          · skip
            refine goes_ Tryd.func32 (by kernel_rfl) rfl #[.slice A0 l0.length c0] (by rfl) rfl rfl ap1 ?_; with_reducible refine (api_Effect_32.calls _ _ l0 t127 _ ?side1 ?side2 A25.out).mono ?_
            (case side1 => exact cu (Kd.C_below HR0.out HB.out))
            (case side2 => exact HC0.out)
            rintro e w31 ⟨v128, rfl, ho0, hb⟩; refine ⟨_, rfl, ?_⟩; have n0_ := am (Kd.R_lower (Kd.R_newB ho0 (bu BK115.out)) (below_size (beu HB.out))); have n1_ := am (blk_below (bu BK115.out) hb); have n2_ := am (below_step (beu HB.out) hb); clear BK115 HB; have HO129 := n0_; have BK115 := n1_; have HB := n2_; clear n0_ n1_ n2_
            (try clear hb)
            (try clear hb2)
            (try clear hk)
            (try clear hi)
            (try clear ho0)
            refine hK.out _ _ ⟨(blk_cell BK115.out 0).trans rfl, (blk_cell BK115.out 1).trans rfl, (blk_cell BK115.out 2).trans rfl, (blk_cell BK115.out 3).trans rfl, (blk_cell BK115.out 4).trans rfl, (blk_cell BK115.out 5).trans rfl⟩ (fun hHeld => ?_); clear hK K; refine norm_ (a' := ?_) ?_ ?_; rotate_left
            · show Act.put _ (some 27) _ = _
              simp only [Act.put, sA, sB, sC, i64_w, i32_w]
              rfl
            refine one_ (i := 3) (N := some 29) (bs 7 15) rfl rfl (by kernel_rfl) (by decide) (fun K hK => ?_)
            refine Kd.R_lit_step k27 _ 27 ?hg (N := 29) ?hd (xs := ([(⟨a1_0, a1_1, a1_2, a1_3, a1_4, a1_5⟩ : S27)] : List (S27))) (inner := [.int .i64 a1_0, .int .i64 a1_1, .int .i64 a1_2, .int .i64 a1_3, .int .i64 a1_4, .string a1_5]) (ok := fun _ => True) (okp := fun _ => True) ?hr ?hp (fun _ hk => hk) trivial (Below.refl _ _) (Nat.le_refl _) (by simp) ?_; (case hd => rfl); (case hg => rfl); (case hr => first | (go_simp; done) | (go_simp; rfl)); (case hp => exact (Reps.c6 (show Kd.M k27 _ _ _ (⟨a1_0, a1_1, a1_2, a1_3, a1_4, a1_5⟩ : S27) [.int .i64 a1_0, .int .i64 a1_1, .int .i64 a1_2, .int .i64 a1_3, .int .i64 a1_4, .string a1_5] from (k27_mkM _ _ _ (⟨a1_0, a1_1, a1_2, a1_3, a1_4, a1_5⟩ : S27) )) (Reps.none _ _)))
            intro v131 w32 ho33 hb hg_ hnew_; clear hg_ hnew_
            (first | rw [← Ny130.out] at ho33 | (simp only [Int.reduceToNat] at ho33; rw [← Ny130.out] at ho33))
            have n0_ := am (Kd.R_elder' (ru HO129.out) (Kd.R_base ho33) hb); have n1_ := am (Kd.R_lower (Kd.R_newB (Kd.R_new' ho33 (Kd.R_lt (ru HO129.out))) (bu BK115.out)) (below_size (beu HB.out))); have n2_ := am (blk_below (bu BK115.out) hb); have n3_ := am (below_step (beu HB.out) hb); clear HO129 BK115 HB; have HO129 := n0_; have HO132 := n1_; have BK115 := n2_; have HB := n3_; clear n0_ n1_ n2_ n3_ hb ho33; refine hK.out _ _ ⟨(blk_cell BK115.out 0).trans rfl, (blk_cell BK115.out 1).trans rfl, (blk_cell BK115.out 2).trans rfl, (blk_cell BK115.out 3).trans rfl, (blk_cell BK115.out 4).trans rfl, (blk_cell BK115.out 5).trans rfl⟩ (fun hHeld => ?_); clear hK K; refine norm_ (a' := ?_) ?_ ?_; rotate_left
            · show Act.put _ (some 29) _ = _
              simp only [Act.put, sA, sB, sC, i64_w, i32_w]
              rfl
            exact norm_ (by simp only [putAll, Act.put, sA, sB, sC]) (hCont (v128, v131) _ ⟨hHeld, (ru (Kd.R_mono HO129.out (fun _ hk => ⟨hk.2, hk.1.2⟩))), (ru (Kd.R_mono HO132.out (fun _ hk => ⟨hk.1.2, hk.2⟩))), (bu BK115.out), (beu HB.out)⟩)
          · skip
            refine Kd.R_lit_step k27 _ 27 ?hg (N := 29) ?hd (xs := ([(⟨a1_0, a1_1, a1_2, a1_3, a1_4, a1_5⟩ : S27)] : List (S27))) (inner := [.int .i64 a1_0, .int .i64 a1_1, .int .i64 a1_2, .int .i64 a1_3, .int .i64 a1_4, .string a1_5]) (ok := fun _ => True) (okp := fun _ => True) ?hr ?hp (fun _ hk => hk) trivial (Below.refl _ _) (Nat.le_refl _) (by simp) ?_; (case hd => rfl); (case hg => rfl); (case hr => first | (go_simp; done) | (go_simp; rfl)); (case hp => exact (Reps.c6 (show Kd.M k27 _ _ _ (⟨a1_0, a1_1, a1_2, a1_3, a1_4, a1_5⟩ : S27) [.int .i64 a1_0, .int .i64 a1_1, .int .i64 a1_2, .int .i64 a1_3, .int .i64 a1_4, .string a1_5] from (k27_mkM _ _ _ (⟨a1_0, a1_1, a1_2, a1_3, a1_4, a1_5⟩ : S27) )) (Reps.none _ _)))
            intro v131 w31 ho32 hb hg_ hnew_; clear hg_ hnew_
            (first | rw [← Ny130.out] at ho32 | (simp only [Int.reduceToNat] at ho32; rw [← Ny130.out] at ho32))
            have n0_ := am (Kd.R_lower (Kd.R_newB ho32 (bu BK115.out)) (below_size (beu HB.out))); have n1_ := am (blk_below (bu BK115.out) hb); have n2_ := am (below_step (beu HB.out) hb); clear BK115 HB; have HO132 := n0_; have BK115 := n1_; have HB := n2_; clear n0_ n1_ n2_ hb ho32; refine hK.out _ _ ⟨(blk_cell BK115.out 0).trans rfl, (blk_cell BK115.out 1).trans rfl, (blk_cell BK115.out 2).trans rfl, (blk_cell BK115.out 3).trans rfl, (blk_cell BK115.out 4).trans rfl, (blk_cell BK115.out 5).trans rfl⟩ (fun hHeld => ?_); clear hK K; refine norm_ (a' := ?_) ?_ ?_; rotate_left
            · show Act.put _ (some 29) _ = _
              simp only [Act.put, sA, sB, sC, i64_w, i32_w]
              rfl
            refine one_ (i := 1) (N := some 27) (bs 7 15) rfl rfl (by kernel_rfl) (by decide) (fun K hK => ?_); refine goes_ Tryd.func32 (by kernel_rfl) rfl #[.slice A0 l0.length c0] (by rfl) rfl rfl ap1 ?_; with_reducible refine (api_Effect_32.calls _ _ l0 t127 _ ?side1 ?side2 A25.out).mono ?_
            (case side1 => exact cu (Kd.C_below HR0.out HB.out))
            (case side2 => exact HC0.out)
            rintro e w33 ⟨v128, rfl, ho0, hb⟩; refine ⟨_, rfl, ?_⟩; have n0_ := am (Kd.R_elder' (ru HO132.out) (Kd.R_base ho0) hb); have n1_ := am (Kd.R_lower (Kd.R_newB (Kd.R_new' ho0 (Kd.R_lt (ru HO132.out))) (bu BK115.out)) (below_size (beu HB.out))); have n2_ := am (blk_below (bu BK115.out) hb); have n3_ := am (below_step (beu HB.out) hb); clear HO132 BK115 HB; have HO132 := n0_; have HO129 := n1_; have BK115 := n2_; have HB := n3_; clear n0_ n1_ n2_ n3_
            (try clear hb)
            (try clear hb2)
            (try clear hk)
            (try clear hi)
            (try clear ho0)
            refine hK.out _ _ ⟨(blk_cell BK115.out 0).trans rfl, (blk_cell BK115.out 1).trans rfl, (blk_cell BK115.out 2).trans rfl, (blk_cell BK115.out 3).trans rfl, (blk_cell BK115.out 4).trans rfl, (blk_cell BK115.out 5).trans rfl⟩ (fun hHeld => ?_); clear hK K; refine norm_ (a' := ?_) ?_ ?_; rotate_left
            · show Act.put _ (some 27) _ = _
              simp only [Act.put, sA, sB, sC, i64_w, i32_w]
              rfl
            exact norm_ (by simp only [putAll, Act.put, sA, sB, sC]) (hCont (v128, v131) _ ⟨hHeld, (ru (Kd.R_mono HO129.out (fun _ hk => ⟨hk.1.2, hk.2⟩))), (ru (Kd.R_mono HO132.out (fun _ hk => ⟨hk.2, hk.1.2⟩))), (bu BK115.out), (beu HB.out)⟩)
        rintro ⟨v128, v131⟩ w34 ⟨hS_, h0_, h1_, h2_, h3_⟩; have n0_ : Aside0 (Kd.R k27 27 w34 w.heap.size (fun k_ => some k_ ≠ (v131 : Value).ownBlock ∧ k_ ≠ gb115) v128 t127) := ⟨h0_⟩; have n1_ : Aside0 (Kd.R k27 27 w34 w.heap.size (fun k_ => some k_ ≠ (v128 : Value).ownBlock ∧ k_ ≠ gb115) v131 y130) := ⟨h1_⟩; have n2_ : Aside0 (w34.heap[gb115]? = some (.cells #[.int .i64 a1_0, .int .i64 a1_1, .int .i64 a1_2, .int .i64 a1_3, .int .i64 a1_4, .string a1_5] 27 (0, 0))) := ⟨h2_⟩; have n3_ : Aside0 (Below w.heap.size w w34) := ⟨h3_⟩; clear BK115 HB h0_ h1_ h2_ h3_; have HO129 := n0_; have HO132 := n1_; have BK115 := n2_; have HB := n3_; clear n0_ n1_ n2_ n3_; have hHeld : w34.cell? ⟨gb115, 0, none⟩ = some (.int .i64 a1_0) ∧ w34.cell? ⟨gb115, 1, none⟩ = some (.int .i64 a1_1) ∧ w34.cell? ⟨gb115, 2, none⟩ = some (.int .i64 a1_2) ∧ w34.cell? ⟨gb115, 3, none⟩ = some (.int .i64 a1_3) ∧ w34.cell? ⟨gb115, 4, none⟩ = some (.int .i64 a1_4) ∧ w34.cell? ⟨gb115, 5, none⟩ = some (.string a1_5) := hS_; obtain ⟨Ao36, co36, eo36⟩ := Kd.R_slice HO132.out
        (first | subst eo36 | (injection eo36 with f1_ f2_ f3_; have f4_ := f1_.symm; have f5_ := f3_.symm; clear f1_ f2_ f3_; subst f4_; subst f5_))
        refine norm_ (a' := ?_) ?_ ?_; rotate_left
        · simp only [putAll, Act.put, sA, sB, sC]
          rfl
        refine one_ (i := 4) (N := some 30) (bs 7 31) rfl rfl (by kernel_rfl) (by decide) (fun K hK => ?_); refine Kd.R_append_rows_step k27 (w0 := w) w.heap.size (by rfl) (.tmp 27) (.tmp 29) 22 27 (.agg #[(.int .i64 0), (.int .i64 0), (.int .i64 0), (.int .i64 0), (.int .i64 0), (.string ⟨#[]⟩)]) 56 rfl Tryd.underlying22 info27 rfl (by decide) (by omega) v128 t127 y130 _ _ _ (fun k_ => some k_ ≠ (.slice Ao36 y130.length co36 : Value).ownBlock ∧ k_ ≠ gb115) (fun _ => False) rfl rfl ?aO ?aR (fun _ _ h => h) (fun _ h => h.elim) ?aF ?aB ?aS ?aL ?_
        (case aR => exact cu (Kd.R_reads' HO132.out).2.2)
        (case aB => exact (beu HB.out))
        (case aF => exact (fun k_ hk => ⟨Kd.fresh' (Kd.R_lt (ru HO132.out)) k_ hk, Kd.freshB (bu BK115.out) k_ hk⟩))
        (case aO => exact (ru HO129.out))
        (case aS => exact (below_size (beu HB.out)))
        (case aL => have := LMc26.out; omega)
        intro v134 w35 ho hb hg hat; rw [← Ny133.out] at ho; have n0_ := am (blk_grown (bu BK115.out) hg (Kd.R_away HO129.out (fun _ hk => hk.2))); have n1_ := am (Kd.R_after (ok := (fun k_ => k_ ≠ gb115)) (ru (Kd.R_mono HO132.out (fun _ hk => ⟨hk.2, hk.1⟩))) hg hat); have n2_ := am (hb); have n3_ := am (ho); clear BK115 HO132 HB HO129; have BK115 := n0_; have HO132 := n1_; have HB := n2_; have HO135 := n3_; clear n0_ n1_ n2_ n3_ ho hb hg hat; refine hK.out _ _ ⟨(blk_cell BK115.out 0).trans rfl, (blk_cell BK115.out 1).trans rfl, (blk_cell BK115.out 2).trans rfl, (blk_cell BK115.out 3).trans rfl, (blk_cell BK115.out 4).trans rfl, (blk_cell BK115.out 5).trans rfl⟩ (fun hHeld => ?_); clear hK K; refine norm_ (a' := ?_) ?_ ?_; rotate_left
        · show Act.put _ (some 30) _ = _
          simp only [Act.put, sA, sB, sC, i64_w, i32_w]
          rfl
        refine pure_ (i := 5) (N := some 4) (v := ?_) (a' := ?_) (bs 7 63) rfl rfl (by kernel_rfl) (fun _ _ _ h => h) (Or.inl ⟨by rfl, ?_⟩) ?_ ?_; rotate_left
        · intro w'
          go_simp
          with_reducible rfl
        rotate_left
        · simp only [Act.put, sA, sB, sC, i64_w, i32_w]
          rfl
        refine pure_ (i := 6) (N := some 5) (v := ?_) (a' := ?_) (bs 7 127) rfl rfl (by kernel_rfl) (fun _ _ _ h => h) (Or.inl ⟨by rfl, ?_⟩) ?_ ?_; rotate_left
        · intro w'
          go_simp
          with_reducible rfl
        rotate_left
        · simp only [Act.put, sA, sB, sC, i64_w, i32_w]
          rfl
        refine done_ (by kernel_rfl) ?_
        try go_wp2
        go_ret2
        exact ⟨_, ap4, ru (Kd.R_mono HO135.out (fun _ hk => trivial)), beu HB.out⟩
      · rw [if_neg c26] at H
        exact absurd H (by simp)
  · replace c4 := Bool.eq_false_iff.mpr c4
    subst c4
    have H1 : (some (([] : List (S27)), 131)) = some (r1, r2) := by rw [if_neg (show ¬ (false = true) by decide)] at H; exact H
    clear H; have H := H1; clear H1; simp only [Option.some.injEq, Prod.mk.injEq] at H; obtain ⟨rfl, rfl⟩ := H
    go_enter Tryd.func9, Tryd.ntmps9
    try go_wp2_with (first | ((with_reducible refine gate_dst (N := 3) rfl ?_); (try (refine gate_guard (by rfl) ?_; dsimp only)); refine box_event ?hg (N := 3) ?hd (cs := #[.int .i64 a1_0, .int .i64 a1_1, .int .i64 a1_2, .int .i64 a1_3, .int .i64 a1_4, .string a1_5]) (t := 27) ?hr ?_; (case hd => rfl); (case hg => rfl); (case hr => first | (go_simp; done) | (go_simp; rfl)); intro gb115 hg w37 hbox hb; have _ := am (below_step (beu HB.out) hb); have _ := am (hbox); have _ := am ((by rw [hg]; exact (below_size (beu HB.out)) : w.heap.size ≤ gb115)); have _ := am ((by rw [hg]; exact (below_size (beu HB.out)) : w.heap.size ≤ gb115)); clear HB; rename_i HB BK115 GW115 GE115; clear hb hbox hg))
    (try (rw [drewN_self w37]; generalize hq_ : World.drewN w37 _ = w37; have _ := am (blk_at hq_ BK115.out); have _ := am (below_at hq_ HB.out); clear hq_ BK115 HB; rename_i BK115 HB))
    have n0_ := am (blk_drew BK115.out); have n1_ := am (below_drew1 HB.out); clear BK115 HB; have BK115 := n0_; have HB := n1_; clear n0_ n1_
    refine start_ (n := 20) (S := fun w' => w'.cell? ⟨gb115, 0, none⟩ = some (.int .i64 a1_0) ∧ w'.cell? ⟨gb115, 1, none⟩ = some (.int .i64 a1_1) ∧ w'.cell? ⟨gb115, 2, none⟩ = some (.int .i64 a1_2) ∧ w'.cell? ⟨gb115, 3, none⟩ = some (.int .i64 a1_3) ∧ w'.cell? ⟨gb115, 4, none⟩ = some (.int .i64 a1_4) ∧ w'.cell? ⟨gb115, 5, none⟩ = some (.string a1_5)) (ds := []) #[false, false, false, false, false, false, false, false, false, false, false, false, false, false, false, false, false, false, false, false] (by kernel_rfl) rfl rfl ⟨(blk_cell BK115.out 0).trans rfl, (blk_cell BK115.out 1).trans rfl, (blk_cell BK115.out 2).trans rfl, (blk_cell BK115.out 3).trans rfl, (blk_cell BK115.out 4).trans rfl, (blk_cell BK115.out 5).trans rfl⟩ (fun hHeld => ?_); refine with_tabW outbox_Add.tab1 outbox_Add.bits1 (fun HT_ HW_ => ?_)
    generalize w37.drew = w38 at BK115 HB hHeld ⊢; refine take_ (i := 0) (N := some 6) (v := ?_) (a' := ?_) (bs 20 1) rfl rfl (take_ofW HT_.out HW_.out (by kernel_rfl)) (fun _ _ _ h => h) (Or.inl ⟨by rfl, ?_⟩) hHeld ?_ ?_; rotate_left
    · rintro w' ⟨s0, s1, s2, s3, s4, s5⟩
      go_simp
      with_reducible rfl
    rotate_left
    · simp only [Act.put, sA, sB, sC, i64_w, i32_w]
      rfl
    refine one_ (i := 1) (N := some 7) (bs 20 3) rfl rfl (one_of HT_.out (by kernel_rfl)) (by decide) (fun K hK => ?_); refine goes_ Tryd.func31 (by kernel_rfl) rfl #[.agg #[.int .i64 a1_0, .int .i64 a1_1, .int .i64 a1_2, .int .i64 a1_3, .int .i64 a1_4, .string a1_5]] (by rfl) rfl rfl ap1 ?_; with_reducible refine (outbox_one.calls k a1_0 a1_1 a1_2 a1_3 a1_4 a1_5 false _ ?side1 A3.out).mono ?_
    (case side1 => first | (with_reducible exact HT.out) | exact Tabs.below HT.out (beu HB.out))
    rintro e w39 ⟨rfl, hb⟩; refine ⟨_, rfl, ?_⟩; have n0_ := am (blk_below (bu BK115.out) hb); have n1_ := am (below_step (beu HB.out) hb); clear BK115 HB; have BK115 := n0_; have HB := n1_; clear n0_ n1_
    (try clear hb)
    (try clear hb2)
    (try clear hk)
    (try clear hi)
    refine hK.out _ _ ⟨(blk_cell BK115.out 0).trans rfl, (blk_cell BK115.out 1).trans rfl, (blk_cell BK115.out 2).trans rfl, (blk_cell BK115.out 3).trans rfl, (blk_cell BK115.out 4).trans rfl, (blk_cell BK115.out 5).trans rfl⟩ (fun hHeld => ?_); clear hK K; refine norm_ (a' := ?_) ?_ ?_; rotate_left
    · show Act.put _ (some 7) _ = _
      simp only [Act.put, sA, sB, sC, i64_w, i32_w]
      rfl
    refine pure_ (i := 2) (N := some 8) (v := ?_) (a' := ?_) (bs 20 7) rfl rfl (ak HT_.out) (fun _ _ _ h => h) (Or.inl ⟨by rfl, ?_⟩) ?_ ?_; rotate_left
    · intro w'
      go_simp
      with_reducible rfl
    rotate_left
    · simp only [Act.put, sA, sB, sC, i64_w, i32_w]
      rfl
    refine pure_ (i := 3) (N := some 9) (v := ?_) (a' := ?_) (bs 20 15) rfl rfl (ak HT_.out) (fun _ _ _ h => h) (Or.inl ⟨by rfl, ?_⟩) ?_ ?_; rotate_left
    · intro w'
      go_simp
      with_reducible rfl
    rotate_left
    · simp only [Act.put, sA, sB, sC, i64_w, i32_w]
      rfl
    refine pure_ (i := 4) (N := some 10) (v := undef) (a' := ?_) (bs 20 31) rfl rfl (ak HT_.out) (fun _ _ _ h => h) (Or.inr ⟨by rfl, rfl⟩) ?_ ?_; rotate_left
    · simp only [Act.put, sA, sB, sC, i64_w, i32_w]
      rfl
    refine pure_ (i := 5) (N := some 11) (v := undef) (a' := ?_) (bs 20 63) rfl rfl (ak HT_.out) (fun _ _ _ h => h) (Or.inr ⟨by rfl, rfl⟩) ?_ ?_; rotate_left
    · simp only [Act.put, sA, sB, sC, i64_w, i32_w]
      rfl
    refine pure_ (i := 6) (N := some 12) (v := undef) (a' := ?_) (bs 20 127) rfl rfl (ak HT_.out) (fun _ _ _ h => h) (Or.inr ⟨by rfl, rfl⟩) ?_ ?_; rotate_left
    · simp only [Act.put, sA, sB, sC, i64_w, i32_w]
      rfl
    refine pure_ (i := 7) (N := some 13) (v := undef) (a' := ?_) (bs 20 255) rfl rfl (ak HT_.out) (fun _ _ _ h => h) (Or.inr ⟨by rfl, rfl⟩) ?_ ?_; rotate_left
    · simp only [Act.put, sA, sB, sC, i64_w, i32_w]
      rfl
    refine pure_ (i := 8) (N := some 14) (v := undef) (a' := ?_) (bs 20 511) rfl rfl (ak HT_.out) (fun _ _ _ h => h) (Or.inr ⟨by rfl, rfl⟩) ?_ ?_; rotate_left
    · simp only [Act.put, sA, sB, sC, i64_w, i32_w]
      rfl
    refine pure_ (i := 9) (N := some 15) (v := undef) (a' := ?_) (bs 20 1023) rfl rfl (ak HT_.out) (fun _ _ _ h => h) (Or.inr ⟨by rfl, rfl⟩) ?_ ?_; rotate_left
    · simp only [Act.put, sA, sB, sC, i64_w, i32_w]
      rfl
    refine pure_ (i := 10) (N := some 16) (v := undef) (a' := ?_) (bs 20 2047) rfl rfl (ak HT_.out) (fun _ _ _ h => h) (Or.inr ⟨by rfl, rfl⟩) ?_ ?_; rotate_left
    · simp only [Act.put, sA, sB, sC, i64_w, i32_w]
      rfl
    refine pure_ (i := 11) (N := some 17) (v := undef) (a' := ?_) (bs 20 4095) rfl rfl (ak HT_.out) (fun _ _ _ h => h) (Or.inr ⟨by rfl, rfl⟩) ?_ ?_; rotate_left
    · simp only [Act.put, sA, sB, sC, i64_w, i32_w]
      rfl
    refine pure_ (i := 12) (N := some 18) (v := undef) (a' := ?_) (bs 20 8191) rfl rfl (ak HT_.out) (fun _ _ _ h => h) (Or.inr ⟨by rfl, rfl⟩) ?_ ?_; rotate_left
    · simp only [Act.put, sA, sB, sC, i64_w, i32_w]
      rfl
    refine pure_ (i := 13) (N := some 19) (v := undef) (a' := ?_) (bs 20 16383) rfl rfl (ak HT_.out) (fun _ _ _ h => h) (Or.inr ⟨by rfl, rfl⟩) ?_ ?_; rotate_left
    · simp only [Act.put, sA, sB, sC, i64_w, i32_w]
      rfl
    refine pure_ (i := 14) (N := some 20) (v := undef) (a' := ?_) (bs 20 32767) rfl rfl (ak HT_.out) (fun _ _ _ h => h) (Or.inr ⟨by rfl, rfl⟩) ?_ ?_; rotate_left
    · simp only [Act.put, sA, sB, sC, i64_w, i32_w]
      rfl
    refine pure_ (i := 15) (N := some 21) (v := undef) (a' := ?_) (bs 20 65535) rfl rfl (ak HT_.out) (fun _ _ _ h => h) (Or.inr ⟨by rfl, rfl⟩) ?_ ?_; rotate_left
    · simp only [Act.put, sA, sB, sC, i64_w, i32_w]
      rfl
    refine pure_ (i := 16) (N := some 22) (v := undef) (a' := ?_) (bs 20 131071) rfl rfl (ak HT_.out) (fun _ _ _ h => h) (Or.inr ⟨by rfl, rfl⟩) ?_ ?_; rotate_left
    · simp only [Act.put, sA, sB, sC, i64_w, i32_w]
      rfl
    refine pure_ (i := 17) (N := some 23) (v := undef) (a' := ?_) (bs 20 262143) rfl rfl (ak HT_.out) (fun _ _ _ h => h) (Or.inr ⟨by rfl, rfl⟩) ?_ ?_; rotate_left
    · simp only [Act.put, sA, sB, sC, i64_w, i32_w]
      rfl
    refine pure_ (i := 18) (N := some 24) (v := undef) (a' := ?_) (bs 20 524287) rfl rfl (ak HT_.out) (fun _ _ _ h => h) (Or.inr ⟨by rfl, rfl⟩) ?_ ?_; rotate_left
    · simp only [Act.put, sA, sB, sC, i64_w, i32_w]
      rfl
    refine pure_ (i := 19) (N := some 25) (v := ?_) (a' := ?_) (bs 20 1048575) rfl rfl (ak HT_.out) (fun _ _ _ h => h) (Or.inl ⟨by rfl, ?_⟩) ?_ ?_; rotate_left
    · intro w'
      go_simp
      with_reducible rfl
    rotate_left
    · simp only [Act.put, sA, sB, sC, i64_w, i32_w]
      rfl
    refine done_ (done_of HT_.out (by kernel_rfl)) ?_
    try go_wp2
    go_ret2
    exact ⟨_, ap4, by first | exact Kd.R_nil _ _ _ _ _ | exact Kd.N_nil _ _ _ _ _ | exact Kd.V_nil _ _ _ _ _ | exact Kd.Q_nil _ _ _ _ _ | exact Kd.S_nil _ _ _ _ _, beu HB.out⟩
def cmp_isNaN_int64.f (a0 : Int) : Option (Bool) := some (a0 != a0)
set_option maxHeartbeats 8000000 in
set_option maxRecDepth 100000 in
theorem cmp_isNaN_int64.calls (a0 : Int) (r : Bool) (w : World) (h : cmp_isNaN_int64.f a0 = some r) :
    Calls Tryd.prog 59 #[.int .i64 a0] w fun e w' => e = .returned (.bool r) ∧ Drawn0 w w' := by
  have H : (some (a0 != a0)) = some r := h; clear h; obtain rfl := Option.some.inj H; simp only [Option.some.injEq, Prod.mk.injEq] at H; obtain ⟨rfl⟩ := H
  go_enter Tryd.func59, Tryd.ntmps59
  go_wp2
  go_ret
  exact ⟨ap3, ap5⟩
def cmp_Compare_int64.f (a0 : Int) (a1 : Int) : Option (Int) := (cmp_isNaN_int64.f a0).bind fun t136 => ((cmp_isNaN_int64.f a1).bind fun t137 => (if t136 = true then (if t137 = true then (some 0) else (some (-1))) else (if t137 = true then (some 1) else (if a0 < a1 then (some (-1)) else (if a0 > a1 then (some 1) else (some 0))))))
set_option maxHeartbeats 8000000 in
set_option maxRecDepth 100000 in
theorem cmp_Compare_int64.calls (a0 : Int) (a1 : Int) (r : Int) (w : World) (h : cmp_Compare_int64.f a0 a1 = some r) :
    Calls Tryd.prog 53 #[.int .i64 a0, .int .i64 a1] w fun e w' => e = .returned (.int .i64 r) ∧ Drawn0 w w' := by
  have H : ((cmp_isNaN_int64.f a0).bind fun t136 => ((cmp_isNaN_int64.f a1).bind fun t137 => (if t136 = true then (if t137 = true then (some 0) else (some (-1))) else (if t137 = true then (some 1) else (if a0 < a1 then (some (-1)) else (if a0 > a1 then (some 1) else (some 0))))))) = some r := h; clear h; replace H := obm H; obtain ⟨t136, A30, H⟩ := H; replace H : ((cmp_isNaN_int64.f a1).bind fun t137 => (if t136 = true then (if t137 = true then (some 0) else (some (-1))) else (if t137 = true then (some 1) else (if a0 < a1 then (some (-1)) else (if a0 > a1 then (some 1) else (some 0)))))) = some r := H; have A3 := am A30; clear A30; replace H := obm H; obtain ⟨t137, A40, H⟩ := H; replace H : (if t136 = true then (if t137 = true then (some 0) else (some (-1))) else (if t137 = true then (some 1) else (if a0 < a1 then (some (-1)) else (if a0 > a1 then (some 1) else (some 0))))) = some r := H; have A4 := am A40; clear A40
  by_cases c5 : t136 = true
  · subst c5
    have H1 : (if t137 = true then (some 0) else (some (-1))) = some r := by rw [if_pos rfl] at H; exact H
    clear H; have H := H1; clear H1
    by_cases c6 : t137 = true
    · subst c6
      have H1 : (some 0) = some r := by rw [if_pos rfl] at H; exact H
      clear H; have H := H1; clear H1; obtain rfl := Option.some.inj H; simp only [Option.some.injEq, Prod.mk.injEq] at H; obtain ⟨rfl⟩ := H
      go_enter Tryd.func53, Tryd.ntmps53
      go_wp2_with (first | ((with_reducible refine gate_callee (f := 59) rfl ?_); refine goesL_ (some 8) rfl rfl Tryd.func59 (by kernel_rfl) rfl #[.int .i64 a0] rfl ap1 ?_; (with_reducible refine (cmp_isNaN_int64.calls a0 true _ A3.out).mono ?_); rintro e w' ⟨rfl, ⟨nd, rfl⟩⟩; refine ⟨_, rfl, ?_⟩) | ((with_reducible refine gate_callee (f := 59) rfl ?_); refine goesL_ (some 10) rfl rfl Tryd.func59 (by kernel_rfl) rfl #[.int .i64 a1] rfl ap1 ?_; (with_reducible refine (cmp_isNaN_int64.calls a1 true _ A4.out).mono ?_); rintro e w' ⟨rfl, ⟨nd, rfl⟩⟩; refine ⟨_, rfl, ?_⟩))
      go_ret
      exact ⟨ap3, ap5⟩
    · replace c6 := Bool.eq_false_iff.mpr c6
      subst c6
      have H1 : (some (-1)) = some r := by rw [if_neg (show ¬ (false = true) by decide)] at H; exact H
      clear H; have H := H1; clear H1; obtain rfl := Option.some.inj H; simp only [Option.some.injEq, Prod.mk.injEq] at H; obtain ⟨rfl⟩ := H
      go_enter Tryd.func53, Tryd.ntmps53
      go_wp2_with (first | ((with_reducible refine gate_callee (f := 59) rfl ?_); refine goesL_ (some 8) rfl rfl Tryd.func59 (by kernel_rfl) rfl #[.int .i64 a0] rfl ap1 ?_; (with_reducible refine (cmp_isNaN_int64.calls a0 true _ A3.out).mono ?_); rintro e w' ⟨rfl, ⟨nd, rfl⟩⟩; refine ⟨_, rfl, ?_⟩) | ((with_reducible refine gate_callee (f := 59) rfl ?_); refine goesL_ (some 10) rfl rfl Tryd.func59 (by kernel_rfl) rfl #[.int .i64 a1] rfl ap1 ?_; (with_reducible refine (cmp_isNaN_int64.calls a1 false _ A4.out).mono ?_); rintro e w' ⟨rfl, ⟨nd, rfl⟩⟩; refine ⟨_, rfl, ?_⟩))
      go_ret
      exact ⟨ap3, ap5⟩
  · replace c5 := Bool.eq_false_iff.mpr c5
    subst c5
    have H1 : (if t137 = true then (some 1) else (if a0 < a1 then (some (-1)) else (if a0 > a1 then (some 1) else (some 0)))) = some r := by rw [if_neg (show ¬ (false = true) by decide)] at H; exact H
    clear H; have H := H1; clear H1
    by_cases c7 : t137 = true
    · subst c7
      have H1 : (some 1) = some r := by rw [if_pos rfl] at H; exact H
      clear H; have H := H1; clear H1; obtain rfl := Option.some.inj H; simp only [Option.some.injEq, Prod.mk.injEq] at H; obtain ⟨rfl⟩ := H
      go_enter Tryd.func53, Tryd.ntmps53
      go_wp2_with (first | ((with_reducible refine gate_callee (f := 59) rfl ?_); refine goesL_ (some 8) rfl rfl Tryd.func59 (by kernel_rfl) rfl #[.int .i64 a0] rfl ap1 ?_; (with_reducible refine (cmp_isNaN_int64.calls a0 false _ A3.out).mono ?_); rintro e w' ⟨rfl, ⟨nd, rfl⟩⟩; refine ⟨_, rfl, ?_⟩) | ((with_reducible refine gate_callee (f := 59) rfl ?_); refine goesL_ (some 10) rfl rfl Tryd.func59 (by kernel_rfl) rfl #[.int .i64 a1] rfl ap1 ?_; (with_reducible refine (cmp_isNaN_int64.calls a1 true _ A4.out).mono ?_); rintro e w' ⟨rfl, ⟨nd, rfl⟩⟩; refine ⟨_, rfl, ?_⟩))
      go_ret
      exact ⟨ap3, ap5⟩
    · replace c7 := Bool.eq_false_iff.mpr c7
      subst c7
      have H1 : (if a0 < a1 then (some (-1)) else (if a0 > a1 then (some 1) else (some 0))) = some r := by rw [if_neg (show ¬ (false = true) by decide)] at H; exact H
      clear H; have H := H1; clear H1
      by_cases c8 : a0 < a1
      · rw [if_pos c8] at H
        have c8b0 : decide (a0 < a1) = true := decide_eq_true c8; clear c8; obtain rfl := Option.some.inj H; simp only [Option.some.injEq, Prod.mk.injEq] at H; obtain ⟨rfl⟩ := H
        go_enter Tryd.func53, Tryd.ntmps53
        go_wp2_with (first | ((with_reducible refine gate_callee (f := 59) rfl ?_); refine goesL_ (some 8) rfl rfl Tryd.func59 (by kernel_rfl) rfl #[.int .i64 a0] rfl ap1 ?_; (with_reducible refine (cmp_isNaN_int64.calls a0 false _ A3.out).mono ?_); rintro e w' ⟨rfl, ⟨nd, rfl⟩⟩; refine ⟨_, rfl, ?_⟩) | ((with_reducible refine gate_callee (f := 59) rfl ?_); refine goesL_ (some 10) rfl rfl Tryd.func59 (by kernel_rfl) rfl #[.int .i64 a1] rfl ap1 ?_; (with_reducible refine (cmp_isNaN_int64.calls a1 false _ A4.out).mono ?_); rintro e w' ⟨rfl, ⟨nd, rfl⟩⟩; refine ⟨_, rfl, ?_⟩))
        go_ret
        exact ⟨ap3, ap5⟩
      · rw [if_neg c8] at H
        have c8b0 : decide (a0 < a1) = false := decide_eq_false c8; clear c8
        by_cases c9 : a0 > a1
        · rw [if_pos c9] at H
          have c9b0 : decide (a1 < a0) = true := decide_eq_true c9; clear c9; obtain rfl := Option.some.inj H; simp only [Option.some.injEq, Prod.mk.injEq] at H; obtain ⟨rfl⟩ := H
          go_enter Tryd.func53, Tryd.ntmps53
          go_wp2_with (first | ((with_reducible refine gate_callee (f := 59) rfl ?_); refine goesL_ (some 8) rfl rfl Tryd.func59 (by kernel_rfl) rfl #[.int .i64 a0] rfl ap1 ?_; (with_reducible refine (cmp_isNaN_int64.calls a0 false _ A3.out).mono ?_); rintro e w' ⟨rfl, ⟨nd, rfl⟩⟩; refine ⟨_, rfl, ?_⟩) | ((with_reducible refine gate_callee (f := 59) rfl ?_); refine goesL_ (some 10) rfl rfl Tryd.func59 (by kernel_rfl) rfl #[.int .i64 a1] rfl ap1 ?_; (with_reducible refine (cmp_isNaN_int64.calls a1 false _ A4.out).mono ?_); rintro e w' ⟨rfl, ⟨nd, rfl⟩⟩; refine ⟨_, rfl, ?_⟩))
          go_ret
          exact ⟨ap3, ap5⟩
        · rw [if_neg c9] at H
          have c9b0 : decide (a1 < a0) = false := decide_eq_false c9; clear c9; obtain rfl := Option.some.inj H; simp only [Option.some.injEq, Prod.mk.injEq] at H; obtain ⟨rfl⟩ := H
          go_enter Tryd.func53, Tryd.ntmps53
          go_wp2_with (first | ((with_reducible refine gate_callee (f := 59) rfl ?_); refine goesL_ (some 8) rfl rfl Tryd.func59 (by kernel_rfl) rfl #[.int .i64 a0] rfl ap1 ?_; (with_reducible refine (cmp_isNaN_int64.calls a0 false _ A3.out).mono ?_); rintro e w' ⟨rfl, ⟨nd, rfl⟩⟩; refine ⟨_, rfl, ?_⟩) | ((with_reducible refine gate_callee (f := 59) rfl ?_); refine goesL_ (some 10) rfl rfl Tryd.func59 (by kernel_rfl) rfl #[.int .i64 a1] rfl ap1 ?_; (with_reducible refine (cmp_isNaN_int64.calls a1 false _ A4.out).mono ?_); rintro e w' ⟨rfl, ⟨nd, rfl⟩⟩; refine ⟨_, rfl, ?_⟩))
          go_ret
          exact ⟨ap3, ap5⟩
def outbox_place_1.f (a0_0 : Int) (a0_1 : Int) (a0_2 : Int) (a0_3 : Int) (a0_4 : Int) (a0_5 : ByteArray) (a1 : Int) : Option (Int) := (cmp_Compare_int64.f a0_0 a1).bind fun t139 => (some t139)
set_option maxHeartbeats 8000000 in
set_option maxRecDepth 100000 in
theorem outbox_place_1.calls (a0_0 : Int) (a0_1 : Int) (a0_2 : Int) (a0_3 : Int) (a0_4 : Int) (a0_5 : ByteArray) (a1 : Int) (r : Int) (w : World) (h : outbox_place_1.f a0_0 a0_1 a0_2 a0_3 a0_4 a0_5 a1 = some r) :
    Calls Tryd.prog 52 #[.agg #[.int .i64 a0_0, .int .i64 a0_1, .int .i64 a0_2, .int .i64 a0_3, .int .i64 a0_4, .string a0_5], .int .i64 a1] w fun e w' => e = .returned (.int .i64 r) ∧ Below w.heap.size w w' := by
  have hu27 := Tryd.underlying27; have HB := am (Below.refl w.heap.size w); have H : ((cmp_Compare_int64.f a0_0 a1).bind fun t139 => (some t139)) = some r := h; clear h; replace H := obm H; obtain ⟨t139, A30, H⟩ := H; replace H : (some t139) = some r := H; have A3 := am A30; clear A30; obtain rfl := Option.some.inj H; simp only [Option.some.injEq, Prod.mk.injEq] at H; obtain ⟨rfl⟩ := H
  go_enter Tryd.func52, Tryd.ntmps52
  go_wp2_with (first | ((with_reducible refine gate_dst (N := 2) rfl ?_); refine box_event ?hg (N := 2) ?hd (cs := #[.int .i64 a0_0, .int .i64 a0_1, .int .i64 a0_2, .int .i64 a0_3, .int .i64 a0_4, .string a0_5]) (t := 27) ?hr ?_; (case hd => rfl); (case hg => rfl); (case hr => first | (go_simp; done) | (go_simp; rfl)); intro gb138 hg w4 hbox hb; have _ := am (below_step (beu HB.out) hb); have _ := am (hbox); have _ := am ((by rw [hg]; exact (below_size (beu HB.out)) : w.heap.size ≤ gb138)); have _ := am ((by rw [hg]; exact (below_size (beu HB.out)) : w.heap.size ≤ gb138)); clear HB; rename_i HB BK138 GW138 GE138; clear hb hbox hg; obtain ⟨hcz5_0, hcz5_1, hcz5_2, hcz5_3, hcz5_4, hcz5_5⟩ := cells6 BK138.out; obtain ⟨hfz5_0, hfz5_1, hfz5_2, hfz5_3, hfz5_4, hfz5_5⟩ := frozens6 BK138.out) | ((with_reducible refine gate_callee (f := 53) rfl ?_); refine goesL_ (some 8) rfl rfl Tryd.func53 (by kernel_rfl) rfl #[.int .i64 a0_0, .int .i64 a1] rfl ap1 ?_; (with_reducible refine (cmp_Compare_int64.calls a0_0 a1 t139 _ A3.out).mono ?_); rintro e w' ⟨rfl, ⟨nd, rfl⟩⟩; refine ⟨_, rfl, ?_⟩))
  go_ret
  exact ⟨ap4, beu HB.out⟩
end Go.Proofs.YtnacmehhmheooaaDoor.PAll
