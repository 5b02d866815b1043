
import Derived.Test.YtnacmehhmheooaaDoorQOutboxNamesPNamx0
namespace Go.Proofs.YtnacmehhmheooaaDoor.PNam
open Go.RowKit Go.Proofs.YtnacmehhmheooaaDoorW.PrintWords Go.Proofs.YtnacmehhmheooaaDoorW.PrintLast Go.Proofs.YtnacmehhmheooaaDoorW.PrintMore
attribute [local go_sem] max2_int min2_int max_two min_two
set_option linter.unusedVariables false
set_option linter.unusedSimpArgs false
def day_Right.f (a0 : Int) : Option (Bool) := if a0 ≥ 0 then (some (decide (a0 ≤ 1099511627776))) else (some false)
set_option maxHeartbeats 8000000 in
set_option maxRecDepth 100000 in
theorem day_Right.calls (a0 : Int) (r : Bool) (w : World) (h : day_Right.f a0 = some r) :
    Calls Tryd.prog 35 #[.int .i64 a0] w fun e w' => e = .returned (.bool r) ∧ Drawn0 w w' := by
  have H : (if a0 ≥ 0 then (some (decide (a0 ≤ 1099511627776))) else (some false)) = some r := h; clear h
  by_cases c2 : a0 ≥ 0
  · rw [if_pos c2] at H
    have c2b0 : decide (0 ≤ a0) = true := decide_eq_true c2; clear c2; obtain rfl := Option.some.inj H; simp only [Option.some.injEq, Prod.mk.injEq] at H; obtain ⟨rfl⟩ := H
    go_enter Tryd.func35, Tryd.ntmps35
    go_wp2
    go_ret
    exact ⟨ap3, ap5⟩
  · rw [if_neg c2] at H
    have c2b0 : decide (0 ≤ a0) = false := decide_eq_false c2; clear c2; obtain rfl := Option.some.inj H; simp only [Option.some.injEq, Prod.mk.injEq] at H; obtain ⟨rfl⟩ := H
    go_enter Tryd.func35, Tryd.ntmps35
    go_wp2
    go_ret
    exact ⟨ap3, ap5⟩
def tally_Right.f (a0 : Int) : Option (Bool) := if a0 ≥ 0 then (some (decide (a0 ≤ 1000000000000))) else (some false)
set_option maxHeartbeats 8000000 in
set_option maxRecDepth 100000 in
theorem tally_Right.calls (a0 : Int) (r : Bool) (w : World) (h : tally_Right.f a0 = some r) :
    Calls Tryd.prog 48 #[.int .i64 a0] w fun e w' => e = .returned (.bool r) ∧ Drawn0 w w' := by
  have H : (if a0 ≥ 0 then (some (decide (a0 ≤ 1000000000000))) else (some false)) = some r := h; clear h
  by_cases c2 : a0 ≥ 0
  · rw [if_pos c2] at H
    have c2b0 : decide (0 ≤ a0) = true := decide_eq_true c2; clear c2; obtain rfl := Option.some.inj H; simp only [Option.some.injEq, Prod.mk.injEq] at H; obtain ⟨rfl⟩ := H
    go_enter Tryd.func48, Tryd.ntmps48
    go_wp2
    go_ret
    exact ⟨ap3, ap5⟩
  · rw [if_neg c2] at H
    have c2b0 : decide (0 ≤ a0) = false := decide_eq_false c2; clear c2; obtain rfl := Option.some.inj H; simp only [Option.some.injEq, Prod.mk.injEq] at H; obtain ⟨rfl⟩ := H
    go_enter Tryd.func48, Tryd.ntmps48
    go_wp2
    go_ret
    exact ⟨ap3, ap5⟩
def outbox_batched.f (a0 : Int) : Option (Bool) := if a0 = 3 then (some true) else (some (a0 == 4))
set_option maxHeartbeats 8000000 in
set_option maxRecDepth 100000 in
theorem outbox_batched.calls (a0 : Int) (r : Bool) (w : World) (h : outbox_batched.f a0 = some r) :
    Calls Tryd.prog 49 #[.int .i64 a0] w fun e w' => e = .returned (.bool r) ∧ Drawn0 w w' := by
  have H : (if a0 = 3 then (some true) else (some (a0 == 4))) = some r := h; clear h
  by_cases c2 : a0 = 3
  · rw [if_pos c2] at H
    have c2b0 : (a0 == 3) = true := beq_iff_eq.mpr c2; have c2b1 : (a0 != 3) = false := bne_eq_false_iff_eq.mpr c2; clear c2; obtain rfl := Option.some.inj H; simp only [Option.some.injEq, Prod.mk.injEq] at H; obtain ⟨rfl⟩ := H
    go_enter Tryd.func49, Tryd.ntmps49
    go_wp2
    go_ret
    exact ⟨ap3, ap5⟩
  · rw [if_neg c2] at H
    have c2b0 : (a0 == 3) = false := beq_eq_false_iff_ne.mpr c2; have c2b1 : (a0 != 3) = true := bne_iff_ne.mpr c2; obtain rfl := Option.some.inj H; simp only [Option.some.injEq, Prod.mk.injEq] at H; obtain ⟨rfl⟩ := H
    go_enter Tryd.func49, Tryd.ntmps49
    go_wp2
    go_ret
    exact ⟨ap3, ap5⟩
def label_letter.f (a0 : Int) : Option (Bool) := if 97 ≤ a0 then (if a0 ≤ 122 then (some true) else (if 945 ≤ a0 then (some (decide (a0 ≤ 969))) else (some false))) else (if 945 ≤ a0 then (some (decide (a0 ≤ 969))) else (some false))
set_option maxHeartbeats 8000000 in
set_option maxRecDepth 100000 in
theorem label_letter.calls (a0 : Int) (r : Bool) (w : World) (h : label_letter.f a0 = some r) :
    Calls Tryd.prog 61 #[.int .i32 a0] w fun e w' => e = .returned (.bool r) ∧ Drawn0 w w' := by
  have H : (if 97 ≤ a0 then (if a0 ≤ 122 then (some true) else (if 945 ≤ a0 then (some (decide (a0 ≤ 969))) else (some false))) else (if 945 ≤ a0 then (some (decide (a0 ≤ 969))) else (some false))) = some r := h; clear h
  by_cases c2 : 97 ≤ a0
  · rw [if_pos c2] at H
    have c2b0 : decide (97 ≤ a0) = true := decide_eq_true c2; clear c2
    by_cases c3 : a0 ≤ 122
    · rw [if_pos c3] at H
      have c3b0 : decide (a0 ≤ 122) = true := decide_eq_true c3; clear c3; obtain rfl := Option.some.inj H; simp only [Option.some.injEq, Prod.mk.injEq] at H; obtain ⟨rfl⟩ := H
      go_enter Tryd.func61, Tryd.ntmps61
      go_wp2
      go_ret
      exact ⟨ap3, ap5⟩
    · rw [if_neg c3] at H
      have c3b0 : decide (a0 ≤ 122) = false := decide_eq_false c3; clear c3
      by_cases c4 : 945 ≤ a0
      · rw [if_pos c4] at H
        have c4b0 : decide (945 ≤ a0) = true := decide_eq_true c4; clear c4; obtain rfl := Option.some.inj H; simp only [Option.some.injEq, Prod.mk.injEq] at H; obtain ⟨rfl⟩ := H
        go_enter Tryd.func61, Tryd.ntmps61
        go_wp2
        go_ret
        exact ⟨ap3, ap5⟩
      · rw [if_neg c4] at H
        have c4b0 : decide (945 ≤ a0) = false := decide_eq_false c4; clear c4; obtain rfl := Option.some.inj H; simp only [Option.some.injEq, Prod.mk.injEq] at H; obtain ⟨rfl⟩ := H
        go_enter Tryd.func61, Tryd.ntmps61
        go_wp2
        go_ret
        exact ⟨ap3, ap5⟩
  · rw [if_neg c2] at H
    have c2b0 : decide (97 ≤ a0) = false := decide_eq_false c2; clear c2
    by_cases c5 : 945 ≤ a0
    · rw [if_pos c5] at H
      have c5b0 : decide (945 ≤ a0) = true := decide_eq_true c5; clear c5; obtain rfl := Option.some.inj H; simp only [Option.some.injEq, Prod.mk.injEq] at H; obtain ⟨rfl⟩ := H
      go_enter Tryd.func61, Tryd.ntmps61
      go_wp2
      go_ret
      exact ⟨ap3, ap5⟩
    · rw [if_neg c5] at H
      have c5b0 : decide (945 ≤ a0) = false := decide_eq_false c5; clear c5; obtain rfl := Option.some.inj H; simp only [Option.some.injEq, Prod.mk.injEq] at H; obtain ⟨rfl⟩ := H
      go_enter Tryd.func61, Tryd.ntmps61
      go_wp2
      go_ret
      exact ⟨ap3, ap5⟩
def label_digit.f (a0 : Int) : Option (Bool) := if 48 ≤ a0 then (some (decide (a0 ≤ 57))) else (some false)
set_option maxHeartbeats 8000000 in
set_option maxRecDepth 100000 in
theorem label_digit.calls (a0 : Int) (r : Bool) (w : World) (h : label_digit.f a0 = some r) :
    Calls Tryd.prog 62 #[.int .i32 a0] w fun e w' => e = .returned (.bool r) ∧ Drawn0 w w' := by
  have H : (if 48 ≤ a0 then (some (decide (a0 ≤ 57))) else (some false)) = some r := h; clear h
  by_cases c2 : 48 ≤ a0
  · rw [if_pos c2] at H
    have c2b0 : decide (48 ≤ a0) = true := decide_eq_true c2; clear c2; obtain rfl := Option.some.inj H; simp only [Option.some.injEq, Prod.mk.injEq] at H; obtain ⟨rfl⟩ := H
    go_enter Tryd.func62, Tryd.ntmps62
    go_wp2
    go_ret
    exact ⟨ap3, ap5⟩
  · rw [if_neg c2] at H
    have c2b0 : decide (48 ≤ a0) = false := decide_eq_false c2; clear c2; obtain rfl := Option.some.inj H; simp only [Option.some.injEq, Prod.mk.injEq] at H; obtain ⟨rfl⟩ := H
    go_enter Tryd.func62, Tryd.ntmps62
    go_wp2
    go_ret
    exact ⟨ap3, ap5⟩
def label_Signs.f (a0 : ByteArray) : Option (Int) := if a0.size ≤ 140737488351232 then some (Go.Proofs.YtnacmehhmheooaaDoor.Lab.signs a0) else none
theorem label_letter_nat (c : Nat) : label_letter.f (c : Int) = some (Go.Proofs.YtnacmehhmheooaaDoor.Lab.letter c) := by
  unfold label_letter.f Go.Proofs.YtnacmehhmheooaaDoor.Lab.letter
  by_cases h1 : 97 ≤ c
  · rw [if_pos (by omega)]
    by_cases h2 : c ≤ 122
    · rw [if_pos (by omega)]; simp [h1, h2]
    · rw [if_neg (by omega)]
      by_cases h3 : 945 ≤ c
      · rw [if_pos (by omega)]; simp [h2, h3]; omega
      · rw [if_neg (by omega)]; simp [h2, h3]
  · rw [if_neg (by omega), if_neg (by omega)]
    have h3 : ¬ 945 ≤ c := by omega
    simp [h1, h3]
theorem label_digit_nat (c : Nat) : label_digit.f (c : Int) = some (decide (48 ≤ c) && decide (c ≤ 57)) := by
  unfold label_digit.f
  by_cases h1 : 48 ≤ c
  · rw [if_pos (by omega)]; simp [h1]; omega
  · rw [if_neg (by omega)]; simp [h1]
set_option maxHeartbeats 8000000 in
set_option maxRecDepth 100000 in
theorem label_Signs.calls (a0 : ByteArray) (r : Int) (w : World) (hT : Tabs w) (h : label_Signs.f a0 = some r) :
    Calls Tryd.prog 58 #[.string a0] w fun e w' => e = .returned (.int .i64 r) ∧ Below w.heap.size w w' := by
  have hsz : a0.size ≤ 140737488351232 := by
    by_cases c : a0.size ≤ 140737488351232
    · exact c
    · rw [label_Signs.f, if_neg c] at h; cases h
  obtain rfl : Go.Proofs.YtnacmehhmheooaaDoor.Lab.signs a0 = r := by rw [label_Signs.f, if_pos hsz] at h; exact Option.some.inj h
  clear h
  unfold Go.Proofs.YtnacmehhmheooaaDoor.Lab.signs
  obtain ⟨ANS, hANS⟩ : ∃ ANS, Go.Proofs.YtnacmehhmheooaaDoor.Lab.scan a0 a0.size 0 0 = ANS := ⟨_, rfl⟩
  have hA0 : -1 ≤ ANS ∧ ANS ≤ 140737488351232 := by
    rw [← hANS]; have := Go.Proofs.YtnacmehhmheooaaDoor.Lab.scan_le a0 a0.size 0 0; omega
  rw [hANS]; obtain ⟨RES, hRES⟩ : ∃ RES : Int, (if ANS ≤ 0 ∨ 16 < ANS ∨ Lib.validD a0.data.toList = false then -1 else ANS) = RES := ⟨_, rfl⟩; rw [hRES]; have HR := am hRES; clear hRES; have HTA := am hT; clear hT
  go_enter Tryd.func58, Tryd.ntmps58
  go_wp2
  go_loopg [3] a0.size (fun g s3 wx => ∃ (v : World) (pos n : Nat), wx = v.iter a0 pos ∧ v.heap.size = w.heap.size ∧ Below w.heap.size w v ∧ s3 = .int .i64 (n : Int) ∧ n ≤ pos ∧ a0.size ≤ pos + g ∧ Go.Proofs.YtnacmehhmheooaaDoor.Lab.scan a0 g pos n = ANS)
  case atStart => exact ⟨w, 0, 0, rfl, rfl, Below.refl _ _, rfl, by omega, by omega, hANS⟩
  case round =>
    obtain ⟨v, pos, n, rfl, hv, hbv, rfl, hnp, hpg, hsc⟩ := hrel; clear hANS
    by_cases hp : pos < a0.size
    · obtain ⟨g', rfl⟩ : ∃ g', gk = g' + 1 := ⟨gk - 1, by omega⟩
      rw [Go.Proofs.YtnacmehhmheooaaDoor.Lab.scan_step a0 g' pos n hp] at hsc
      have hnx := fun ty => run_next_any (P := Tryd.prog) v a0 pos ty hp
      rw [hv] at hnx; have hw1 := Lib.width_pos a0 pos; generalize Utf8.decode a0 pos = d at hsc hnx hw1; obtain ⟨c, wd⟩ := d; have hL := label_letter_nat c; have hD := label_digit_nat c; simp only at hsc hnx hw1; have Hsc := am hsc; clear hsc; have Hbv := am hbv; clear hbv
      have hwr : IntKind.i64.wrap ((n : Int) + 1) = (n : Int) + 1 := by rw [IntKind.wrap_i64]; omega
      cases cL : Go.Proofs.YtnacmehhmheooaaDoor.Lab.letter c
      · rw [cL] at hL
        have Hc := am cL; clear cL
        by_cases n0 : n = 0
        · subst n0
          go_wp2_with (first | (go_at_call 61; refine (label_letter.calls (c : Int) _ _ hL).mono ?_; rintro e w' ⟨rfl, nd, rfl⟩) | (go_at_call 62; refine (label_digit.calls (c : Int) _ _ hD).mono ?_; rintro e w' ⟨rfl, nd2, rfl⟩))
          go_ret
          have h2 := Hsc.out; rw [Hc.out] at h2; simp at h2; have h3 := HR.out; rw [if_pos (by omega)] at h3; subst h3; exact ⟨rfl, pw_below_drewN (show Below w.heap.size w (v.iter a0 (pos + wd)) from Hbv.out.alloc (Nat.le_of_eq hv.symm) _) nd⟩
        · have n1 : ((n : Int) == 0) = false := by simp [n0]
          have HN := am (show decide (0 < n) = true by simp; omega)
          cases cD : (decide (48 ≤ c) && decide (c ≤ 57))
          · rw [cD] at hD
            have Hd := am cD; clear cD
            by_cases c45 : c = 45
            · have m1 : ((c : Int) != 45) = false := by simp [c45]
              have H45 := am c45; clear c45
              go_wp2_with (first | (go_at_call 61; refine (label_letter.calls (c : Int) _ _ hL).mono ?_; rintro e w' ⟨rfl, nd, rfl⟩) | (go_at_call 62; refine (label_digit.calls (c : Int) _ _ hD).mono ?_; rintro e w' ⟨rfl, nd2, rfl⟩))
              go_roundg g'
              case measure => omega
              case rel => exact ⟨v.drewN (nd + nd2), pos + wd, n + 1, rfl, hv, pw_below_drewN Hbv.out (nd + nd2), congrArg (Value.int .i64) (by omega), by omega, by omega, by have h2 := Hsc.out; rw [Hc.out, HN.out, show Go.Proofs.YtnacmehhmheooaaDoor.Lab.behind c = true by unfold Go.Proofs.YtnacmehhmheooaaDoor.Lab.behind; rw [Hd.out, H45.out]; rfl] at h2; exact h2⟩
            · have m1 : ((c : Int) != 45) = true := by simp; omega
              have H45 := am c45; clear c45
              go_wp2_with (first | (go_at_call 61; refine (label_letter.calls (c : Int) _ _ hL).mono ?_; rintro e w' ⟨rfl, nd, rfl⟩) | (go_at_call 62; refine (label_digit.calls (c : Int) _ _ hD).mono ?_; rintro e w' ⟨rfl, nd2, rfl⟩))
              go_ret
              have h2 := Hsc.out; rw [Hc.out, HN.out, show Go.Proofs.YtnacmehhmheooaaDoor.Lab.behind c = false by unfold Go.Proofs.YtnacmehhmheooaaDoor.Lab.behind; rw [Hd.out, decide_eq_false H45.out]; rfl] at h2; simp at h2; have h3 := HR.out; rw [if_pos (by omega)] at h3; subst h3; exact ⟨rfl, pw_below_drewN (show Below w.heap.size w (v.iter a0 (pos + wd)) from Hbv.out.alloc (Nat.le_of_eq hv.symm) _) (nd + nd2)⟩
          · rw [cD] at hD
            have Hd := am cD; clear cD
            go_wp2_with (first | (go_at_call 61; refine (label_letter.calls (c : Int) _ _ hL).mono ?_; rintro e w' ⟨rfl, nd, rfl⟩) | (go_at_call 62; refine (label_digit.calls (c : Int) _ _ hD).mono ?_; rintro e w' ⟨rfl, nd2, rfl⟩))
            go_roundg g'
            case measure => omega
            case rel => exact ⟨v.drewN (nd + nd2), pos + wd, n + 1, rfl, hv, pw_below_drewN Hbv.out (nd + nd2), congrArg (Value.int .i64) (by omega), by omega, by omega, by have h2 := Hsc.out; rw [Hc.out, HN.out, show Go.Proofs.YtnacmehhmheooaaDoor.Lab.behind c = true by unfold Go.Proofs.YtnacmehhmheooaaDoor.Lab.behind; rw [Hd.out]; rfl] at h2; exact h2⟩
      · rw [cL] at hL
        have Hc := am cL; clear cL
        go_wp2_with (first | (go_at_call 61; refine (label_letter.calls (c : Int) _ _ hL).mono ?_; rintro e w' ⟨rfl, nd, rfl⟩) | (go_at_call 62; refine (label_digit.calls (c : Int) _ _ hD).mono ?_; rintro e w' ⟨rfl, nd2, rfl⟩))
        go_roundg g'
        case measure => omega
        case rel => exact ⟨v.drewN nd, pos + wd, n + 1, rfl, hv, pw_below_drewN Hbv.out nd, congrArg (Value.int .i64) (by omega), by omega, by omega, by have h2 := Hsc.out; rw [Hc.out] at h2; exact h2⟩
    · have hnx := fun ty => run_next_end (P := Tryd.prog) v a0 pos ty hp
      rw [hv] at hnx; rw [Go.Proofs.YtnacmehhmheooaaDoor.Lab.scan_end a0 gk pos n hp] at hsc; have Hbv := am hbv; clear hbv; have Hb2 := am (show Below w.heap.size w (v.iter a0 pos) from Hbv.out.alloc (Nat.le_of_eq hv.symm) _); clear hA0 hpg hp
      by_cases n0 : n = 0
      · subst n0
        go_wp2_with fail
        go_ret
        have h3 := HR.out; rw [if_pos (by omega)] at h3; subst h3; exact ⟨rfl, Hb2.out⟩
      · have n1 : ((n : Int) == 0) = false := by simp [n0]
        by_cases n16 : 16 < n
        · have n2 : (16 : Int) < (n : Int) := by omega
          go_wp2_with fail
          go_ret
          have h3 := HR.out; rw [if_pos (by omega)] at h3; subst h3; exact ⟨rfl, Hb2.out⟩
        · have n2 : decide ((16 : Int) < (n : Int)) = false := decide_eq_false (by omega)
          have cV := am (show Calls Tryd.prog 63 #[.string a0] (v.iter a0 pos) _ from Any.utf8_ValidString Tryd.laysValid a0 (v.iter a0 pos) (by omega) (Tabs.u8 (Tabs.below HTA.out Hb2.out))); have Hsc := am hsc; have Hn := am (show (n : Int) ≤ 16 ∧ 0 < (n : Int) by omega); clear hsc; have HV := am (rfl : Lib.validD a0.data.toList = Lib.validD a0.data.toList); generalize hVV : Lib.validD a0.data.toList = V at cV HR; clear HV
          cases V
          · go_wp2_with (go_at_call 63; refine cV.out.mono ?_; rintro e w' ⟨rfl, hb⟩)
            go_ret
            have h3 := HR.out; rw [if_pos (by simp)] at h3; subst h3; exact ⟨rfl, below_step Hb2.out hb⟩
          · go_wp2_with (go_at_call 63; refine cV.out.mono ?_; rintro e w' ⟨rfl, hb⟩)
            go_ret
            have h3 := HR.out; have h4 := Hsc.out; have h5 := Hn.out
            rw [if_neg (by rintro (h | h | h); · omega
                           · omega
                           · cases h)] at h3
            subst h3; subst h4; exact ⟨rfl, below_step Hb2.out hb⟩
def label_Right.f (a0 : ByteArray) : Option (Bool) := (label_Signs.f a0).bind fun t108 => (some (decide (t108 > 0)))
set_option maxHeartbeats 8000000 in
set_option maxRecDepth 100000 in
theorem label_Right.calls (a0 : ByteArray) (r : Bool) (w : World) (hT : Tabs w) (h : label_Right.f a0 = some r) :
    Calls Tryd.prog 50 #[.string a0] w fun e w' => e = .returned (.bool r) ∧ Below w.heap.size w w' := by
  have HT := am hT; clear hT; have HB := am (Below.refl w.heap.size w); have H : ((label_Signs.f a0).bind fun t108 => (some (decide (t108 > 0)))) = some r := h; clear h; replace H := obm H; obtain ⟨t108, A20, H⟩ := H; replace H : (some (decide (t108 > 0))) = some r := H; have A2 := am A20; clear A20; obtain rfl := Option.some.inj H; simp only [Option.some.injEq, Prod.mk.injEq] at H; obtain ⟨rfl⟩ := H
  go_enter Tryd.func50, Tryd.ntmps50
  go_wp2_with (first | ((with_reducible refine gate_callee (f := 58) rfl ?_); refine goesL_ (some 4) rfl rfl Tryd.func58 (by kernel_rfl) rfl #[.string a0] rfl ap1 ?_; (with_reducible refine (label_Signs.calls a0 t108 _ ?side1 A2.out).mono ?_); (case side1 => first | (with_reducible exact HT.out) | exact Tabs.below HT.out (beu HB.out)); rintro e w3 ⟨rfl, hb⟩; refine ⟨_, rfl, ?_⟩; have _ := am (below_step (beu HB.out) hb); clear HB; rename_i HB; (try clear hb)))
  go_ret
  exact ⟨ap4, beu HB.out⟩
def outbox_one.j0 : Nat → Bool → Int → Int → Int → Int → Int → ByteArray → Option (Bool)
  | 0, _, _, _, _, _, _, _ => none
  | k + 1, x37, X0, X1, X2, X3, X4, X5 => if x37 = true then (some false) else ((outbox_batched.f X3).bind fun t112 => (if t112 = true then (if X1 ≥ 1 then ((tally_Right.f X1).bind fun t113 => (if t113 = true then (some (X5.toList == ([] : List UInt8))) else (some false))) else (some false)) else (if X1 = 0 then ((label_Right.f X5).bind fun t114 => (some t114)) else (some false))))
def outbox_one.f (k : Nat) (a0_0 : Int) (a0_1 : Int) (a0_2 : Int) (a0_3 : Int) (a0_4 : Int) (a0_5 : ByteArray) : Option (Bool) := if a0_0 < 1 then (outbox_one.j0 k true a0_0 a0_1 a0_2 a0_3 a0_4 a0_5) else ((tally_Right.f a0_0).bind fun t110 => (if t110 = true then ((day_Right.f a0_2).bind fun t111 => (if t111 = true then (if a0_4 < 0 then (outbox_one.j0 k true a0_0 a0_1 a0_2 a0_3 a0_4 a0_5) else (if a0_4 > 1000000 then (outbox_one.j0 k true a0_0 a0_1 a0_2 a0_3 a0_4 a0_5) else (if a0_3 < 1 then (outbox_one.j0 k true a0_0 a0_1 a0_2 a0_3 a0_4 a0_5) else (outbox_one.j0 k (decide (a0_3 > 7)) a0_0 a0_1 a0_2 a0_3 a0_4 a0_5)))) else (outbox_one.j0 k true a0_0 a0_1 a0_2 a0_3 a0_4 a0_5))) else (outbox_one.j0 k true a0_0 a0_1 a0_2 a0_3 a0_4 a0_5)))
set_option maxHeartbeats 8000000 in
set_option maxRecDepth 100000 in
theorem outbox_one.calls (k : Nat) (a0_0 : Int) (a0_1 : Int) (a0_2 : Int) (a0_3 : Int) (a0_4 : Int) (a0_5 : ByteArray) (r : Bool) (w : World) (hT : Tabs w) (h : outbox_one.f k a0_0 a0_1 a0_2 a0_3 a0_4 a0_5 = some r) :
    Calls Tryd.prog 31 #[.agg #[.int .i64 a0_0, .int .i64 a0_1, .int .i64 a0_2, .int .i64 a0_3, .int .i64 a0_4, .string a0_5]] w fun e w' => e = .returned (.bool r) ∧ Below w.heap.size w w' := by
  have hu27 := Tryd.underlying27; have HT := am hT; clear hT; have HB := am (Below.refl w.heap.size w); have H : (if a0_0 < 1 then (outbox_one.j0 k true a0_0 a0_1 a0_2 a0_3 a0_4 a0_5) else ((tally_Right.f a0_0).bind fun t110 => (if t110 = true then ((day_Right.f a0_2).bind fun t111 => (if t111 = true then (if a0_4 < 0 then (outbox_one.j0 k true a0_0 a0_1 a0_2 a0_3 a0_4 a0_5) else (if a0_4 > 1000000 then (outbox_one.j0 k true a0_0 a0_1 a0_2 a0_3 a0_4 a0_5) else (if a0_3 < 1 then (outbox_one.j0 k true a0_0 a0_1 a0_2 a0_3 a0_4 a0_5) else (outbox_one.j0 k (decide (a0_3 > 7)) a0_0 a0_1 a0_2 a0_3 a0_4 a0_5)))) else (outbox_one.j0 k true a0_0 a0_1 a0_2 a0_3 a0_4 a0_5))) else (outbox_one.j0 k true a0_0 a0_1 a0_2 a0_3 a0_4 a0_5)))) = some r := h; clear h; have HC2 := am H; clear H
  go_enter Tryd.func31, Tryd.ntmps31
  go_upto_region 1 with (first | ((with_reducible refine gate_dst (N := 1) rfl ?_); refine box_event ?hg (N := 1) ?hd (cs := #[.int .i64 a0_0, .int .i64 a0_1, .int .i64 a0_2, .int .i64 a0_3, .int .i64 a0_4, .string a0_5]) (t := 27) ?hr ?_; (case hd => rfl); (case hg => rfl); (case hr => first | (go_simp; done) | (go_simp; rfl)); intro gb109 hg w3 hbox hb; have _ := am (below_step (beu HB.out) hb); have _ := am (hbox); have _ := am ((by rw [hg]; exact (below_size (beu HB.out)) : w.heap.size ≤ gb109)); have _ := am ((by rw [hg]; exact (below_size (beu HB.out)) : w.heap.size ≤ gb109)); clear HB; rename_i HB BK109 GW109 GE109; clear hb hbox hg))
  (try simp only [Act.put, sA, sB, sC])
  go_cut [37] (fun v37 wc => ∃ (kq : Nat) (x37_1 : Bool), v37 = .bool x37_1 ∧ Aside0 (outbox_one.j0 kq x37_1 a0_0 a0_1 a0_2 a0_3 a0_4 a0_5 = some r) ∧ Aside0 (kq ≤ k) ∧ Aside0 (wc.heap[gb109]? = some (.cells #[.int .i64 a0_0, .int .i64 a0_1, .int .i64 a0_2, .int .i64 a0_3, .int .i64 a0_4, .string a0_5] 27 (0, 0))) ∧ Aside0 (Below w.heap.size w wc))
  case first =>
    have H := HC2.out; clear HC2
    by_cases c4 : a0_0 < 1
    · rw [if_pos c4] at H
      have c4b0 : decide (a0_0 < 1) = true := decide_eq_true c4; clear c4
      (first | rw [c4b0] | (simp only [i64_w, i32_w]; rw [c4b0]) | skip)
      have H' := am H; clear H; obtain ⟨hcz5_0, hcz5_1, hcz5_2, hcz5_3, hcz5_4, hcz5_5⟩ := cells6 BK109.out; obtain ⟨hfz5_0, hfz5_1, hfz5_2, hfz5_3, hfz5_4, hfz5_5⟩ := frozens6 BK109.out
      go_wp2
      go_meet
      case rel => exact ⟨_, (true), ap3, H', ⟨by first | omega | exact Nat.le_refl _⟩, ⟨by refine bu ?_; exact BK109.out⟩, ⟨beu HB.out⟩⟩
    · rw [if_neg c4] at H
      have c4b0 : decide (a0_0 < 1) = false := decide_eq_false c4; clear c4
      (first | rw [c4b0] | (simp only [i64_w, i32_w]; rw [c4b0]) | skip)
      replace H := obm H; obtain ⟨t110, A60, H⟩ := H; replace H : (if t110 = true then ((day_Right.f a0_2).bind fun t111 => (if t111 = true then (if a0_4 < 0 then (outbox_one.j0 k true a0_0 a0_1 a0_2 a0_3 a0_4 a0_5) else (if a0_4 > 1000000 then (outbox_one.j0 k true a0_0 a0_1 a0_2 a0_3 a0_4 a0_5) else (if a0_3 < 1 then (outbox_one.j0 k true a0_0 a0_1 a0_2 a0_3 a0_4 a0_5) else (outbox_one.j0 k (decide (a0_3 > 7)) a0_0 a0_1 a0_2 a0_3 a0_4 a0_5)))) else (outbox_one.j0 k true a0_0 a0_1 a0_2 a0_3 a0_4 a0_5))) else (outbox_one.j0 k true a0_0 a0_1 a0_2 a0_3 a0_4 a0_5)) = some r := H; have A6 := am A60; clear A60
      by_cases c7 : t110 = true
      · subst c7
        have H1 : ((day_Right.f a0_2).bind fun t111 => (if t111 = true then (if a0_4 < 0 then (outbox_one.j0 k true a0_0 a0_1 a0_2 a0_3 a0_4 a0_5) else (if a0_4 > 1000000 then (outbox_one.j0 k true a0_0 a0_1 a0_2 a0_3 a0_4 a0_5) else (if a0_3 < 1 then (outbox_one.j0 k true a0_0 a0_1 a0_2 a0_3 a0_4 a0_5) else (outbox_one.j0 k (decide (a0_3 > 7)) a0_0 a0_1 a0_2 a0_3 a0_4 a0_5)))) else (outbox_one.j0 k true a0_0 a0_1 a0_2 a0_3 a0_4 a0_5))) = some r := by rw [if_pos rfl] at H; exact H
        clear H; have H := H1; clear H1; replace H := obm H; obtain ⟨t111, A80, H⟩ := H; replace H : (if t111 = true then (if a0_4 < 0 then (outbox_one.j0 k true a0_0 a0_1 a0_2 a0_3 a0_4 a0_5) else (if a0_4 > 1000000 then (outbox_one.j0 k true a0_0 a0_1 a0_2 a0_3 a0_4 a0_5) else (if a0_3 < 1 then (outbox_one.j0 k true a0_0 a0_1 a0_2 a0_3 a0_4 a0_5) else (outbox_one.j0 k (decide (a0_3 > 7)) a0_0 a0_1 a0_2 a0_3 a0_4 a0_5)))) else (outbox_one.j0 k true a0_0 a0_1 a0_2 a0_3 a0_4 a0_5)) = some r := H; have A8 := am A80; clear A80
        by_cases c9 : t111 = true
        · subst c9
          have H1 : (if a0_4 < 0 then (outbox_one.j0 k true a0_0 a0_1 a0_2 a0_3 a0_4 a0_5) else (if a0_4 > 1000000 then (outbox_one.j0 k true a0_0 a0_1 a0_2 a0_3 a0_4 a0_5) else (if a0_3 < 1 then (outbox_one.j0 k true a0_0 a0_1 a0_2 a0_3 a0_4 a0_5) else (outbox_one.j0 k (decide (a0_3 > 7)) a0_0 a0_1 a0_2 a0_3 a0_4 a0_5)))) = some r := by rw [if_pos rfl] at H; exact H
          clear H; have H := H1; clear H1
          by_cases c10 : a0_4 < 0
          · rw [if_pos c10] at H
            have c10b0 : decide (a0_4 < 0) = true := decide_eq_true c10; clear c10; have H' := am H; clear H; obtain ⟨hcz11_0, hcz11_1, hcz11_2, hcz11_3, hcz11_4, hcz11_5⟩ := cells6 BK109.out; obtain ⟨hfz11_0, hfz11_1, hfz11_2, hfz11_3, hfz11_4, hfz11_5⟩ := frozens6 BK109.out
            go_wp2_with (first | (go_at_call 48; (with_reducible refine (tally_Right.calls a0_0 true _ A6.out).mono ?_); rintro e w' ⟨rfl, ⟨nd, rfl⟩⟩) | (go_at_call 35; (with_reducible refine (day_Right.calls a0_2 true _ A8.out).mono ?_); rintro e w' ⟨rfl, ⟨nd, rfl⟩⟩))
            go_meet
            case rel => exact ⟨_, (true), ap3, H', ⟨by first | omega | exact Nat.le_refl _⟩, ⟨by refine bu ?_; exact BK109.out⟩, ⟨beu HB.out⟩⟩
          · rw [if_neg c10] at H
            have c10b0 : decide (a0_4 < 0) = false := decide_eq_false c10; clear c10
            by_cases c12 : a0_4 > 1000000
            · rw [if_pos c12] at H
              have c12b0 : decide (1000000 < a0_4) = true := decide_eq_true c12; clear c12; have H' := am H; clear H; obtain ⟨hcz13_0, hcz13_1, hcz13_2, hcz13_3, hcz13_4, hcz13_5⟩ := cells6 BK109.out; obtain ⟨hfz13_0, hfz13_1, hfz13_2, hfz13_3, hfz13_4, hfz13_5⟩ := frozens6 BK109.out
              go_wp2_with (first | (go_at_call 48; (with_reducible refine (tally_Right.calls a0_0 true _ A6.out).mono ?_); rintro e w' ⟨rfl, ⟨nd, rfl⟩⟩) | (go_at_call 35; (with_reducible refine (day_Right.calls a0_2 true _ A8.out).mono ?_); rintro e w' ⟨rfl, ⟨nd, rfl⟩⟩))
              go_meet
              case rel => exact ⟨_, (true), ap3, H', ⟨by first | omega | exact Nat.le_refl _⟩, ⟨by refine bu ?_; exact BK109.out⟩, ⟨beu HB.out⟩⟩
            · rw [if_neg c12] at H
              have c12b0 : decide (1000000 < a0_4) = false := decide_eq_false c12; clear c12
              by_cases c14 : a0_3 < 1
              · rw [if_pos c14] at H
                have c14b0 : decide (a0_3 < 1) = true := decide_eq_true c14; clear c14; have H' := am H; clear H; obtain ⟨hcz15_0, hcz15_1, hcz15_2, hcz15_3, hcz15_4, hcz15_5⟩ := cells6 BK109.out; obtain ⟨hfz15_0, hfz15_1, hfz15_2, hfz15_3, hfz15_4, hfz15_5⟩ := frozens6 BK109.out
                go_wp2_with (first | (go_at_call 48; (with_reducible refine (tally_Right.calls a0_0 true _ A6.out).mono ?_); rintro e w' ⟨rfl, ⟨nd, rfl⟩⟩) | (go_at_call 35; (with_reducible refine (day_Right.calls a0_2 true _ A8.out).mono ?_); rintro e w' ⟨rfl, ⟨nd, rfl⟩⟩))
                go_meet
                case rel => exact ⟨_, (true), ap3, H', ⟨by first | omega | exact Nat.le_refl _⟩, ⟨by refine bu ?_; exact BK109.out⟩, ⟨beu HB.out⟩⟩
              · rw [if_neg c14] at H
                have c14b0 : decide (a0_3 < 1) = false := decide_eq_false c14; clear c14; have H' := am H; clear H; obtain ⟨hcz16_0, hcz16_1, hcz16_2, hcz16_3, hcz16_4, hcz16_5⟩ := cells6 BK109.out; obtain ⟨hfz16_0, hfz16_1, hfz16_2, hfz16_3, hfz16_4, hfz16_5⟩ := frozens6 BK109.out
                go_wp2_with (first | (go_at_call 48; (with_reducible refine (tally_Right.calls a0_0 true _ A6.out).mono ?_); rintro e w' ⟨rfl, ⟨nd, rfl⟩⟩) | (go_at_call 35; (with_reducible refine (day_Right.calls a0_2 true _ A8.out).mono ?_); rintro e w' ⟨rfl, ⟨nd, rfl⟩⟩))
                go_meet
                case rel => exact ⟨_, (decide (a0_3 > 7)), ap3, H', ⟨by first | omega | exact Nat.le_refl _⟩, ⟨by refine bu ?_; exact BK109.out⟩, ⟨beu HB.out⟩⟩
        · replace c9 := Bool.eq_false_iff.mpr c9
          subst c9
          have H1 : (outbox_one.j0 k true a0_0 a0_1 a0_2 a0_3 a0_4 a0_5) = some r := by rw [if_neg (show ¬ (false = true) by decide)] at H; exact H
          clear H; have H := H1; clear H1; have H' := am H; clear H; obtain ⟨hcz17_0, hcz17_1, hcz17_2, hcz17_3, hcz17_4, hcz17_5⟩ := cells6 BK109.out; obtain ⟨hfz17_0, hfz17_1, hfz17_2, hfz17_3, hfz17_4, hfz17_5⟩ := frozens6 BK109.out
          go_wp2_with (first | (go_at_call 48; (with_reducible refine (tally_Right.calls a0_0 true _ A6.out).mono ?_); rintro e w' ⟨rfl, ⟨nd, rfl⟩⟩) | (go_at_call 35; (with_reducible refine (day_Right.calls a0_2 false _ A8.out).mono ?_); rintro e w' ⟨rfl, ⟨nd, rfl⟩⟩))
          go_meet
          case rel => exact ⟨_, (true), ap3, H', ⟨by first | omega | exact Nat.le_refl _⟩, ⟨by refine bu ?_; exact BK109.out⟩, ⟨beu HB.out⟩⟩
      · replace c7 := Bool.eq_false_iff.mpr c7
        subst c7
        have H1 : (outbox_one.j0 k true a0_0 a0_1 a0_2 a0_3 a0_4 a0_5) = some r := by rw [if_neg (show ¬ (false = true) by decide)] at H; exact H
        clear H; have H := H1; clear H1; have H' := am H; clear H; obtain ⟨hcz18_0, hcz18_1, hcz18_2, hcz18_3, hcz18_4, hcz18_5⟩ := cells6 BK109.out; obtain ⟨hfz18_0, hfz18_1, hfz18_2, hfz18_3, hfz18_4, hfz18_5⟩ := frozens6 BK109.out
        go_wp2_with (first | (go_at_call 48; (with_reducible refine (tally_Right.calls a0_0 false _ A6.out).mono ?_); rintro e w' ⟨rfl, ⟨nd, rfl⟩⟩))
        go_meet
        case rel => exact ⟨_, (true), ap3, H', ⟨by first | omega | exact Nat.le_refl _⟩, ⟨by refine bu ?_; exact BK109.out⟩, ⟨beu HB.out⟩⟩
  case rest =>
    clear HC2; (try clear c1); (try clear p2); (try clear c3); (try clear c4); (try clear c4b0); (try clear c7); (try clear c9); (try clear c10); (try clear c10b0); (try clear c12); (try clear c12b0); (try clear c14); (try clear c14b0); (try clear hcz11_0); (try clear hcz11_1); (try clear hcz11_2); (try clear hcz11_3); (try clear hcz11_4); (try clear hcz11_5); (try clear hcz13_0); (try clear hcz13_1); (try clear hcz13_2); (try clear hcz13_3); (try clear hcz13_4); (try clear hcz13_5); (try clear hcz15_0); (try clear hcz15_1); (try clear hcz15_2); (try clear hcz15_3); (try clear hcz15_4); (try clear hcz15_5); (try clear hcz16_0); (try clear hcz16_1); (try clear hcz16_2); (try clear hcz16_3); (try clear hcz16_4); (try clear hcz16_5); (try clear hcz17_0); (try clear hcz17_1); (try clear hcz17_2); (try clear hcz17_3); (try clear hcz17_4); (try clear hcz17_5); (try clear hcz18_0); (try clear hcz18_1); (try clear hcz18_2); (try clear hcz18_3); (try clear hcz18_4); (try clear hcz18_5); (try clear hcz5_0); (try clear hcz5_1); (try clear hcz5_2); (try clear hcz5_3); (try clear hcz5_4); (try clear hcz5_5); (try clear hfz11_0); (try clear hfz11_1); (try clear hfz11_2); (try clear hfz11_3); (try clear hfz11_4); (try clear hfz11_5); (try clear hfz13_0); (try clear hfz13_1); (try clear hfz13_2); (try clear hfz13_3); (try clear hfz13_4); (try clear hfz13_5); (try clear hfz15_0); (try clear hfz15_1); (try clear hfz15_2); (try clear hfz15_3); (try clear hfz15_4); (try clear hfz15_5); (try clear hfz16_0); (try clear hfz16_1); (try clear hfz16_2); (try clear hfz16_3); (try clear hfz16_4); (try clear hfz16_5); (try clear hfz17_0); (try clear hfz17_1); (try clear hfz17_2); (try clear hfz17_3); (try clear hfz17_4); (try clear hfz17_5); (try clear hfz18_0); (try clear hfz18_1); (try clear hfz18_2); (try clear hfz18_3); (try clear hfz18_4); (try clear hfz18_5); (try clear hfz5_0); (try clear hfz5_1); (try clear hfz5_2); (try clear hfz5_3); (try clear hfz5_4); (try clear hfz5_5); obtain ⟨kq, x37_1, rfl, HA, HJ1, BK109, HB⟩ := hcut
    cases kq with
    | zero => exact absurd HA.out (by simp [outbox_one.j0])
    | succ kj1 =>
      have H := HA.out; clear HA; simp only [outbox_one.j0] at H
      by_cases c19 : x37_1 = true
      · subst c19
        have H1 : (some false) = some r := by rw [if_pos rfl] at H; exact H
        clear H; have H := H1; clear H1; obtain rfl := Option.some.inj H; simp only [Option.some.injEq, Prod.mk.injEq] at H; obtain ⟨rfl⟩ := H
        go_wp2
        go_ret
        exact ⟨ap4, beu HB.out⟩
      · replace c19 := Bool.eq_false_iff.mpr c19
        subst c19
        have H1 : ((outbox_batched.f a0_3).bind fun t112 => (if t112 = true then (if a0_1 ≥ 1 then ((tally_Right.f a0_1).bind fun t113 => (if t113 = true then (some (a0_5.toList == ([] : List UInt8))) else (some false))) else (some false)) else (if a0_1 = 0 then ((label_Right.f a0_5).bind fun t114 => (some t114)) else (some false)))) = some r := by rw [if_neg (show ¬ (false = true) by decide)] at H; exact H
        clear H; have H := H1; clear H1; replace H := obm H; obtain ⟨t112, A200, H⟩ := H; replace H : (if t112 = true then (if a0_1 ≥ 1 then ((tally_Right.f a0_1).bind fun t113 => (if t113 = true then (some (a0_5.toList == ([] : List UInt8))) else (some false))) else (some false)) else (if a0_1 = 0 then ((label_Right.f a0_5).bind fun t114 => (some t114)) else (some false))) = some r := H; have A20 := am A200; clear A200
        by_cases c21 : t112 = true
        · subst c21
          have H1 : (if a0_1 ≥ 1 then ((tally_Right.f a0_1).bind fun t113 => (if t113 = true then (some (a0_5.toList == ([] : List UInt8))) else (some false))) else (some false)) = some r := by rw [if_pos rfl] at H; exact H
          clear H; have H := H1; clear H1
          by_cases c22 : a0_1 ≥ 1
          · rw [if_pos c22] at H
            have c22b0 : decide (1 ≤ a0_1) = true := decide_eq_true c22; clear c22; replace H := obm H; obtain ⟨t113, A230, H⟩ := H; replace H : (if t113 = true then (some (a0_5.toList == ([] : List UInt8))) else (some false)) = some r := H; have A23 := am A230; clear A230
            by_cases c24 : t113 = true
            · subst c24
              have H1 : (some (a0_5.toList == ([] : List UInt8))) = some r := by rw [if_pos rfl] at H; exact H
              clear H; have H := H1; clear H1; obtain rfl := Option.some.inj H; simp only [Option.some.injEq, Prod.mk.injEq] at H; obtain ⟨rfl⟩ := H; obtain ⟨_, _, _, _, _, _⟩ := cells6 BK109.out; obtain ⟨_, _, _, _, _, _⟩ := frozens6 BK109.out
              go_wp2_with (first | ((with_reducible refine gate_callee (f := 49) rfl ?_); refine goesL_ (some 40) rfl rfl Tryd.func49 (by kernel_rfl) rfl #[.int .i64 a0_3] rfl ap1 ?_; (with_reducible refine (outbox_batched.calls a0_3 true _ A20.out).mono ?_); rintro e w' ⟨rfl, ⟨nd, rfl⟩⟩; refine ⟨_, rfl, ?_⟩) | (go_at_call 48; (with_reducible refine (tally_Right.calls a0_1 true _ A23.out).mono ?_); rintro e w' ⟨rfl, ⟨nd, rfl⟩⟩))
              go_ret
              exact ⟨ap4, beu HB.out⟩
            · replace c24 := Bool.eq_false_iff.mpr c24
              subst c24
              have H1 : (some false) = some r := by rw [if_neg (show ¬ (false = true) by decide)] at H; exact H
              clear H; have H := H1; clear H1; obtain rfl := Option.some.inj H; simp only [Option.some.injEq, Prod.mk.injEq] at H; obtain ⟨rfl⟩ := H; obtain ⟨_, _, _, _, _, _⟩ := cells6 BK109.out; obtain ⟨_, _, _, _, _, _⟩ := frozens6 BK109.out
              go_wp2_with (first | ((with_reducible refine gate_callee (f := 49) rfl ?_); refine goesL_ (some 40) rfl rfl Tryd.func49 (by kernel_rfl) rfl #[.int .i64 a0_3] rfl ap1 ?_; (with_reducible refine (outbox_batched.calls a0_3 true _ A20.out).mono ?_); rintro e w' ⟨rfl, ⟨nd, rfl⟩⟩; refine ⟨_, rfl, ?_⟩) | (go_at_call 48; (with_reducible refine (tally_Right.calls a0_1 false _ A23.out).mono ?_); rintro e w' ⟨rfl, ⟨nd, rfl⟩⟩))
              go_ret
              exact ⟨ap4, beu HB.out⟩
          · rw [if_neg c22] at H
            have c22b0 : decide (1 ≤ a0_1) = false := decide_eq_false c22; clear c22; obtain rfl := Option.some.inj H; simp only [Option.some.injEq, Prod.mk.injEq] at H; obtain ⟨rfl⟩ := H; obtain ⟨_, _, _, _, _, _⟩ := cells6 BK109.out; obtain ⟨_, _, _, _, _, _⟩ := frozens6 BK109.out
            go_wp2_with (first | ((with_reducible refine gate_callee (f := 49) rfl ?_); refine goesL_ (some 40) rfl rfl Tryd.func49 (by kernel_rfl) rfl #[.int .i64 a0_3] rfl ap1 ?_; (with_reducible refine (outbox_batched.calls a0_3 true _ A20.out).mono ?_); rintro e w' ⟨rfl, ⟨nd, rfl⟩⟩; refine ⟨_, rfl, ?_⟩))
            go_ret
            exact ⟨ap4, beu HB.out⟩
        · replace c21 := Bool.eq_false_iff.mpr c21
          subst c21
          have H1 : (if a0_1 = 0 then ((label_Right.f a0_5).bind fun t114 => (some t114)) else (some false)) = some r := by rw [if_neg (show ¬ (false = true) by decide)] at H; exact H
          clear H; have H := H1; clear H1
          by_cases c28 : a0_1 = 0
          · rw [if_pos c28] at H
            have c28b0 : (a0_1 == 0) = true := beq_iff_eq.mpr c28; have c28b1 : (a0_1 != 0) = false := bne_eq_false_iff_eq.mpr c28; clear c28; replace H := obm H; obtain ⟨t114, A290, H⟩ := H; replace H : (some t114) = some r := H; have A29 := am A290; clear A290; obtain rfl := Option.some.inj H; simp only [Option.some.injEq, Prod.mk.injEq] at H; obtain ⟨rfl⟩ := H; obtain ⟨_, _, _, _, _, _⟩ := cells6 BK109.out; obtain ⟨_, _, _, _, _, _⟩ := frozens6 BK109.out
            go_wp2_with (first | ((with_reducible refine gate_callee (f := 49) rfl ?_); refine goesL_ (some 40) rfl rfl Tryd.func49 (by kernel_rfl) rfl #[.int .i64 a0_3] rfl ap1 ?_; (with_reducible refine (outbox_batched.calls a0_3 false _ A20.out).mono ?_); rintro e w' ⟨rfl, ⟨nd, rfl⟩⟩; refine ⟨_, rfl, ?_⟩) | (go_at_call 50; (with_reducible refine (label_Right.calls a0_5 t114 _ ?side1 A29.out).mono ?_); (case side1 => first | (with_reducible exact HT.out) | exact Tabs.below HT.out (beu HB.out)); rintro e w31 ⟨rfl, hb⟩; have _ := am (blk_below (bu BK109.out) hb); have _ := am (below_step (beu HB.out) hb); clear BK109 HB; rename_i BK109 HB; (try clear hb)))
            go_ret
            exact ⟨ap4, beu HB.out⟩
          · rw [if_neg c28] at H
            have c28b0 : (a0_1 == 0) = false := beq_eq_false_iff_ne.mpr c28; have c28b1 : (a0_1 != 0) = true := bne_iff_ne.mpr c28; obtain rfl := Option.some.inj H; simp only [Option.some.injEq, Prod.mk.injEq] at H; obtain ⟨rfl⟩ := H; obtain ⟨_, _, _, _, _, _⟩ := cells6 BK109.out; obtain ⟨_, _, _, _, _, _⟩ := frozens6 BK109.out
            go_wp2_with (first | ((with_reducible refine gate_callee (f := 49) rfl ?_); refine goesL_ (some 40) rfl rfl Tryd.func49 (by kernel_rfl) rfl #[.int .i64 a0_3] rfl ap1 ?_; (with_reducible refine (outbox_batched.calls a0_3 false _ A20.out).mono ?_); rintro e w' ⟨rfl, ⟨nd, rfl⟩⟩; refine ⟨_, rfl, ?_⟩))
            go_ret
            exact ⟨ap4, beu HB.out⟩
def api_Effect_32.f (a0 : List S27) : Option (List S27) := if a0.length < 2513169434916 then some a0 else none
set_option maxHeartbeats 4000000 in
set_option maxRecDepth 100000 in
theorem api_Effect_32.calls (A0 : Option Addr) (c0 : Nat) (l0 : List S27) (r : List S27) (w : World) (hr0 : Kd.C k27 w A0 l0.length l0) (hc0 : l0.length ≤ c0) (h : api_Effect_32.f l0 = some r) :
    Calls Tryd.prog 32 #[.slice A0 l0.length c0] w fun e w' => ∃ v0_ : Value, e = .returned (v0_) ∧ Kd.R k27 27 w' w.heap.size (fun _ => True) v0_ r ∧ Below w.heap.size w w' := by
  have hl : l0.length < 2513169434916 := by
    by_cases c : l0.length < 2513169434916
    · exact c
    · rw [api_Effect_32.f, if_neg c] at h; cases h
  obtain rfl : l0 = r := by rw [api_Effect_32.f, if_pos hl] at h; exact Option.some.inj h
  clear h; have HC := am hr0
  cases A0 with
  | none =>
    have h0 : l0 = [] := by
      cases l0 with
      | nil => rfl
      | cons x t =>
        obtain ⟨ad, c, hA, _⟩ := Kd.C_get hr0 x 0 (by omega) (by simp)
        cases hA
    subst h0; clear hr0
    have heq := fun W => Lib.run_eql_slice_nil (P := Tryd.prog) W 22 27 none 0 c0 0 0 Tryd.underlying22
    go_enter Tryd.func32, Tryd.ntmps32
    go_wp2_with fail
    go_ret
    exact ⟨.slice none 0 0, rfl, Kd.R_nil _ _ _ _ _, Below.refl _ _⟩
  | some ad =>
    clear hr0; have LM := am hl; clear hl
    have heq := fun W => Lib.run_eql_slice_nil (P := Tryd.prog) W 22 27 (some ad) l0.length c0 0 0 Tryd.underlying22
    go_enter Tryd.func32, Tryd.ntmps32
    go_wp2_with (first | ((with_reducible refine gate_dst (N := 5) rfl ?_); refine Kd.R_lit k27 w.heap.size 27 ?hg (N := 5) ?hd (xs := ([] : List S27)) (inner := []) (ok := fun _ => True) (okp := fun _ => True) ?hr ?hp (fun _ hk => hk) trivial (Below.refl _ _) (Nat.le_refl _) (by simp) ?_; (case hd => rfl); (case hg => rfl); (case hr => first | (go_simp; done) | (go_simp; rfl)); (case hp => exact (Reps.none _ _)); intro v1 w1 ho1 hb1 hg1 hn1; have HO := am ho1; have HB := am hb1; have HC1 := am (Kd.C_below HC.out hb1); clear ho1 hb1 hg1 hn1) | ((with_reducible refine gate_builtin (b := .append) (xs := #[.tmp 5, .tmp 6]) rfl ?_); at_builtin; refine Kd.R_append_rows k27 (w0 := w) w.heap.size rfl (.tmp 5) (.tmp 6) 22 27 (.agg #[(.int .i64 0), (.int .i64 0), (.int .i64 0), (.int .i64 0), (.int .i64 0), (.string ⟨#[]⟩)]) 56 rfl Tryd.underlying22 info27 rfl (by decide) (by omega) v1 [] l0 _ _ _ (fun _ => True) (fun _ => False) rfl rfl ?aO ?aR (fun _ _ h => h) (fun _ h => h.elim) ?aF ?aB ?aS ?aL ?_; (case aR => exact HC1.out); (case aB => exact HB.out); (case aF => exact (fun _ _ => trivial)); (case aO => exact HO.out); (case aS => exact HB.out.size); (case aL => have := LM.out; simp; omega); intro v2 w2 ho hb hg hat; have HO2 := am ho; have HB2 := am hb; clear ho hb hg hat))
    go_ret
    exact ⟨_, rfl, HO2.out, HB2.out⟩
def outbox_Add.f (k : Nat) (l0 : List (S27)) (a1_0 : Int) (a1_1 : Int) (a1_2 : Int) (a1_3 : Int) (a1_4 : Int) (a1_5 : ByteArray) : Option ((List (S27)) × Int) := (outbox_one.f k a1_0 a1_1 a1_2 a1_3 a1_4 a1_5).bind fun t116 => (if t116 = true then (if (l0.length : Int) > 0 then (if 0 ≤ (wrap64 ((l0.length : Int) - 1)) then (if (wrap64 ((l0.length : Int) - 1)) < (l0.length : Int) then (if ((rd_T27 l0 (wrap64 ((l0.length : Int) - 1))).f0) ≥ a1_0 then (some (([] : List (S27)), 131)) else ((api_Effect_32.f l0).bind fun t118 => ((some (([(⟨a1_0, a1_1, a1_2, a1_3, a1_4, a1_5⟩ : S27)] : List (S27)) : List (S27))).bind fun y121 => (if t118.length + y121.length < 2513169434916 then (some ((t118 ++ y121), 0)) else (none))))) else (none)) else (none)) else ((api_Effect_32.f l0).bind fun t127 => ((some (([(⟨a1_0, a1_1, a1_2, a1_3, a1_4, a1_5⟩ : S27)] : List (S27)) : List (S27))).bind fun y130 => (if t127.length + y130.length < 2513169434916 then (some ((t127 ++ y130), 0)) else (none))))) else (some (([] : List (S27)), 131)))
def outbox_Add.T1 : Bool × List (List Nat × List Nat) := (true, [([], []), ([0], [0]), ([1], [1]), ([2, 1], [2]), ([3], [3]), ([4, 3], [3, 4]), ([5, 3], [3, 5]), ([6, 3, 3], [3, 6]), ([7], [7]), ([7], [7]), ([9, 7], [7, 9]), ([10, 7], [7, 10]), ([8, 11, 7], [7, 8, 11]), ([12, 7], [7, 12]), ([13, 7], [7, 13]), ([7], [7]), ([15, 7], [7, 15]), ([14, 16, 7], [7, 14, 16]), ([7, 17, 3], [3, 7, 17]), ([3, 18], [3, 18])])
def outbox_Add.B1 : List Nat := [0, 1, 3, 7, 15, 31, 63, 127, 255, 255, 767, 1791, 4095, 8191, 16383, 255, 33023, 131071, 262143, 524287]
theorem outbox_Add.tab1 : rtab .any (opsOf Tryd.f9 1) = outbox_Add.T1 := by kernel_rfl
theorem outbox_Add.bits1 : waitsOk outbox_Add.T1.2 outbox_Add.B1 = true := by kernel_rfl
set_option maxHeartbeats 8000000 in
set_option maxRecDepth 100000 in
theorem outbox_Add.calls (k : Nat) (A0 : Option Addr) (c0 : Nat) (l0 : List (S27)) (a1_0 : Int) (a1_1 : Int) (a1_2 : Int) (a1_3 : Int) (a1_4 : Int) (a1_5 : ByteArray) (r1 : List (S27)) (r2 : Int) (w : World) (hr0 : Kd.C k27 w A0 l0.length l0) (hc0 : l0.length ≤ c0) (hT : Tabs w) (h : outbox_Add.f k l0 a1_0 a1_1 a1_2 a1_3 a1_4 a1_5 = some (r1, r2)) :
    Calls Tryd.prog 9 #[.slice A0 l0.length c0, .agg #[.int .i64 a1_0, .int .i64 a1_1, .int .i64 a1_2, .int .i64 a1_3, .int .i64 a1_4, .string a1_5]] w fun e w' => ∃ v0_ : Value, e = .returned (.tuple #[v0_, .int .i64 r2]) ∧ Kd.R k27 27 w' w.heap.size (fun _ => True) v0_ r1 ∧ Below w.heap.size w w' := by
  have hu27 := Tryd.underlying27; have HR0 := am hr0; have HC0 := am hc0; clear hr0 hc0; have HT := am hT; clear hT; have HB := am (Below.refl w.heap.size w); have H : ((outbox_one.f k a1_0 a1_1 a1_2 a1_3 a1_4 a1_5).bind fun t116 => (if t116 = true then (if (l0.length : Int) > 0 then (if 0 ≤ (wrap64 ((l0.length : Int) - 1)) then (if (wrap64 ((l0.length : Int) - 1)) < (l0.length : Int) then (if ((rd_T27 l0 (wrap64 ((l0.length : Int) - 1))).f0) ≥ a1_0 then (some (([] : List (S27)), 131)) else ((api_Effect_32.f l0).bind fun t118 => ((some (([(⟨a1_0, a1_1, a1_2, a1_3, a1_4, a1_5⟩ : S27)] : List (S27)) : List (S27))).bind fun y121 => (if t118.length + y121.length < 2513169434916 then (some ((t118 ++ y121), 0)) else (none))))) else (none)) else (none)) else ((api_Effect_32.f l0).bind fun t127 => ((some (([(⟨a1_0, a1_1, a1_2, a1_3, a1_4, a1_5⟩ : S27)] : List (S27)) : List (S27))).bind fun y130 => (if t127.length + y130.length < 2513169434916 then (some ((t127 ++ y130), 0)) else (none))))) else (some (([] : List (S27)), 131)))) = some (r1, r2) := h; clear h; replace H := obm H; obtain ⟨t116, A30, H⟩ := H; replace H : (if t116 = true then (if (l0.length : Int) > 0 then (if 0 ≤ (wrap64 ((l0.length : Int) - 1)) then (if (wrap64 ((l0.length : Int) - 1)) < (l0.length : Int) then (if ((rd_T27 l0 (wrap64 ((l0.length : Int) - 1))).f0) ≥ a1_0 then (some (([] : List (S27)), 131)) else ((api_Effect_32.f l0).bind fun t118 => ((some (([(⟨a1_0, a1_1, a1_2, a1_3, a1_4, a1_5⟩ : S27)] : List (S27)) : List (S27))).bind fun y121 => (if t118.length + y121.length < 2513169434916 then (some ((t118 ++ y121), 0)) else (none))))) else (none)) else (none)) else ((api_Effect_32.f l0).bind fun t127 => ((some (([(⟨a1_0, a1_1, a1_2, a1_3, a1_4, a1_5⟩ : S27)] : List (S27)) : List (S27))).bind fun y130 => (if t127.length + y130.length < 2513169434916 then (some ((t127 ++ y130), 0)) else (none))))) else (some (([] : List (S27)), 131))) = some (r1, r2) := H; have A3 := am A30; clear A30
  by_cases c4 : t116 = true
  · subst c4
    have H1 : (if (l0.length : Int) > 0 then (if 0 ≤ (wrap64 ((l0.length : Int) - 1)) then (if (wrap64 ((l0.length : Int) - 1)) < (l0.length : Int) then (if ((rd_T27 l0 (wrap64 ((l0.length : Int) - 1))).f0) ≥ a1_0 then (some (([] : List (S27)), 131)) else ((api_Effect_32.f l0).bind fun t118 => ((some (([(⟨a1_0, a1_1, a1_2, a1_3, a1_4, a1_5⟩ : S27)] : List (S27)) : List (S27))).bind fun y121 => (if t118.length + y121.length < 2513169434916 then (some ((t118 ++ y121), 0)) else (none))))) else (none)) else (none)) else ((api_Effect_32.f l0).bind fun t127 => ((some (([(⟨a1_0, a1_1, a1_2, a1_3, a1_4, a1_5⟩ : S27)] : List (S27)) : List (S27))).bind fun y130 => (if t127.length + y130.length < 2513169434916 then (some ((t127 ++ y130), 0)) else (none))))) = some (r1, r2) := by rw [if_pos rfl] at H; exact H
    clear H; have H := H1; clear H1
    by_cases c5 : (l0.length : Int) > 0
    · rw [if_pos c5] at H
      have c5b0 : decide (0 < (l0.length : Int)) = true := decide_eq_true c5; have c5b1 : decide (0 < l0.length) = true := decide_eq_true (by omega); clear c5; obtain ⟨ji6, hji6⟩ : ∃ j_ : Int, (wrap64 ((l0.length : Int) - 1)) = j_ := ⟨_, rfl⟩
      replace H : (if 0 ≤ (ji6) then (if (ji6) < (l0.length : Int) then (if ((rd_T27 l0 (ji6)).f0) ≥ a1_0 then (some (([] : List (S27)), 131)) else ((api_Effect_32.f l0).bind fun t118 => ((some (([(⟨a1_0, a1_1, a1_2, a1_3, a1_4, a1_5⟩ : S27)] : List (S27)) : List (S27))).bind fun y121 => (if t118.length + y121.length < 2513169434916 then (some ((t118 ++ y121), 0)) else (none))))) else (none)) else (none)) = some (r1, r2) := by first | (rw [hji6] at H; exact H) | (simp only [hji6] at H ⊢; exact H)
      (try rw [hji6] at A3)
      have hji6w : (IntKind.i64.wrap ((l0.length : Int) - 1)) = ji6 := (i64_w _).trans hji6
      by_cases c7 : 0 ≤ (ji6)
      · rw [if_pos c7] at H
        have c7b0 : decide (0 ≤ (ji6)) = true := decide_eq_true c7; clear c7
        by_cases c8 : (ji6) < (l0.length : Int)
        · rw [if_pos c8] at H
          have c8b0 : decide ((ji6) < (l0.length : Int)) = true := decide_eq_true c8; clear c8
          by_cases c9 : ((rd_T27 l0 (ji6)).f0) ≥ a1_0
          · rw [if_pos c9] at H
            have c9b0 : decide (a1_0 ≤ ((rd_T27 l0 (ji6)).f0)) = true := decide_eq_true c9; clear c9; simp only [Option.some.injEq, Prod.mk.injEq] at H; obtain ⟨rfl, rfl⟩ := H
            go_enter Tryd.func9, Tryd.ntmps9
            try go_wp2_with (first | ((with_reducible refine gate_dst (N := 3) rfl ?_); (try (refine gate_guard (by rfl) ?_; dsimp only)); refine box_event ?hg (N := 3) ?hd (cs := #[.int .i64 a1_0, .int .i64 a1_1, .int .i64 a1_2, .int .i64 a1_3, .int .i64 a1_4, .string a1_5]) (t := 27) ?hr ?_; (case hd => rfl); (case hg => rfl); (case hr => first | (go_simp; done) | (go_simp; rfl)); intro gb115 hg w10 hbox hb; have _ := am (below_step (beu HB.out) hb); have _ := am (hbox); have _ := am ((by rw [hg]; exact (below_size (beu HB.out)) : w.heap.size ≤ gb115)); have _ := am ((by rw [hg]; exact (below_size (beu HB.out)) : w.heap.size ≤ gb115)); clear HB; rename_i HB BK115 GW115 GE115; clear hb hbox hg))
            (try (rw [drewN_self w10]; generalize hq_ : World.drewN w10 _ = w10; have _ := am (blk_at hq_ BK115.out); have _ := am (below_at hq_ HB.out); clear hq_ BK115 HB; rename_i BK115 HB))
            have n0_ := am (blk_drew BK115.out); have n1_ := am (below_drew1 HB.out); clear BK115 HB; have BK115 := n0_; have HB := n1_; clear n0_ n1_; have p117 : 0 ≤ ((ji6) : Int) := of_decide_eq_true ap2; have q117 : (ji6) < (l0.length : Int) := of_decide_eq_true ap2; obtain ⟨ad117, e117, hx117_0, hx117_1, hx117_2, hx117_3, hx117_4, hx117_5⟩ := at_T27 HR0.out (ji6) p117 q117; have hw117_5 := hx117_5; have hw117_4 := hx117_4; have hw117_3 := hx117_3; have hw117_2 := hx117_2; have hw117_1 := hx117_1; have hw117_0 := hx117_0
            cases e117
            replace hx117_0 := (HB.out.cell (World.block_lt_of_cell? w _ hx117_0)).trans hx117_0; replace hx117_1 := (HB.out.cell (World.block_lt_of_cell? w _ hx117_1)).trans hx117_1; replace hx117_2 := (HB.out.cell (World.block_lt_of_cell? w _ hx117_2)).trans hx117_2; replace hx117_3 := (HB.out.cell (World.block_lt_of_cell? w _ hx117_3)).trans hx117_3; replace hx117_4 := (HB.out.cell (World.block_lt_of_cell? w _ hx117_4)).trans hx117_4; replace hx117_5 := (HB.out.cell (World.block_lt_of_cell? w _ hx117_5)).trans hx117_5; replace p117 := eq_true p117; replace q117 := eq_true q117
            refine start_ (n := 20) (S := fun w' => w'.cell? ⟨gb115, 0, none⟩ = some (.int .i64 a1_0) ∧ w'.cell? ⟨gb115, 1, none⟩ = some (.int .i64 a1_1) ∧ w'.cell? ⟨gb115, 2, none⟩ = some (.int .i64 a1_2) ∧ w'.cell? ⟨gb115, 3, none⟩ = some (.int .i64 a1_3) ∧ w'.cell? ⟨gb115, 4, none⟩ = some (.int .i64 a1_4) ∧ w'.cell? ⟨gb115, 5, none⟩ = some (.string a1_5) ∧ w'.cell? (ad117.add (((ji6)).toNat * 6)) = some (.int .i64 ((rd_T27 l0 (ji6)).f0)) ∧ w'.cell? ⟨(ad117.add (((ji6)).toNat * 6)).block, (ad117.add (((ji6)).toNat * 6)).off + 1, none⟩ = some (.int .i64 ((rd_T27 l0 (ji6)).f1)) ∧ w'.cell? ⟨(ad117.add (((ji6)).toNat * 6)).block, (ad117.add (((ji6)).toNat * 6)).off + 2, none⟩ = some (.int .i64 ((rd_T27 l0 (ji6)).f2)) ∧ w'.cell? ⟨(ad117.add (((ji6)).toNat * 6)).block, (ad117.add (((ji6)).toNat * 6)).off + 3, none⟩ = some (.int .i64 ((rd_T27 l0 (ji6)).f3)) ∧ w'.cell? ⟨(ad117.add (((ji6)).toNat * 6)).block, (ad117.add (((ji6)).toNat * 6)).off + 4, none⟩ = some (.int .i64 ((rd_T27 l0 (ji6)).f4)) ∧ w'.cell? ⟨(ad117.add (((ji6)).toNat * 6)).block, (ad117.add (((ji6)).toNat * 6)).off + 5, none⟩ = some (.string ((rd_T27 l0 (ji6)).f5))) (ds := []) #[false, false, false, false, false, false, false, false, false, false, false, false, false, false, false, false, false, false, false, false] (by kernel_rfl) rfl rfl ⟨(blk_cell BK115.out 0).trans rfl, (blk_cell BK115.out 1).trans rfl, (blk_cell BK115.out 2).trans rfl, (blk_cell BK115.out 3).trans rfl, (blk_cell BK115.out 4).trans rfl, (blk_cell BK115.out 5).trans rfl, ((HB.out.cell (World.block_lt_of_cell? w _ hw117_0)).trans hw117_0), ((HB.out.cell (World.block_lt_of_cell? w _ hw117_1)).trans hw117_1), ((HB.out.cell (World.block_lt_of_cell? w _ hw117_2)).trans hw117_2), ((HB.out.cell (World.block_lt_of_cell? w _ hw117_3)).trans hw117_3), ((HB.out.cell (World.block_lt_of_cell? w _ hw117_4)).trans hw117_4), ((HB.out.cell (World.block_lt_of_cell? w _ hw117_5)).trans hw117_5)⟩ (fun hHeld => ?_); refine with_tabW outbox_Add.tab1 outbox_Add.bits1 (fun HT_ HW_ => ?_)
            generalize w10.drew = w11 at BK115 HB hx117_0 hx117_1 hx117_2 hx117_3 hx117_4 hx117_5 hHeld ⊢; refine take_ (i := 0) (N := some 6) (v := ?_) (a' := ?_) (bs 20 1) rfl rfl (take_ofW HT_.out HW_.out (by kernel_rfl)) (fun _ _ _ h => h) (Or.inl ⟨by rfl, ?_⟩) hHeld ?_ ?_; rotate_left
            · rintro w' ⟨s0, s1, s2, s3, s4, s5, s6, s7, s8, s9, s10, s11⟩
              go_simp
              with_reducible rfl
            rotate_left
            · simp only [Act.put, sA, sB, sC, i64_w, i32_w]
              rfl
            refine one_ (i := 1) (N := some 7) (bs 20 3) rfl rfl (one_of HT_.out (by kernel_rfl)) (by decide) (fun K hK => ?_); refine goes_ Tryd.func31 (by kernel_rfl) rfl #[.agg #[.int .i64 a1_0, .int .i64 a1_1, .int .i64 a1_2, .int .i64 a1_3, .int .i64 a1_4, .string a1_5]] (by rfl) rfl rfl ap1 ?_; with_reducible refine (outbox_one.calls k a1_0 a1_1 a1_2 a1_3 a1_4 a1_5 true _ ?side1 A3.out).mono ?_
            (case side1 => first | (with_reducible exact HT.out) | exact Tabs.below HT.out (beu HB.out))
            rintro e w12 ⟨rfl, hb⟩; refine ⟨_, rfl, ?_⟩; have n0_ := am (blk_below (bu BK115.out) hb); have n1_ := am (below_step (beu HB.out) hb); clear BK115 HB; have BK115 := n0_; have HB := n1_; clear n0_ n1_
            (try clear hb)
            (try clear hb2)
            (try clear hk)
            (try clear hi)
            refine hK.out _ _ ⟨(blk_cell BK115.out 0).trans rfl, (blk_cell BK115.out 1).trans rfl, (blk_cell BK115.out 2).trans rfl, (blk_cell BK115.out 3).trans rfl, (blk_cell BK115.out 4).trans rfl, (blk_cell BK115.out 5).trans rfl, ((HB.out.cell (World.block_lt_of_cell? w _ hw117_0)).trans hw117_0), ((HB.out.cell (World.block_lt_of_cell? w _ hw117_1)).trans hw117_1), ((HB.out.cell (World.block_lt_of_cell? w _ hw117_2)).trans hw117_2), ((HB.out.cell (World.block_lt_of_cell? w _ hw117_3)).trans hw117_3), ((HB.out.cell (World.block_lt_of_cell? w _ hw117_4)).trans hw117_4), ((HB.out.cell (World.block_lt_of_cell? w _ hw117_5)).trans hw117_5)⟩ (fun hHeld => ?_); clear hK K; refine norm_ (a' := ?_) ?_ ?_; rotate_left
            · show Act.put _ (some 7) _ = _
              simp only [Act.put, sA, sB, sC, i64_w, i32_w]
              rfl
            refine pure_ (i := 2) (N := some 8) (v := ?_) (a' := ?_) (bs 20 7) rfl rfl (ak HT_.out) (fun _ _ _ h => h) (Or.inl ⟨by rfl, ?_⟩) ?_ ?_; rotate_left
            · intro w'
              go_simp
              with_reducible rfl
            rotate_left
            · simp only [Act.put, sA, sB, sC, i64_w, i32_w]
              rfl
            refine pure_ (i := 3) (N := some 9) (v := ?_) (a' := ?_) (bs 20 15) rfl rfl (ak HT_.out) (fun _ _ _ h => h) (Or.inl ⟨by rfl, ?_⟩) ?_ ?_; rotate_left
            · intro w'
              go_simp
              with_reducible rfl
            rotate_left
            · simp only [Act.put, sA, sB, sC, i64_w, i32_w]
              rfl
            refine pure_ (i := 4) (N := some 10) (v := ?_) (a' := ?_) (bs 20 31) rfl rfl (ak HT_.out) (fun _ _ _ h => h) (Or.inl ⟨by rfl, ?_⟩) ?_ ?_; rotate_left
            · intro w'
              go_simp
              with_reducible rfl
            rotate_left
            · simp only [Act.put, sA, sB, sC, i64_w, i32_w]
              rfl
            refine pure_ (i := 5) (N := some 11) (v := ?_) (a' := ?_) (bs 20 63) rfl rfl (ak HT_.out) (fun _ _ _ h => h) (Or.inl ⟨by rfl, ?_⟩) ?_ ?_; rotate_left
            · intro w'
              go_simp
              with_reducible rfl
            rotate_left
            · simp only [Act.put, sA, sB, sC, i64_w, i32_w]
              rfl
            refine pure_ (i := 6) (N := some 12) (v := ?_) (a' := ?_) (bs 20 127) rfl rfl (ak HT_.out) (fun _ _ _ h => h) (Or.inl ⟨by rfl, ?_⟩) ?_ ?_; rotate_left
            · intro w'
              go_simp
              with_reducible rfl
            rotate_left
            · simp only [Act.put, sA, sB, sC, i64_w, i32_w]
              rfl
            refine pure_ (i := 7) (N := some 13) (v := ?_) (a' := ?_) (bs 20 255) rfl rfl (ak HT_.out) (fun _ _ _ h => h) (Or.inl ⟨by rfl, ?_⟩) ?_ ?_; rotate_left
            · intro w'
              go_simp
              with_reducible rfl
            rotate_left
            · simp only [Act.put, sA, sB, sC, i64_w, i32_w]
              rfl
            refine pure_ (i := 8) (N := some 14) (v := ?_) (a' := ?_) (bs 20 511) rfl rfl (ak HT_.out) (fun _ _ _ h => h) (Or.inl ⟨by rfl, ?_⟩) ?_ ?_; rotate_left
            · intro w'
              go_simp
              with_reducible rfl
            rotate_left
            · simp only [Act.put, sA, sB, sC, i64_w, i32_w]
              rfl
            refine pure_ (i := 9) (N := some 15) (v := ?_) (a' := ?_) (bs 20 1023) rfl rfl (ak HT_.out) (fun _ _ _ h => h) (Or.inl ⟨by rfl, ?_⟩) ?_ ?_; rotate_left
            · intro w'
              go_simp
              with_reducible rfl
            rotate_left
            · simp only [Act.put, sA, sB, sC, i64_w, i32_w]
              rfl
            refine pure_ (i := 10) (N := some 16) (v := ?_) (a' := ?_) (bs 20 2047) rfl rfl (ak HT_.out) (fun _ _ _ h => h) (Or.inl ⟨by rfl, ?_⟩) ?_ ?_; rotate_left
            · intro w'
              go_simp
              with_reducible rfl
            rotate_left
            · simp only [Act.put, sA, sB, sC, i64_w, i32_w]
              rfl
            refine pure_ (i := 11) (N := some 17) (v := ?_) (a' := ?_) (bs 20 4095) rfl rfl (ak HT_.out) (fun _ _ _ h => h) (Or.inl ⟨by rfl, ?_⟩) ?_ ?_; rotate_left
            · intro w'
              go_simp
              with_reducible rfl
            rotate_left
            · simp only [Act.put, sA, sB, sC, i64_w, i32_w]
              rfl
            refine pure_ (i := 12) (N := some 18) (v := ?_) (a' := ?_) (bs 20 8191) rfl rfl (ak HT_.out) (fun _ _ _ h => h) (Or.inl ⟨by rfl, ?_⟩) ?_ ?_; rotate_left
            · intro w'
              go_simp
              with_reducible rfl
            rotate_left
            · simp only [Act.put, sA, sB, sC, i64_w, i32_w]
              rfl
            refine pure_ (i := 13) (N := some 19) (v := ?_) (a' := ?_) (bs 20 16383) rfl rfl (ak HT_.out) (fun _ _ _ h => h) (Or.inl ⟨by rfl, ?_⟩) ?_ ?_; rotate_left
            · intro w'
              go_simp
              with_reducible rfl
            rotate_left
            · simp only [Act.put, sA, sB, sC, i64_w, i32_w]
              rfl
            refine pure_ (i := 15) (N := some 21) (v := ?_) (a' := ?_) (bs 20 49151) rfl rfl (ak HT_.out) (fun _ _ _ h => h) (Or.inl ⟨by rfl, ?_⟩) ?_ ?_; rotate_left
            · intro w'
              go_simp
              with_reducible rfl
            rotate_left
            · simp only [Act.put, sA, sB, sC, i64_w, i32_w]
              rfl
            refine take_ (i := 14) (N := some 20) (v := ?_) (a' := ?_) (bs 20 65535) rfl rfl (take_ofW HT_.out HW_.out (by kernel_rfl)) (fun _ _ _ h => h) (Or.inl ⟨by rfl, ?_⟩) hHeld ?_ ?_; rotate_left
            · rintro w' ⟨s0, s1, s2, s3, s4, s5, s6, s7, s8, s9, s10, s11⟩
              go_simp
              with_reducible rfl
            rotate_left
            · simp only [Act.put, sA, sB, sC, i64_w, i32_w]
              rfl
            refine take_ (i := 16) (N := some 22) (v := ?_) (a' := ?_) (bs 20 131071) rfl rfl (take_ofW HT_.out HW_.out (by kernel_rfl)) (fun _ _ _ h => h) (Or.inl ⟨by rfl, ?_⟩) hHeld ?_ ?_; rotate_left
            · rintro w' ⟨s0, s1, s2, s3, s4, s5, s6, s7, s8, s9, s10, s11⟩
              go_simp
              with_reducible rfl
            rotate_left
            · simp only [Act.put, sA, sB, sC, i64_w, i32_w]
              rfl
            refine pure_ (i := 17) (N := some 23) (v := ?_) (a' := ?_) (bs 20 262143) rfl rfl (ak HT_.out) (fun _ _ _ h => h) (Or.inl ⟨by rfl, ?_⟩) ?_ ?_; rotate_left
            · intro w'
              go_simp
              with_reducible rfl
            rotate_left
            · simp only [Act.put, sA, sB, sC, i64_w, i32_w]
              rfl
            refine pure_ (i := 18) (N := some 24) (v := ?_) (a' := ?_) (bs 20 524287) rfl rfl (ak HT_.out) (fun _ _ _ h => h) (Or.inl ⟨by rfl, ?_⟩) ?_ ?_; rotate_left
            · intro w'
              go_simp
              with_reducible rfl
            rotate_left
            · simp only [Act.put, sA, sB, sC, i64_w, i32_w]
              rfl
            refine pure_ (i := 19) (N := some 25) (v := ?_) (a' := ?_) (bs 20 1048575) rfl rfl (ak HT_.out) (fun _ _ _ h => h) (Or.inl ⟨by rfl, ?_⟩) ?_ ?_; rotate_left
            · intro w'
              go_simp
              with_reducible rfl
            rotate_left
            · simp only [Act.put, sA, sB, sC, i64_w, i32_w]
              rfl
            refine done_ (done_of HT_.out (by kernel_rfl)) ?_
            try go_wp2
            go_ret2
            exact ⟨_, by first | rfl | (simp [errW_none, errW_some] <;> rfl) | (simp only [← hji6]; first | rfl | (simp [errW_none, errW_some] <;> rfl)) | (simp [*, errW_none, errW_some] <;> rfl), by first | exact Kd.R_nil _ _ _ _ _ | exact Kd.N_nil _ _ _ _ _ | exact Kd.V_nil _ _ _ _ _ | exact Kd.Q_nil _ _ _ _ _ | exact Kd.S_nil _ _ _ _ _, beu HB.out⟩
          · rw [if_neg c9] at H
            have c9b0 : decide (a1_0 ≤ ((rd_T27 l0 (ji6)).f0)) = false := decide_eq_false c9; clear c9; replace H := obm H; obtain ⟨t118, A130, H⟩ := H; replace H : ((some (([(⟨a1_0, a1_1, a1_2, a1_3, a1_4, a1_5⟩ : S27)] : List (S27)) : List (S27))).bind fun y121 => (if t118.length + y121.length < 2513169434916 then (some ((t118 ++ y121), 0)) else (none))) = some (r1, r2) := H; have A13 := am A130; clear A130; obtain ⟨y121, hy121⟩ : ∃ y_ : List (S27), y_ = (([(⟨a1_0, a1_1, a1_2, a1_3, a1_4, a1_5⟩ : S27)] : List (S27))) := ⟨_, rfl⟩
            replace H : (if t118.length + y121.length < 2513169434916 then (some ((t118 ++ y121), 0)) else (none)) = some (r1, r2) := by first | (rw [hy121]; with_reducible exact H) | (have H2_ := (Option.bind_some _ _).symm.trans H; rw [hy121]; with_reducible exact H2_) | (have H2_ := (Option.bind_some _ _).symm.trans H; with_reducible exact H2_) | with_reducible exact H | (rw [hy121]; exact H) | exact H
            have Ny121 := am hy121; clear hy121
            by_cases c14 : t118.length + y121.length < 2513169434916
            · rw [if_pos c14] at H
              have LMc14 := am c14; clear c14; obtain ⟨y124, hy124⟩ : ∃ y_ : List (S27), y_ = (t118 ++ y121) := ⟨_, rfl⟩
              replace H : (some (y124, 0)) = some (r1, r2) := by first | (rw [hy124]; with_reducible exact H) | (have H2_ := (Option.bind_some _ _).symm.trans H; rw [hy124]; with_reducible exact H2_) | (have H2_ := (Option.bind_some _ _).symm.trans H; with_reducible exact H2_) | with_reducible exact H | (rw [hy124]; exact H) | exact H
              have Ny124 := am hy124; clear hy124; simp only [Option.some.injEq, Prod.mk.injEq] at H; obtain ⟨rfl, rfl⟩ := H
              go_enter Tryd.func9, Tryd.ntmps9
              try go_wp2_with (first | ((with_reducible refine gate_dst (N := 3) rfl ?_); (try (refine gate_guard (by rfl) ?_; dsimp only)); refine box_event ?hg (N := 3) ?hd (cs := #[.int .i64 a1_0, .int .i64 a1_1, .int .i64 a1_2, .int .i64 a1_3, .int .i64 a1_4, .string a1_5]) (t := 27) ?hr ?_; (case hd => rfl); (case hg => rfl); (case hr => first | (go_simp; done) | (go_simp; rfl)); intro gb115 hg w15 hbox hb; have _ := am (below_step (beu HB.out) hb); have _ := am (hbox); have _ := am ((by rw [hg]; exact (below_size (beu HB.out)) : w.heap.size ≤ gb115)); have _ := am ((by rw [hg]; exact (below_size (beu HB.out)) : w.heap.size ≤ gb115)); clear HB; rename_i HB BK115 GW115 GE115; clear hb hbox hg))
              (try (rw [drewN_self w15]; generalize hq_ : World.drewN w15 _ = w15; have _ := am (blk_at hq_ BK115.out); have _ := am (below_at hq_ HB.out); clear hq_ BK115 HB; rename_i BK115 HB))
              have n0_ := am (blk_drew BK115.out); have n1_ := am (below_drew1 HB.out); clear BK115 HB; have BK115 := n0_; have HB := n1_; clear n0_ n1_; have p117 : 0 ≤ ((ji6) : Int) := of_decide_eq_true ap2; have q117 : (ji6) < (l0.length : Int) := of_decide_eq_true ap2; obtain ⟨ad117, e117, hx117_0, hx117_1, hx117_2, hx117_3, hx117_4, hx117_5⟩ := at_T27 HR0.out (ji6) p117 q117; have hw117_5 := hx117_5; have hw117_4 := hx117_4; have hw117_3 := hx117_3; have hw117_2 := hx117_2; have hw117_1 := hx117_1; have hw117_0 := hx117_0
              cases e117
              replace hx117_0 := (HB.out.cell (World.block_lt_of_cell? w _ hx117_0)).trans hx117_0; replace hx117_1 := (HB.out.cell (World.block_lt_of_cell? w _ hx117_1)).trans hx117_1; replace hx117_2 := (HB.out.cell (World.block_lt_of_cell? w _ hx117_2)).trans hx117_2; replace hx117_3 := (HB.out.cell (World.block_lt_of_cell? w _ hx117_3)).trans hx117_3; replace hx117_4 := (HB.out.cell (World.block_lt_of_cell? w _ hx117_4)).trans hx117_4; replace hx117_5 := (HB.out.cell (World.block_lt_of_cell? w _ hx117_5)).trans hx117_5; replace p117 := eq_true p117; replace q117 := eq_true q117
              refine start_ (n := 20) (S := fun w' => w'.cell? ⟨gb115, 0, none⟩ = some (.int .i64 a1_0) ∧ w'.cell? ⟨gb115, 1, none⟩ = some (.int .i64 a1_1) ∧ w'.cell? ⟨gb115, 2, none⟩ = some (.int .i64 a1_2) ∧ w'.cell? ⟨gb115, 3, none⟩ = some (.int .i64 a1_3) ∧ w'.cell? ⟨gb115, 4, none⟩ = some (.int .i64 a1_4) ∧ w'.cell? ⟨gb115, 5, none⟩ = some (.string a1_5) ∧ w'.cell? (ad117.add (((ji6)).toNat * 6)) = some (.int .i64 ((rd_T27 l0 (ji6)).f0)) ∧ w'.cell? ⟨(ad117.add (((ji6)).toNat * 6)).block, (ad117.add (((ji6)).toNat * 6)).off + 1, none⟩ = some (.int .i64 ((rd_T27 l0 (ji6)).f1)) ∧ w'.cell? ⟨(ad117.add (((ji6)).toNat * 6)).block, (ad117.add (((ji6)).toNat * 6)).off + 2, none⟩ = some (.int .i64 ((rd_T27 l0 (ji6)).f2)) ∧ w'.cell? ⟨(ad117.add (((ji6)).toNat * 6)).block, (ad117.add (((ji6)).toNat * 6)).off + 3, none⟩ = some (.int .i64 ((rd_T27 l0 (ji6)).f3)) ∧ w'.cell? ⟨(ad117.add (((ji6)).toNat * 6)).block, (ad117.add (((ji6)).toNat * 6)).off + 4, none⟩ = some (.int .i64 ((rd_T27 l0 (ji6)).f4)) ∧ w'.cell? ⟨(ad117.add (((ji6)).toNat * 6)).block, (ad117.add (((ji6)).toNat * 6)).off + 5, none⟩ = some (.string ((rd_T27 l0 (ji6)).f5))) (ds := []) #[false, false, false, false, false, false, false, false, false, false, false, false, false, false, false, false, false, false, false, false] (by kernel_rfl) rfl rfl ⟨(blk_cell BK115.out 0).trans rfl, (blk_cell BK115.out 1).trans rfl, (blk_cell BK115.out 2).trans rfl, (blk_cell BK115.out 3).trans rfl, (blk_cell BK115.out 4).trans rfl, (blk_cell BK115.out 5).trans rfl, ((HB.out.cell (World.block_lt_of_cell? w _ hw117_0)).trans hw117_0), ((HB.out.cell (World.block_lt_of_cell? w _ hw117_1)).trans hw117_1), ((HB.out.cell (World.block_lt_of_cell? w _ hw117_2)).trans hw117_2), ((HB.out.cell (World.block_lt_of_cell? w _ hw117_3)).trans hw117_3), ((HB.out.cell (World.block_lt_of_cell? w _ hw117_4)).trans hw117_4), ((HB.out.cell (World.block_lt_of_cell? w _ hw117_5)).trans hw117_5)⟩ (fun hHeld => ?_); refine with_tabW outbox_Add.tab1 outbox_Add.bits1 (fun HT_ HW_ => ?_)
              generalize w15.drew = w16 at BK115 HB hx117_0 hx117_1 hx117_2 hx117_3 hx117_4 hx117_5 hHeld ⊢; refine take_ (i := 0) (N := some 6) (v := ?_) (a' := ?_) (bs 20 1) rfl rfl (take_ofW HT_.out HW_.out (by kernel_rfl)) (fun _ _ _ h => h) (Or.inl ⟨by rfl, ?_⟩) hHeld ?_ ?_; rotate_left
              · rintro w' ⟨s0, s1, s2, s3, s4, s5, s6, s7, s8, s9, s10, s11⟩
                go_simp
                with_reducible rfl
              rotate_left
              · simp only [Act.put, sA, sB, sC, i64_w, i32_w]
                rfl
              refine one_ (i := 1) (N := some 7) (bs 20 3) rfl rfl (one_of HT_.out (by kernel_rfl)) (by decide) (fun K hK => ?_); refine goes_ Tryd.func31 (by kernel_rfl) rfl #[.agg #[.int .i64 a1_0, .int .i64 a1_1, .int .i64 a1_2, .int .i64 a1_3, .int .i64 a1_4, .string a1_5]] (by rfl) rfl rfl ap1 ?_; with_reducible refine (outbox_one.calls k a1_0 a1_1 a1_2 a1_3 a1_4 a1_5 true _ ?side1 A3.out).mono ?_
              (case side1 => first | (with_reducible exact HT.out) | exact Tabs.below HT.out (beu HB.out))
              rintro e w17 ⟨rfl, hb⟩; refine ⟨_, rfl, ?_⟩; have n0_ := am (blk_below (bu BK115.out) hb); have n1_ := am (below_step (beu HB.out) hb); clear BK115 HB; have BK115 := n0_; have HB := n1_; clear n0_ n1_
              (try clear hb)
              (try clear hb2)
              (try clear hk)
              (try clear hi)
              refine hK.out _ _ ⟨(blk_cell BK115.out 0).trans rfl, (blk_cell BK115.out 1).trans rfl, (blk_cell BK115.out 2).trans rfl, (blk_cell BK115.out 3).trans rfl, (blk_cell BK115.out 4).trans rfl, (blk_cell BK115.out 5).trans rfl, ((HB.out.cell (World.block_lt_of_cell? w _ hw117_0)).trans hw117_0), ((HB.out.cell (World.block_lt_of_cell? w _ hw117_1)).trans hw117_1), ((HB.out.cell (World.block_lt_of_cell? w _ hw117_2)).trans hw117_2), ((HB.out.cell (World.block_lt_of_cell? w _ hw117_3)).trans hw117_3), ((HB.out.cell (World.block_lt_of_cell? w _ hw117_4)).trans hw117_4), ((HB.out.cell (World.block_lt_of_cell? w _ hw117_5)).trans hw117_5)⟩ (fun hHeld => ?_); clear hK K; refine norm_ (a' := ?_) ?_ ?_; rotate_left
              · show Act.put _ (some 7) _ = _
                simp only [Act.put, sA, sB, sC, i64_w, i32_w]
                rfl
              refine pure_ (i := 2) (N := some 8) (v := ?_) (a' := ?_) (bs 20 7) rfl rfl (ak HT_.out) (fun _ _ _ h => h) (Or.inl ⟨by rfl, ?_⟩) ?_ ?_; rotate_left
              · intro w'
                go_simp
                with_reducible rfl
              rotate_left
              · simp only [Act.put, sA, sB, sC, i64_w, i32_w]
                rfl
              refine pure_ (i := 3) (N := some 9) (v := ?_) (a' := ?_) (bs 20 15) rfl rfl (ak HT_.out) (fun _ _ _ h => h) (Or.inl ⟨by rfl, ?_⟩) ?_ ?_; rotate_left
              · intro w'
                go_simp
                with_reducible rfl
              rotate_left
              · simp only [Act.put, sA, sB, sC, i64_w, i32_w]
                rfl
              refine pure_ (i := 4) (N := some 10) (v := ?_) (a' := ?_) (bs 20 31) rfl rfl (ak HT_.out) (fun _ _ _ h => h) (Or.inl ⟨by rfl, ?_⟩) ?_ ?_; rotate_left
              · intro w'
                go_simp
                with_reducible rfl
              rotate_left
              · simp only [Act.put, sA, sB, sC, i64_w, i32_w]
                rfl
              refine pure_ (i := 5) (N := some 11) (v := ?_) (a' := ?_) (bs 20 63) rfl rfl (ak HT_.out) (fun _ _ _ h => h) (Or.inl ⟨by rfl, ?_⟩) ?_ ?_; rotate_left
              · intro w'
                go_simp
                with_reducible rfl
              rotate_left
              · simp only [Act.put, sA, sB, sC, i64_w, i32_w]
                rfl
              refine pure_ (i := 6) (N := some 12) (v := ?_) (a' := ?_) (bs 20 127) rfl rfl (ak HT_.out) (fun _ _ _ h => h) (Or.inl ⟨by rfl, ?_⟩) ?_ ?_; rotate_left
              · intro w'
                go_simp
                with_reducible rfl
              rotate_left
              · simp only [Act.put, sA, sB, sC, i64_w, i32_w]
                rfl
              refine pure_ (i := 7) (N := some 13) (v := ?_) (a' := ?_) (bs 20 255) rfl rfl (ak HT_.out) (fun _ _ _ h => h) (Or.inl ⟨by rfl, ?_⟩) ?_ ?_; rotate_left
              · intro w'
                go_simp
                with_reducible rfl
              rotate_left
              · simp only [Act.put, sA, sB, sC, i64_w, i32_w]
                rfl
              refine pure_ (i := 8) (N := some 14) (v := ?_) (a' := ?_) (bs 20 511) rfl rfl (ak HT_.out) (fun _ _ _ h => h) (Or.inl ⟨by rfl, ?_⟩) ?_ ?_; rotate_left
              · intro w'
                go_simp
                with_reducible rfl
              rotate_left
              · simp only [Act.put, sA, sB, sC, i64_w, i32_w]
                rfl
              refine pure_ (i := 9) (N := some 15) (v := ?_) (a' := ?_) (bs 20 1023) rfl rfl (ak HT_.out) (fun _ _ _ h => h) (Or.inl ⟨by rfl, ?_⟩) ?_ ?_; rotate_left
              · intro w'
                go_simp
                with_reducible rfl
              rotate_left
              · simp only [Act.put, sA, sB, sC, i64_w, i32_w]
                rfl
              refine pure_ (i := 10) (N := some 16) (v := ?_) (a' := ?_) (bs 20 2047) rfl rfl (ak HT_.out) (fun _ _ _ h => h) (Or.inl ⟨by rfl, ?_⟩) ?_ ?_; rotate_left
              · intro w'
                go_simp
                with_reducible rfl
              rotate_left
              · simp only [Act.put, sA, sB, sC, i64_w, i32_w]
                rfl
              refine pure_ (i := 11) (N := some 17) (v := ?_) (a' := ?_) (bs 20 4095) rfl rfl (ak HT_.out) (fun _ _ _ h => h) (Or.inl ⟨by rfl, ?_⟩) ?_ ?_; rotate_left
              · intro w'
                go_simp
                with_reducible rfl
              rotate_left
              · simp only [Act.put, sA, sB, sC, i64_w, i32_w]
                rfl
              refine pure_ (i := 12) (N := some 18) (v := ?_) (a' := ?_) (bs 20 8191) rfl rfl (ak HT_.out) (fun _ _ _ h => h) (Or.inl ⟨by rfl, ?_⟩) ?_ ?_; rotate_left
              · intro w'
                go_simp
                with_reducible rfl
              rotate_left
              · simp only [Act.put, sA, sB, sC, i64_w, i32_w]
                rfl
              refine pure_ (i := 13) (N := some 19) (v := ?_) (a' := ?_) (bs 20 16383) rfl rfl (ak HT_.out) (fun _ _ _ h => h) (Or.inl ⟨by rfl, ?_⟩) ?_ ?_; rotate_left
              · intro w'
                go_simp
                with_reducible rfl
              rotate_left
              · simp only [Act.put, sA, sB, sC, i64_w, i32_w]
                rfl
              refine pure_ (i := 15) (N := some 21) (v := ?_) (a' := ?_) (bs 20 49151) rfl rfl (ak HT_.out) (fun _ _ _ h => h) (Or.inl ⟨by rfl, ?_⟩) ?_ ?_; rotate_left
              · intro w'
                go_simp
                with_reducible rfl
              rotate_left
              · simp only [Act.put, sA, sB, sC, i64_w, i32_w]
                rfl
              refine take_ (i := 14) (N := some 20) (v := ?_) (a' := ?_) (bs 20 65535) rfl rfl (take_ofW HT_.out HW_.out (by kernel_rfl)) (fun _ _ _ h => h) (Or.inl ⟨by rfl, ?_⟩) hHeld ?_ ?_; rotate_left
              · rintro w' ⟨s0, s1, s2, s3, s4, s5, s6, s7, s8, s9, s10, s11⟩
                go_simp
                with_reducible rfl
              rotate_left
              · simp only [Act.put, sA, sB, sC, i64_w, i32_w]
                rfl
              refine take_ (i := 16) (N := some 22) (v := ?_) (a' := ?_) (bs 20 131071) rfl rfl (take_ofW HT_.out HW_.out (by kernel_rfl)) (fun _ _ _ h => h) (Or.inl ⟨by rfl, ?_⟩) hHeld ?_ ?_; rotate_left
              · rintro w' ⟨s0, s1, s2, s3, s4, s5, s6, s7, s8, s9, s10, s11⟩
                go_simp
                with_reducible rfl
              rotate_left
              · simp only [Act.put, sA, sB, sC, i64_w, i32_w]
                rfl
              refine pure_ (i := 17) (N := some 23) (v := ?_) (a' := ?_) (bs 20 262143) rfl rfl (ak HT_.out) (fun _ _ _ h => h) (Or.inl ⟨by rfl, ?_⟩) ?_ ?_; rotate_left
              · intro w'
                go_simp
                with_reducible rfl
              rotate_left
              · simp only [Act.put, sA, sB, sC, i64_w, i32_w]
                rfl
              refine pure_ (i := 18) (N := some 24) (v := ?_) (a' := ?_) (bs 20 524287) rfl rfl (ak HT_.out) (fun _ _ _ h => h) (Or.inl ⟨by rfl, ?_⟩) ?_ ?_; rotate_left
              · intro w'
                go_simp
                with_reducible rfl
              rotate_left
              · simp only [Act.put, sA, sB, sC, i64_w, i32_w]
                rfl
              refine pure_ (i := 19) (N := some 25) (v := ?_) (a' := ?_) (bs 20 1048575) rfl rfl (ak HT_.out) (fun _ _ _ h => h) (Or.inl ⟨by rfl, ?_⟩) ?_ ?_; rotate_left
              · intro w'
                go_simp
                with_reducible rfl
              rotate_left
              · simp only [Act.put, sA, sB, sC, i64_w, i32_w]
                rfl
              refine done_ (done_of HT_.out (by kernel_rfl)) ?_
              try go_wp2
              (try (rw [drewN_self w17]; generalize hq_ : World.drewN w17 _ = w17; have _ := am (blk_at hq_ BK115.out); have _ := am (below_at hq_ HB.out); clear hq_ BK115 HB; rename_i BK115 HB))
              have n0_ := am (blk_drew BK115.out); have n1_ := am (below_drew1 HB.out); clear BK115 HB; have BK115 := n0_; have HB := n1_; clear n0_ n1_; refine start_ (n := 7) (S := fun w' => w'.cell? ⟨gb115, 0, none⟩ = some (.int .i64 a1_0) ∧ w'.cell? ⟨gb115, 1, none⟩ = some (.int .i64 a1_1) ∧ w'.cell? ⟨gb115, 2, none⟩ = some (.int .i64 a1_2) ∧ w'.cell? ⟨gb115, 3, none⟩ = some (.int .i64 a1_3) ∧ w'.cell? ⟨gb115, 4, none⟩ = some (.int .i64 a1_4) ∧ w'.cell? ⟨gb115, 5, none⟩ = some (.string a1_5)) (ds := []) #[false, false, false, false, false, false, false] (by kernel_rfl) rfl rfl ⟨(blk_cell BK115.out 0).trans rfl, (blk_cell BK115.out 1).trans rfl, (blk_cell BK115.out 2).trans rfl, (blk_cell BK115.out 3).trans rfl, (blk_cell BK115.out 4).trans rfl, (blk_cell BK115.out 5).trans rfl⟩ (fun hHeld => ?_); generalize w17.drew = w18 at BK115 HB hHeld ⊢; refine pure_ (i := 0) (N := some 26) (v := ?_) (a' := ?_) (bs 7 1) rfl rfl (by kernel_rfl) (fun _ _ _ h => h) (Or.inl ⟨by rfl, ?_⟩) ?_ ?_; rotate_left
              · intro w'
                go_simp
                with_reducible rfl
              rotate_left
              · simp only [Act.put, sA, sB, sC, i64_w, i32_w]
                rfl
              refine take_ (i := 2) (N := some 28) (v := ?_) (a' := ?_) (bs 7 5) rfl rfl (by kernel_rfl) (fun _ _ _ h => h) (Or.inl ⟨by rfl, ?_⟩) hHeld ?_ ?_; rotate_left
              · rintro w' ⟨s0, s1, s2, s3, s4, s5⟩
                go_simp
                with_reducible rfl
              rotate_left
              · simp only [Act.put, sA, sB, sC, i64_w, i32_w]
                rfl
              refine join_ (σ := Value × Value) 3 #[true, true, true, true, false, false, false] (fun s_ => [(27, s_.1), (29, s_.2)]) (fun s_ w' => (w'.cell? ⟨gb115, 0, none⟩ = some (.int .i64 a1_0) ∧ w'.cell? ⟨gb115, 1, none⟩ = some (.int .i64 a1_1) ∧ w'.cell? ⟨gb115, 2, none⟩ = some (.int .i64 a1_2) ∧ w'.cell? ⟨gb115, 3, none⟩ = some (.int .i64 a1_3) ∧ w'.cell? ⟨gb115, 4, none⟩ = some (.int .i64 a1_4) ∧ w'.cell? ⟨gb115, 5, none⟩ = some (.string a1_5)) ∧ (Kd.R k27 27 w' w.heap.size (fun k_ => some k_ ≠ (s_.2 : Value).ownBlock ∧ k_ ≠ gb115) s_.1 t118) ∧ (Kd.R k27 27 w' w.heap.size (fun k_ => some k_ ≠ (s_.1 : Value).ownBlock ∧ k_ ≠ gb115) s_.2 y121) ∧ (w'.heap[gb115]? = some (.cells #[.int .i64 a1_0, .int .i64 a1_1, .int .i64 a1_2, .int .i64 a1_3, .int .i64 a1_4, .string a1_5] 27 (0, 0))) ∧ (Below w.heap.size w w')) ?_ ?_; rotate_left
              · intro hCont
                refine two_ (i := 1) (j := 3) (Ni := some 27) (Nj := some 29) #[true, true, true, false, false, false, false] #[true, false, true, true, false, false, false] rfl rfl rfl rfl (by kernel_rfl) (by decide) (by decide) (fun K hK => ?_) (fun K hK => ?_)
                · skip
                  refine goes_ Tryd.func32 (by kernel_rfl) rfl #[.slice (some ad117) l0.length c0] (by rfl) rfl rfl ap1 ?_; with_reducible refine (api_Effect_32.calls _ _ l0 t118 _ ?side1 ?side2 A13.out).mono ?_
                  (case side1 => exact cu (Kd.C_below HR0.out HB.out))
                  (case side2 => exact HC0.out)
                  rintro e w19 ⟨v119, rfl, ho0, hb⟩; refine ⟨_, rfl, ?_⟩; have n0_ := am (Kd.R_lower (Kd.R_newB ho0 (bu BK115.out)) (below_size (beu HB.out))); have n1_ := am (blk_below (bu BK115.out) hb); have n2_ := am (below_step (beu HB.out) hb); clear BK115 HB; have HO120 := n0_; have BK115 := n1_; have HB := n2_; clear n0_ n1_ n2_
                  (try clear hb)
                  (try clear hb2)
                  (try clear hk)
                  (try clear hi)
                  (try clear ho0)
                  refine hK.out _ _ ⟨(blk_cell BK115.out 0).trans rfl, (blk_cell BK115.out 1).trans rfl, (blk_cell BK115.out 2).trans rfl, (blk_cell BK115.out 3).trans rfl, (blk_cell BK115.out 4).trans rfl, (blk_cell BK115.out 5).trans rfl⟩ (fun hHeld => ?_); clear hK K; refine norm_ (a' := ?_) ?_ ?_; rotate_left
                  · show Act.put _ (some 27) _ = _
                    simp only [Act.put, sA, sB, sC, i64_w, i32_w]
                    rfl
                  refine one_ (i := 3) (N := some 29) (bs 7 15) rfl rfl (by kernel_rfl) (by decide) (fun K hK => ?_)
                  refine Kd.R_lit_step k27 _ 27 ?hg (N := 29) ?hd (xs := ([(⟨a1_0, a1_1, a1_2, a1_3, a1_4, a1_5⟩ : S27)] : List (S27))) (inner := [.int .i64 a1_0, .int .i64 a1_1, .int .i64 a1_2, .int .i64 a1_3, .int .i64 a1_4, .string a1_5]) (ok := fun _ => True) (okp := fun _ => True) ?hr ?hp (fun _ hk => hk) trivial (Below.refl _ _) (Nat.le_refl _) (by simp) ?_; (case hd => rfl); (case hg => rfl); (case hr => first | (go_simp; done) | (go_simp; rfl)); (case hp => exact (Reps.c6 (show Kd.M k27 _ _ _ (⟨a1_0, a1_1, a1_2, a1_3, a1_4, a1_5⟩ : S27) [.int .i64 a1_0, .int .i64 a1_1, .int .i64 a1_2, .int .i64 a1_3, .int .i64 a1_4, .string a1_5] from (k27_mkM _ _ _ (⟨a1_0, a1_1, a1_2, a1_3, a1_4, a1_5⟩ : S27) )) (Reps.none _ _)))
                  intro v122 w20 ho21 hb hg_ hnew_; clear hg_ hnew_
                  (first | rw [← Ny121.out] at ho21 | (simp only [Int.reduceToNat] at ho21; rw [← Ny121.out] at ho21))
                  have n0_ := am (Kd.R_elder' (ru HO120.out) (Kd.R_base ho21) hb); have n1_ := am (Kd.R_lower (Kd.R_newB (Kd.R_new' ho21 (Kd.R_lt (ru HO120.out))) (bu BK115.out)) (below_size (beu HB.out))); have n2_ := am (blk_below (bu BK115.out) hb); have n3_ := am (below_step (beu HB.out) hb); clear HO120 BK115 HB; have HO120 := n0_; have HO123 := n1_; have BK115 := n2_; have HB := n3_; clear n0_ n1_ n2_ n3_ hb ho21; refine hK.out _ _ ⟨(blk_cell BK115.out 0).trans rfl, (blk_cell BK115.out 1).trans rfl, (blk_cell BK115.out 2).trans rfl, (blk_cell BK115.out 3).trans rfl, (blk_cell BK115.out 4).trans rfl, (blk_cell BK115.out 5).trans rfl⟩ (fun hHeld => ?_); clear hK K; refine norm_ (a' := ?_) ?_ ?_; rotate_left
                  · show Act.put _ (some 29) _ = _
                    simp only [Act.put, sA, sB, sC, i64_w, i32_w]
                    rfl
                  exact norm_ (by simp only [putAll, Act.put, sA, sB, sC]) (hCont (v119, v122) _ ⟨hHeld, (ru (Kd.R_mono HO120.out (fun _ hk => ⟨hk.2, hk.1.2⟩))), (ru (Kd.R_mono HO123.out (fun _ hk => ⟨hk.1.2, hk.2⟩))), (bu BK115.out), (beu HB.out)⟩)
                · skip
                  refine Kd.R_lit_step k27 _ 27 ?hg (N := 29) ?hd (xs := ([(⟨a1_0, a1_1, a1_2, a1_3, a1_4, a1_5⟩ : S27)] : List (S27))) (inner := [.int .i64 a1_0, .int .i64 a1_1, .int .i64 a1_2, .int .i64 a1_3, .int .i64 a1_4, .string a1_5]) (ok := fun _ => True) (okp := fun _ => True) ?hr ?hp (fun _ hk => hk) trivial (Below.refl _ _) (Nat.le_refl _) (by simp) ?_; (case hd => rfl); (case hg => rfl); (case hr => first | (go_simp; done) | (go_simp; rfl)); (case hp => exact (Reps.c6 (show Kd.M k27 _ _ _ (⟨a1_0, a1_1, a1_2, a1_3, a1_4, a1_5⟩ : S27) [.int .i64 a1_0, .int .i64 a1_1, .int .i64 a1_2, .int .i64 a1_3, .int .i64 a1_4, .string a1_5] from (k27_mkM _ _ _ (⟨a1_0, a1_1, a1_2, a1_3, a1_4, a1_5⟩ : S27) )) (Reps.none _ _)))
                  intro v122 w19 ho20 hb hg_ hnew_; clear hg_ hnew_
                  (first | rw [← Ny121.out] at ho20 | (simp only [Int.reduceToNat] at ho20; rw [← Ny121.out] at ho20))
                  have n0_ := am (Kd.R_lower (Kd.R_newB ho20 (bu BK115.out)) (below_size (beu HB.out))); have n1_ := am (blk_below (bu BK115.out) hb); have n2_ := am (below_step (beu HB.out) hb); clear BK115 HB; have HO123 := n0_; have BK115 := n1_; have HB := n2_; clear n0_ n1_ n2_ hb ho20; refine hK.out _ _ ⟨(blk_cell BK115.out 0).trans rfl, (blk_cell BK115.out 1).trans rfl, (blk_cell BK115.out 2).trans rfl, (blk_cell BK115.out 3).trans rfl, (blk_cell BK115.out 4).trans rfl, (blk_cell BK115.out 5).trans rfl⟩ (fun hHeld => ?_); clear hK K; refine norm_ (a' := ?_) ?_ ?_; rotate_left
                  · show Act.put _ (some 29) _ = _
                    simp only [Act.put, sA, sB, sC, i64_w, i32_w]
                    rfl
                  refine one_ (i := 1) (N := some 27) (bs 7 15) rfl rfl (by kernel_rfl) (by decide) (fun K hK => ?_); refine goes_ Tryd.func32 (by kernel_rfl) rfl #[.slice (some ad117) l0.length c0] (by rfl) rfl rfl ap1 ?_; with_reducible refine (api_Effect_32.calls _ _ l0 t118 _ ?side1 ?side2 A13.out).mono ?_
                  (case side1 => exact cu (Kd.C_below HR0.out HB.out))
                  (case side2 => exact HC0.out)
                  rintro e w21 ⟨v119, rfl, ho0, hb⟩; refine ⟨_, rfl, ?_⟩; have n0_ := am (Kd.R_elder' (ru HO123.out) (Kd.R_base ho0) hb); have n1_ := am (Kd.R_lower (Kd.R_newB (Kd.R_new' ho0 (Kd.R_lt (ru HO123.out))) (bu BK115.out)) (below_size (beu HB.out))); have n2_ := am (blk_below (bu BK115.out) hb); have n3_ := am (below_step (beu HB.out) hb); clear HO123 BK115 HB; have HO123 := n0_; have HO120 := n1_; have BK115 := n2_; have HB := n3_; clear n0_ n1_ n2_ n3_
                  (try clear hb)
                  (try clear hb2)
                  (try clear hk)
                  (try clear hi)
                  (try clear ho0)
                  refine hK.out _ _ ⟨(blk_cell BK115.out 0).trans rfl, (blk_cell BK115.out 1).trans rfl, (blk_cell BK115.out 2).trans rfl, (blk_cell BK115.out 3).trans rfl, (blk_cell BK115.out 4).trans rfl, (blk_cell BK115.out 5).trans rfl⟩ (fun hHeld => ?_); clear hK K; refine norm_ (a' := ?_) ?_ ?_; rotate_left
                  · show Act.put _ (some 27) _ = _
                    simp only [Act.put, sA, sB, sC, i64_w, i32_w]
                    rfl
                  exact norm_ (by simp only [putAll, Act.put, sA, sB, sC]) (hCont (v119, v122) _ ⟨hHeld, (ru (Kd.R_mono HO120.out (fun _ hk => ⟨hk.1.2, hk.2⟩))), (ru (Kd.R_mono HO123.out (fun _ hk => ⟨hk.2, hk.1.2⟩))), (bu BK115.out), (beu HB.out)⟩)
              rintro ⟨v119, v122⟩ w22 ⟨hS_, h0_, h1_, h2_, h3_⟩; have n0_ : Aside0 (Kd.R k27 27 w22 w.heap.size (fun k_ => some k_ ≠ (v122 : Value).ownBlock ∧ k_ ≠ gb115) v119 t118) := ⟨h0_⟩; have n1_ : Aside0 (Kd.R k27 27 w22 w.heap.size (fun k_ => some k_ ≠ (v119 : Value).ownBlock ∧ k_ ≠ gb115) v122 y121) := ⟨h1_⟩; have n2_ : Aside0 (w22.heap[gb115]? = some (.cells #[.int .i64 a1_0, .int .i64 a1_1, .int .i64 a1_2, .int .i64 a1_3, .int .i64 a1_4, .string a1_5] 27 (0, 0))) := ⟨h2_⟩; have n3_ : Aside0 (Below w.heap.size w w22) := ⟨h3_⟩; clear BK115 HB h0_ h1_ h2_ h3_; have HO120 := n0_; have HO123 := n1_; have BK115 := n2_; have HB := n3_; clear n0_ n1_ n2_ n3_; have hHeld : w22.cell? ⟨gb115, 0, none⟩ = some (.int .i64 a1_0) ∧ w22.cell? ⟨gb115, 1, none⟩ = some (.int .i64 a1_1) ∧ w22.cell? ⟨gb115, 2, none⟩ = some (.int .i64 a1_2) ∧ w22.cell? ⟨gb115, 3, none⟩ = some (.int .i64 a1_3) ∧ w22.cell? ⟨gb115, 4, none⟩ = some (.int .i64 a1_4) ∧ w22.cell? ⟨gb115, 5, none⟩ = some (.string a1_5) := hS_; obtain ⟨Ao24, co24, eo24⟩ := Kd.R_slice HO123.out
              (first | subst eo24 | (injection eo24 with f1_ f2_ f3_; have f4_ := f1_.symm; have f5_ := f3_.symm; clear f1_ f2_ f3_; subst f4_; subst f5_))
              refine norm_ (a' := ?_) ?_ ?_; rotate_left
              · simp only [putAll, Act.put, sA, sB, sC]
                rfl
              refine one_ (i := 4) (N := some 30) (bs 7 31) rfl rfl (by kernel_rfl) (by decide) (fun K hK => ?_); refine Kd.R_append_rows_step k27 (w0 := w) w.heap.size (by rfl) (.tmp 27) (.tmp 29) 22 27 (.agg #[(.int .i64 0), (.int .i64 0), (.int .i64 0), (.int .i64 0), (.int .i64 0), (.string ⟨#[]⟩)]) 56 rfl Tryd.underlying22 info27 rfl (by decide) (by omega) v119 t118 y121 _ _ _ (fun k_ => some k_ ≠ (.slice Ao24 y121.length co24 : Value).ownBlock ∧ k_ ≠ gb115) (fun _ => False) rfl rfl ?aO ?aR (fun _ _ h => h) (fun _ h => h.elim) ?aF ?aB ?aS ?aL ?_
              (case aR => exact cu (Kd.R_reads' HO123.out).2.2)
              (case aB => exact (beu HB.out))
              (case aF => exact (fun k_ hk => ⟨Kd.fresh' (Kd.R_lt (ru HO123.out)) k_ hk, Kd.freshB (bu BK115.out) k_ hk⟩))
              (case aO => exact (ru HO120.out))
              (case aS => exact (below_size (beu HB.out)))
              (case aL => have := LMc14.out; omega)
              intro v125 w23 ho hb hg hat; rw [← Ny124.out] at ho; have n0_ := am (blk_grown (bu BK115.out) hg (Kd.R_away HO120.out (fun _ hk => hk.2))); have n1_ := am (Kd.R_after (ok := (fun k_ => k_ ≠ gb115)) (ru (Kd.R_mono HO123.out (fun _ hk => ⟨hk.2, hk.1⟩))) hg hat); have n2_ := am (hb); have n3_ := am (ho); clear BK115 HO123 HB HO120; have BK115 := n0_; have HO123 := n1_; have HB := n2_; have HO126 := n3_; clear n0_ n1_ n2_ n3_ ho hb hg hat; refine hK.out _ _ ⟨(blk_cell BK115.out 0).trans rfl, (blk_cell BK115.out 1).trans rfl, (blk_cell BK115.out 2).trans rfl, (blk_cell BK115.out 3).trans rfl, (blk_cell BK115.out 4).trans rfl, (blk_cell BK115.out 5).trans rfl⟩ (fun hHeld => ?_); clear hK K; refine norm_ (a' := ?_) ?_ ?_; rotate_left
              · show Act.put _ (some 30) _ = _
                simp only [Act.put, sA, sB, sC, i64_w, i32_w]
                rfl
              refine pure_ (i := 5) (N := some 4) (v := ?_) (a' := ?_) (bs 7 63) rfl rfl (by kernel_rfl) (fun _ _ _ h => h) (Or.inl ⟨by rfl, ?_⟩) ?_ ?_; rotate_left
              · intro w'
                go_simp
                with_reducible rfl
              rotate_left
              · simp only [Act.put, sA, sB, sC, i64_w, i32_w]
                rfl
              refine pure_ (i := 6) (N := some 5) (v := ?_) (a' := ?_) (bs 7 127) rfl rfl (by kernel_rfl) (fun _ _ _ h => h) (Or.inl ⟨by rfl, ?_⟩) ?_ ?_; rotate_left
              · intro w'
                go_simp
                with_reducible rfl
              rotate_left
              · simp only [Act.put, sA, sB, sC, i64_w, i32_w]
                rfl
              refine done_ (by kernel_rfl) ?_
              try go_wp2
              go_ret2
              exact ⟨_, by first | rfl | (simp [errW_none, errW_some] <;> rfl) | (simp only [← hji6]; first | rfl | (simp [errW_none, errW_some] <;> rfl)) | (simp [*, errW_none, errW_some] <;> rfl), ru (Kd.R_mono HO126.out (fun _ hk => trivial)), beu HB.out⟩
            · rw [if_neg c14] at H
              exact absurd H (by simp)
        · rw [if_neg c8] at H
          exact absurd H (by simp)
      · rw [if_neg c7] at H
        exact absurd H (by simp)
    · rw [if_neg c5] at H
      have c5b0 : decide (0 < (l0.length : Int)) = false := decide_eq_false c5; have c5b1 : decide (0 < l0.length) = false := decide_eq_false (by omega); clear c5; replace H := obm H; obtain ⟨t127, A250, H⟩ := H; replace H : ((some (([(⟨a1_0, a1_1, a1_2, a1_3, a1_4, a1_5⟩ : S27)] : List (S27)) : List (S27))).bind fun y130 => (if t127.length + y130.length < 2513169434916 then (some ((t127 ++ y130), 0)) else (none))) = some (r1, r2) := H; have A25 := am A250; clear A250; obtain ⟨y130, hy130⟩ : ∃ y_ : List (S27), y_ = (([(⟨a1_0, a1_1, a1_2, a1_3, a1_4, a1_5⟩ : S27)] : List (S27))) := ⟨_, rfl⟩
      replace H : (if t127.length + y130.length < 2513169434916 then (some ((t127 ++ y130), 0)) else (none)) = some (r1, r2) := by first | (rw [hy130]; with_reducible exact H) | (have H2_ := (Option.bind_some _ _).symm.trans H; rw [hy130]; with_reducible exact H2_) | (have H2_ := (Option.bind_some _ _).symm.trans H; with_reducible exact H2_) | with_reducible exact H | (rw [hy130]; exact H) | exact H
      have Ny130 := am hy130; clear hy130
      by_cases c26 : t127.length + y130.length < 2513169434916
      · rw [if_pos c26] at H
        have LMc26 := am c26; clear c26; obtain ⟨y133, hy133⟩ : ∃ y_ : List (S27), y_ = (t127 ++ y130) := ⟨_, rfl⟩
        replace H : (some (y133, 0)) = some (r1, r2) := by first | (rw [hy133]; with_reducible exact H) | (have H2_ := (Option.bind_some _ _).symm.trans H; rw [hy133]; with_reducible exact H2_) | (have H2_ := (Option.bind_some _ _).symm.trans H; with_reducible exact H2_) | with_reducible exact H | (rw [hy133]; exact H) | exact H
        have Ny133 := am hy133; clear hy133; simp only [Option.some.injEq, Prod.mk.injEq] at H; obtain ⟨rfl, rfl⟩ := H
        go_enter Tryd.func9, Tryd.ntmps9
        try go_wp2_with (first | ((with_reducible refine gate_dst (N := 3) rfl ?_); (try (refine gate_guard (by rfl) ?_; dsimp only)); refine box_event ?hg (N := 3) ?hd (cs := #[.int .i64 a1_0, .int .i64 a1_1, .int .i64 a1_2, .int .i64 a1_3, .int .i64 a1_4, .string a1_5]) (t := 27) ?hr ?_; (case hd => rfl); (case hg => rfl); (case hr => first | (go_simp; done) | (go_simp; rfl)); intro gb115 hg w27 hbox hb; have _ := am (below_step (beu HB.out) hb); have _ := am (hbox); have _ := am ((by rw [hg]; exact (below_size (beu HB.out)) : w.heap.size ≤ gb115)); have _ := am ((by rw [hg]; exact (below_size (beu HB.out)) : w.heap.size ≤ gb115)); clear HB; rename_i HB BK115 GW115 GE115; clear hb hbox hg))
        (try (rw [drewN_self w27]; generalize hq_ : World.drewN w27 _ = w27; have _ := am (blk_at hq_ BK115.out); have _ := am (below_at hq_ HB.out); clear hq_ BK115 HB; rename_i BK115 HB))
        have n0_ := am (blk_drew BK115.out); have n1_ := am (below_drew1 HB.out); clear BK115 HB; have BK115 := n0_; have HB := n1_; clear n0_ n1_
        refine start_ (n := 20) (S := fun w' => w'.cell? ⟨gb115, 0, none⟩ = some (.int .i64 a1_0) ∧ w'.cell? ⟨gb115, 1, none⟩ = some (.int .i64 a1_1) ∧ w'.cell? ⟨gb115, 2, none⟩ = some (.int .i64 a1_2) ∧ w'.cell? ⟨gb115, 3, none⟩ = some (.int .i64 a1_3) ∧ w'.cell? ⟨gb115, 4, none⟩ = some (.int .i64 a1_4) ∧ w'.cell? ⟨gb115, 5, none⟩ = some (.string a1_5)) (ds := []) #[false, false, false, false, false, false, false, false, false, false, false, false, false, false, false, false, false, false, false, false] (by kernel_rfl) rfl rfl ⟨(blk_cell BK115.out 0).trans rfl, (blk_cell BK115.out 1).trans rfl, (blk_cell BK115.out 2).trans rfl, (blk_cell BK115.out 3).trans rfl, (blk_cell BK115.out 4).trans rfl, (blk_cell BK115.out 5).trans rfl⟩ (fun hHeld => ?_); refine with_tabW outbox_Add.tab1 outbox_Add.bits1 (fun HT_ HW_ => ?_)
        generalize w27.drew = w28 at BK115 HB hHeld ⊢; refine take_ (i := 0) (N := some 6) (v := ?_) (a' := ?_) (bs 20 1) rfl rfl (take_ofW HT_.out HW_.out (by kernel_rfl)) (fun _ _ _ h => h) (Or.inl ⟨by rfl, ?_⟩) hHeld ?_ ?_; rotate_left
        · rintro w' ⟨s0, s1, s2, s3, s4, s5⟩
          go_simp
          with_reducible rfl
        rotate_left
        · simp only [Act.put, sA, sB, sC, i64_w, i32_w]
          rfl
        refine one_ (i := 1) (N := some 7) (bs 20 3) rfl rfl (one_of HT_.out (by kernel_rfl)) (by decide) (fun K hK => ?_); refine goes_ Tryd.func31 (by kernel_rfl) rfl #[.agg #[.int .i64 a1_0, .int .i64 a1_1, .int .i64 a1_2, .int .i64 a1_3, .int .i64 a1_4, .string a1_5]] (by rfl) rfl rfl ap1 ?_; with_reducible refine (outbox_one.calls k a1_0 a1_1 a1_2 a1_3 a1_4 a1_5 true _ ?side1 A3.out).mono ?_
        (case side1 => first | (with_reducible exact HT.out) | exact Tabs.below HT.out (beu HB.out))
        rintro e w29 ⟨rfl, hb⟩; refine ⟨_, rfl, ?_⟩; have n0_ := am (blk_below (bu BK115.out) hb); have n1_ := am (below_step (beu HB.out) hb); clear BK115 HB; have BK115 := n0_; have HB := n1_; clear n0_ n1_
        (try clear hb)
        (try clear hb2)
        (try clear hk)
        (try clear hi)
        refine hK.out _ _ ⟨(blk_cell BK115.out 0).trans rfl, (blk_cell BK115.out 1).trans rfl, (blk_cell BK115.out 2).trans rfl, (blk_cell BK115.out 3).trans rfl, (blk_cell BK115.out 4).trans rfl, (blk_cell BK115.out 5).trans rfl⟩ (fun hHeld => ?_); clear hK K; refine norm_ (a' := ?_) ?_ ?_; rotate_left
        · show Act.put _ (some 7) _ = _
          simp only [Act.put, sA, sB, sC, i64_w, i32_w]
          rfl
        refine pure_ (i := 2) (N := some 8) (v := ?_) (a' := ?_) (bs 20 7) rfl rfl (ak HT_.out) (fun _ _ _ h => h) (Or.inl ⟨by rfl, ?_⟩) ?_ ?_; rotate_left
        · intro w'
          go_simp
          with_reducible rfl
        rotate_left
        · simp only [Act.put, sA, sB, sC, i64_w, i32_w]
          rfl
        refine pure_ (i := 3) (N := some 9) (v := ?_) (a' := ?_) (bs 20 15) rfl rfl (ak HT_.out) (fun _ _ _ h => h) (Or.inl ⟨by rfl, ?_⟩) ?_ ?_; rotate_left
        · intro w'
          go_simp
          with_reducible rfl
        rotate_left
        · simp only [Act.put, sA, sB, sC, i64_w, i32_w]
          rfl
        refine pure_ (i := 4) (N := some 10) (v := ?_) (a' := ?_) (bs 20 31) rfl rfl (ak HT_.out) (fun _ _ _ h => h) (Or.inl ⟨by rfl, ?_⟩) ?_ ?_; rotate_left
        · intro w'
          go_simp
          with_reducible rfl
        rotate_left
        · simp only [Act.put, sA, sB, sC, i64_w, i32_w]
          rfl
        refine pure_ (i := 5) (N := some 11) (v := ?_) (a' := ?_) (bs 20 63) rfl rfl (ak HT_.out) (fun _ _ _ h => h) (Or.inl ⟨by rfl, ?_⟩) ?_ ?_; rotate_left
        · intro w'
          go_simp
          with_reducible rfl
        rotate_left
        · simp only [Act.put, sA, sB, sC, i64_w, i32_w]
          rfl
        refine pure_ (i := 6) (N := some 12) (v := ?_) (a' := ?_) (bs 20 127) rfl rfl (ak HT_.out) (fun _ _ _ h => h) (Or.inl ⟨by rfl, ?_⟩) ?_ ?_; rotate_left
        · intro w'
          go_simp
          with_reducible rfl
        rotate_left
        · simp only [Act.put, sA, sB, sC, i64_w, i32_w]
          rfl
        refine pure_ (i := 7) (N := some 13) (v := ?_) (a' := ?_) (bs 20 255) rfl rfl (ak HT_.out) (fun _ _ _ h => h) (Or.inl ⟨by rfl, ?_⟩) ?_ ?_; rotate_left
        · intro w'
          go_simp
          with_reducible rfl
        rotate_left
        · simp only [Act.put, sA, sB, sC, i64_w, i32_w]
          rfl
        refine pure_ (i := 8) (N := some 14) (v := undef) (a' := ?_) (bs 20 511) rfl rfl (ak HT_.out) (fun _ _ _ h => h) (Or.inr ⟨by rfl, rfl⟩) ?_ ?_; rotate_left
        · simp only [Act.put, sA, sB, sC, i64_w, i32_w]
          rfl
        refine pure_ (i := 9) (N := some 15) (v := undef) (a' := ?_) (bs 20 1023) rfl rfl (ak HT_.out) (fun _ _ _ h => h) (Or.inr ⟨by rfl, rfl⟩) ?_ ?_; rotate_left
        · simp only [Act.put, sA, sB, sC, i64_w, i32_w]
          rfl
        refine pure_ (i := 10) (N := some 16) (v := undef) (a' := ?_) (bs 20 2047) rfl rfl (ak HT_.out) (fun _ _ _ h => h) (Or.inr ⟨by rfl, rfl⟩) ?_ ?_; rotate_left
        · simp only [Act.put, sA, sB, sC, i64_w, i32_w]
          rfl
        refine pure_ (i := 11) (N := some 17) (v := undef) (a' := ?_) (bs 20 4095) rfl rfl (ak HT_.out) (fun _ _ _ h => h) (Or.inr ⟨by rfl, rfl⟩) ?_ ?_; rotate_left
        · simp only [Act.put, sA, sB, sC, i64_w, i32_w]
          rfl
        refine pure_ (i := 12) (N := some 18) (v := undef) (a' := ?_) (bs 20 8191) rfl rfl (ak HT_.out) (fun _ _ _ h => h) (Or.inr ⟨by rfl, rfl⟩) ?_ ?_; rotate_left
        · simp only [Act.put, sA, sB, sC, i64_w, i32_w]
          rfl
        refine pure_ (i := 13) (N := some 19) (v := undef) (a' := ?_) (bs 20 16383) rfl rfl (ak HT_.out) (fun _ _ _ h => h) (Or.inr ⟨by rfl, rfl⟩) ?_ ?_; rotate_left
        · simp only [Act.put, sA, sB, sC, i64_w, i32_w]
          rfl
        refine pure_ (i := 14) (N := some 20) (v := undef) (a' := ?_) (bs 20 32767) rfl rfl (ak HT_.out) (fun _ _ _ h => h) (Or.inr ⟨by rfl, rfl⟩) ?_ ?_; rotate_left
        · simp only [Act.put, sA, sB, sC, i64_w, i32_w]
          rfl
        refine pure_ (i := 15) (N := some 21) (v := undef) (a' := ?_) (bs 20 65535) rfl rfl (ak HT_.out) (fun _ _ _ h => h) (Or.inr ⟨by rfl, rfl⟩) ?_ ?_; rotate_left
        · simp only [Act.put, sA, sB, sC, i64_w, i32_w]
          rfl
        refine pure_ (i := 16) (N := some 22) (v := undef) (a' := ?_) (bs 20 131071) rfl rfl (ak HT_.out) (fun _ _ _ h => h) (Or.inr ⟨by rfl, rfl⟩) ?_ ?_; rotate_left
        · simp only [Act.put, sA, sB, sC, i64_w, i32_w]
          rfl
        refine pure_ (i := 17) (N := some 23) (v := undef) (a' := ?_) (bs 20 262143) rfl rfl (ak HT_.out) (fun _ _ _ h => h) (Or.inr ⟨by rfl, rfl⟩) ?_ ?_; rotate_left
        · simp only [Act.put, sA, sB, sC, i64_w, i32_w]
          rfl
        refine pure_ (i := 18) (N := some 24) (v := ?_) (a' := ?_) (bs 20 524287) rfl rfl (ak HT_.out) (fun _ _ _ h => h) (Or.inl ⟨by rfl, ?_⟩) ?_ ?_; rotate_left
        · intro w'
          go_simp
          with_reducible rfl
        rotate_left
        · simp only [Act.put, sA, sB, sC, i64_w, i32_w]
          rfl
        refine pure_ (i := 19) (N := some 25) (v := ?_) (a' := ?_) (bs 20 1048575) rfl rfl (ak HT_.out) (fun _ _ _ h => h) (Or.inl ⟨by rfl, ?_⟩) ?_ ?_; rotate_left
        · intro w'
          go_simp
          with_reducible rfl
        rotate_left
        · simp only [Act.put, sA, sB, sC, i64_w, i32_w]
          rfl
        refine done_ (done_of HT_.out (by kernel_rfl)) ?_
        try go_wp2
        (try (rw [drewN_self w29]; generalize hq_ : World.drewN w29 _ = w29; have _ := am (blk_at hq_ BK115.out); have _ := am (below_at hq_ HB.out); clear hq_ BK115 HB; rename_i BK115 HB))
        have n0_ := am (blk_drew BK115.out); have n1_ := am (below_drew1 HB.out); clear BK115 HB; have BK115 := n0_; have HB := n1_; clear n0_ n1_; refine start_ (n := 7) (S := fun w' => w'.cell? ⟨gb115, 0, none⟩ = some (.int .i64 a1_0) ∧ w'.cell? ⟨gb115, 1, none⟩ = some (.int .i64 a1_1) ∧ w'.cell? ⟨gb115, 2, none⟩ = some (.int .i64 a1_2) ∧ w'.cell? ⟨gb115, 3, none⟩ = some (.int .i64 a1_3) ∧ w'.cell? ⟨gb115, 4, none⟩ = some (.int .i64 a1_4) ∧ w'.cell? ⟨gb115, 5, none⟩ = some (.string a1_5)) (ds := []) #[false, false, false, false, false, false, false] (by kernel_rfl) rfl rfl ⟨(blk_cell BK115.out 0).trans rfl, (blk_cell BK115.out 1).trans rfl, (blk_cell BK115.out 2).trans rfl, (blk_cell BK115.out 3).trans rfl, (blk_cell BK115.out 4).trans rfl, (blk_cell BK115.out 5).trans rfl⟩ (fun hHeld => ?_); generalize w29.drew = w30 at BK115 HB hHeld ⊢; refine pure_ (i := 0) (N := some 26) (v := ?_) (a' := ?_) (bs 7 1) rfl rfl (by kernel_rfl) (fun _ _ _ h => h) (Or.inl ⟨by rfl, ?_⟩) ?_ ?_; rotate_left
        · intro w'
          go_simp
          with_reducible rfl
        rotate_left
        · simp only [Act.put, sA, sB, sC, i64_w, i32_w]
          rfl
        refine take_ (i := 2) (N := some 28) (v := ?_) (a' := ?_) (bs 7 5) rfl rfl (by kernel_rfl) (fun _ _ _ h => h) (Or.inl ⟨by rfl, ?_⟩) hHeld ?_ ?_; rotate_left
        · rintro w' ⟨s0, s1, s2, s3, s4, s5⟩
          go_simp
          with_reducible rfl
        rotate_left
        · simp only [Act.put, sA, sB, sC, i64_w, i32_w]
          rfl
        refine join_ (σ := Value × Value) 3 #[true, true, true, true, false, false, false] (fun s_ => [(27, s_.1), (29, s_.2)]) (fun s_ w' => (w'.cell? ⟨gb115, 0, none⟩ = some (.int .i64 a1_0) ∧ w'.cell? ⟨gb115, 1, none⟩ = some (.int .i64 a1_1) ∧ w'.cell? ⟨gb115, 2, none⟩ = some (.int .i64 a1_2) ∧ w'.cell? ⟨gb115, 3, none⟩ = some (.int .i64 a1_3) ∧ w'.cell? ⟨gb115, 4, none⟩ = some (.int .i64 a1_4) ∧ w'.cell? ⟨gb115, 5, none⟩ = some (.string a1_5)) ∧ (Kd.R k27 27 w' w.heap.size (fun k_ => some k_ ≠ (s_.2 : Value).ownBlock ∧ k_ ≠ gb115) s_.1 t127) ∧ (Kd.R k27 27 w' w.heap.size (fun k_ => some k_ ≠ (s_.1 : Value).ownBlock ∧ k_ ≠ gb115) s_.2 y130) ∧ (w'.heap[gb115]? = some (.cells #[.int .i64 a1_0, .int .i64 a1_1, .int .i64 a1_2, .int .i64 a1_3, .int .i64 a1_4, .string a1_5] 27 (0, 0))) ∧ (Below w.heap.size w w')) ?_ ?_; rotate_left
        · intro hCont
          refine two_ (i := 1) (j := 3) (Ni := some 27) (Nj := some 29) #[true, true, true, false, false, false, false] #[true, false, true, true, false, false, false] rfl rfl rfl rfl (by kernel_rfl) (by decide) (by decide) (fun K hK => ?_) (fun K hK => ?_)
          · skip
            refine goes_ Tryd.func32 (by kernel_rfl) rfl #[.slice A0 l0.length c0] (by rfl) rfl rfl ap1 ?_; with_reducible refine (api_Effect_32.calls _ _ l0 t127 _ ?side1 ?side2 A25.out).mono ?_
            (case side1 => exact cu (Kd.C_below HR0.out HB.out))
            (case side2 => exact HC0.out)
            rintro e w31 ⟨v128, rfl, ho0, hb⟩; refine ⟨_, rfl, ?_⟩; have n0_ := am (Kd.R_lower (Kd.R_newB ho0 (bu BK115.out)) (below_size (beu HB.out))); have n1_ := am (blk_below (bu BK115.out) hb); have n2_ := am (below_step (beu HB.out) hb); clear BK115 HB; have HO129 := n0_; have BK115 := n1_; have HB := n2_; clear n0_ n1_ n2_
            (try clear hb)
            (try clear hb2)
            (try clear hk)
            (try clear hi)
            (try clear ho0)
            refine hK.out _ _ ⟨(blk_cell BK115.out 0).trans rfl, (blk_cell BK115.out 1).trans rfl, (blk_cell BK115.out 2).trans rfl, (blk_cell BK115.out 3).trans rfl, (blk_cell BK115.out 4).trans rfl, (blk_cell BK115.out 5).trans rfl⟩ (fun hHeld => ?_); clear hK K; refine norm_ (a' := ?_) ?_ ?_; rotate_left
            · show Act.put _ (some 27) _ = _
              simp only [Act.put, sA, sB, sC, i64_w, i32_w]
              rfl
            refine one_ (i := 3) (N := some 29) (bs 7 15) rfl rfl (by kernel_rfl) (by decide) (fun K hK => ?_)
            refine Kd.R_lit_step k27 _ 27 ?hg (N := 29) ?hd (xs := ([(⟨a1_0, a1_1, a1_2, a1_3, a1_4, a1_5⟩ : S27)] : List (S27))) (inner := [.int .i64 a1_0, .int .i64 a1_1, .int .i64 a1_2, .int .i64 a1_3, .int .i64 a1_4, .string a1_5]) (ok := fun _ => True) (okp := fun _ => True) ?hr ?hp (fun _ hk => hk) trivial (Below.refl _ _) (Nat.le_refl _) (by simp) ?_; (case hd => rfl); (case hg => rfl); (case hr => first | (go_simp; done) | (go_simp; rfl)); (case hp => exact (Reps.c6 (show Kd.M k27 _ _ _ (⟨a1_0, a1_1, a1_2, a1_3, a1_4, a1_5⟩ : S27) [.int .i64 a1_0, .int .i64 a1_1, .int .i64 a1_2, .int .i64 a1_3, .int .i64 a1_4, .string a1_5] from (k27_mkM _ _ _ (⟨a1_0, a1_1, a1_2, a1_3, a1_4, a1_5⟩ : S27) )) (Reps.none _ _)))
            intro v131 w32 ho33 hb hg_ hnew_; clear hg_ hnew_
            (first | rw [← Ny130.out] at ho33 | (simp only [Int.reduceToNat] at ho33; rw [← Ny130.out] at ho33))
            have n0_ := am (Kd.R_elder' (ru HO129.out) (Kd.R_base ho33) hb); have n1_ := am (Kd.R_lower (Kd.R_newB (Kd.R_new' ho33 (Kd.R_lt (ru HO129.out))) (bu BK115.out)) (below_size (beu HB.out))); have n2_ := am (blk_below (bu BK115.out) hb); have n3_ := am (below_step (beu HB.out) hb); clear HO129 BK115 HB; have HO129 := n0_; have HO132 := n1_; have BK115 := n2_; have HB := n3_; clear n0_ n1_ n2_ n3_ hb ho33; refine hK.out _ _ ⟨(blk_cell BK115.out 0).trans rfl, (blk_cell BK115.out 1).trans rfl, (blk_cell BK115.out 2).trans rfl, (blk_cell BK115.out 3).trans rfl, (blk_cell BK115.out 4).trans rfl, (blk_cell BK115.out 5).trans rfl⟩ (fun hHeld => ?_); clear hK K; refine norm_ (a' := ?_) ?_ ?_; rotate_left
            · show Act.put _ (some 29) _ = _
              simp only [Act.put, sA, sB, sC, i64_w, i32_w]
              rfl
            exact norm_ (by simp only [putAll, Act.put, sA, sB, sC]) (hCont (v128, v131) _ ⟨hHeld, (ru (Kd.R_mono HO129.out (fun _ hk => ⟨hk.2, hk.1.2⟩))), (ru (Kd.R_mono HO132.out (fun _ hk => ⟨hk.1.2, hk.2⟩))), (bu BK115.out), (beu HB.out)⟩)
          · skip
            refine Kd.R_lit_step k27 _ 27 ?hg (N := 29) ?hd (xs := ([(⟨a1_0, a1_1, a1_2, a1_3, a1_4, a1_5⟩ : S27)] : List (S27))) (inner := [.int .i64 a1_0, .int .i64 a1_1, .int .i64 a1_2, .int .i64 a1_3, .int .i64 a1_4, .string a1_5]) (ok := fun _ => True) (okp := fun _ => True) ?hr ?hp (fun _ hk => hk) trivial (Below.refl _ _) (Nat.le_refl _) (by simp) ?_; (case hd => rfl); (case hg => rfl); (case hr => first | (go_simp; done) | (go_simp; rfl)); (case hp => exact (Reps.c6 (show Kd.M k27 _ _ _ (⟨a1_0, a1_1, a1_2, a1_3, a1_4, a1_5⟩ : S27) [.int .i64 a1_0, .int .i64 a1_1, .int .i64 a1_2, .int .i64 a1_3, .int .i64 a1_4, .string a1_5] from (k27_mkM _ _ _ (⟨a1_0, a1_1, a1_2, a1_3, a1_4, a1_5⟩ : S27) )) (Reps.none _ _)))
            intro v131 w31 ho32 hb hg_ hnew_; clear hg_ hnew_
            (first | rw [← Ny130.out] at ho32 | (simp only [Int.reduceToNat] at ho32; rw [← Ny130.out] at ho32))
            have n0_ := am (Kd.R_lower (Kd.R_newB ho32 (bu BK115.out)) (below_size (beu HB.out))); have n1_ := am (blk_below (bu BK115.out) hb); have n2_ := am (below_step (beu HB.out) hb); clear BK115 HB; have HO132 := n0_; have BK115 := n1_; have HB := n2_; clear n0_ n1_ n2_ hb ho32; refine hK.out _ _ ⟨(blk_cell BK115.out 0).trans rfl, (blk_cell BK115.out 1).trans rfl, (blk_cell BK115.out 2).trans rfl, (blk_cell BK115.out 3).trans rfl, (blk_cell BK115.out 4).trans rfl, (blk_cell BK115.out 5).trans rfl⟩ (fun hHeld => ?_); clear hK K; refine norm_ (a' := ?_) ?_ ?_; rotate_left
            · show Act.put _ (some 29) _ = _
              simp only [Act.put, sA, sB, sC, i64_w, i32_w]
              rfl
            refine one_ (i := 1) (N := some 27) (bs 7 15) rfl rfl (by kernel_rfl) (by decide) (fun K hK => ?_); refine goes_ Tryd.func32 (by kernel_rfl) rfl #[.slice A0 l0.length c0] (by rfl) rfl rfl ap1 ?_; with_reducible refine (api_Effect_32.calls _ _ l0 t127 _ ?side1 ?side2 A25.out).mono ?_
            (case side1 => exact cu (Kd.C_below HR0.out HB.out))
            (case side2 => exact HC0.out)
            rintro e w33 ⟨v128, rfl, ho0, hb⟩; refine ⟨_, rfl, ?_⟩; have n0_ := am (Kd.R_elder' (ru HO132.out) (Kd.R_base ho0) hb); have n1_ := am (Kd.R_lower (Kd.R_newB (Kd.R_new' ho0 (Kd.R_lt (ru HO132.out))) (bu BK115.out)) (below_size (beu HB.out))); have n2_ := am (blk_below (bu BK115.out) hb); have n3_ := am (below_step (beu HB.out) hb); clear HO132 BK115 HB; have HO132 := n0_; have HO129 := n1_; have BK115 := n2_; have HB := n3_; clear n0_ n1_ n2_ n3_
            (try clear hb)
            (try clear hb2)
            (try clear hk)
            (try clear hi)
            (try clear ho0)
            refine hK.out _ _ ⟨(blk_cell BK115.out 0).trans rfl, (blk_cell BK115.out 1).trans rfl, (blk_cell BK115.out 2).trans rfl, (blk_cell BK115.out 3).trans rfl, (blk_cell BK115.out 4).trans rfl, (blk_cell BK115.out 5).trans rfl⟩ (fun hHeld => ?_); clear hK K; refine norm_ (a' := ?_) ?_ ?_; rotate_left
            · show Act.put _ (some 27) _ = _
              simp only [Act.put, sA, sB, sC, i64_w, i32_w]
              rfl
            exact norm_ (by simp only [putAll, Act.put, sA, sB, sC]) (hCont (v128, v131) _ ⟨hHeld, (ru (Kd.R_mono HO129.out (fun _ hk => ⟨hk.1.2, hk.2⟩))), (ru (Kd.R_mono HO132.out (fun _ hk => ⟨hk.2, hk.1.2⟩))), (bu BK115.out), (beu HB.out)⟩)
        rintro ⟨v128, v131⟩ w34 ⟨hS_, h0_, h1_, h2_, h3_⟩; have n0_ : Aside0 (Kd.R k27 27 w34 w.heap.size (fun k_ => some k_ ≠ (v131 : Value).ownBlock ∧ k_ ≠ gb115) v128 t127) := ⟨h0_⟩; have n1_ : Aside0 (Kd.R k27 27 w34 w.heap.size (fun k_ => some k_ ≠ (v128 : Value).ownBlock ∧ k_ ≠ gb115) v131 y130) := ⟨h1_⟩; have n2_ : Aside0 (w34.heap[gb115]? = some (.cells #[.int .i64 a1_0, .int .i64 a1_1, .int .i64 a1_2, .int .i64 a1_3, .int .i64 a1_4, .string a1_5] 27 (0, 0))) := ⟨h2_⟩; have n3_ : Aside0 (Below w.heap.size w w34) := ⟨h3_⟩; clear BK115 HB h0_ h1_ h2_ h3_; have HO129 := n0_; have HO132 := n1_; have BK115 := n2_; have HB := n3_; clear n0_ n1_ n2_ n3_; have hHeld : w34.cell? ⟨gb115, 0, none⟩ = some (.int .i64 a1_0) ∧ w34.cell? ⟨gb115, 1, none⟩ = some (.int .i64 a1_1) ∧ w34.cell? ⟨gb115, 2, none⟩ = some (.int .i64 a1_2) ∧ w34.cell? ⟨gb115, 3, none⟩ = some (.int .i64 a1_3) ∧ w34.cell? ⟨gb115, 4, none⟩ = some (.int .i64 a1_4) ∧ w34.cell? ⟨gb115, 5, none⟩ = some (.string a1_5) := hS_; obtain ⟨Ao36, co36, eo36⟩ := Kd.R_slice HO132.out
        (first | subst eo36 | (injection eo36 with f1_ f2_ f3_; have f4_ := f1_.symm; have f5_ := f3_.symm; clear f1_ f2_ f3_; subst f4_; subst f5_))
        refine norm_ (a' := ?_) ?_ ?_; rotate_left
        · simp only [putAll, Act.put, sA, sB, sC]
          rfl
        refine one_ (i := 4) (N := some 30) (bs 7 31) rfl rfl (by kernel_rfl) (by decide) (fun K hK => ?_); refine Kd.R_append_rows_step k27 (w0 := w) w.heap.size (by rfl) (.tmp 27) (.tmp 29) 22 27 (.agg #[(.int .i64 0), (.int .i64 0), (.int .i64 0), (.int .i64 0), (.int .i64 0), (.string ⟨#[]⟩)]) 56 rfl Tryd.underlying22 info27 rfl (by decide) (by omega) v128 t127 y130 _ _ _ (fun k_ => some k_ ≠ (.slice Ao36 y130.length co36 : Value).ownBlock ∧ k_ ≠ gb115) (fun _ => False) rfl rfl ?aO ?aR (fun _ _ h => h) (fun _ h => h.elim) ?aF ?aB ?aS ?aL ?_
        (case aR => exact cu (Kd.R_reads' HO132.out).2.2)
        (case aB => exact (beu HB.out))
        (case aF => exact (fun k_ hk => ⟨Kd.fresh' (Kd.R_lt (ru HO132.out)) k_ hk, Kd.freshB (bu BK115.out) k_ hk⟩))
        (case aO => exact (ru HO129.out))
        (case aS => exact (below_size (beu HB.out)))
        (case aL => have := LMc26.out; omega)
        intro v134 w35 ho hb hg hat; rw [← Ny133.out] at ho; have n0_ := am (blk_grown (bu BK115.out) hg (Kd.R_away HO129.out (fun _ hk => hk.2))); have n1_ := am (Kd.R_after (ok := (fun k_ => k_ ≠ gb115)) (ru (Kd.R_mono HO132.out (fun _ hk => ⟨hk.2, hk.1⟩))) hg hat); have n2_ := am (hb); have n3_ := am (ho); clear BK115 HO132 HB HO129; have BK115 := n0_; have HO132 := n1_; have HB := n2_; have HO135 := n3_; clear n0_ n1_ n2_ n3_ ho hb hg hat; refine hK.out _ _ ⟨(blk_cell BK115.out 0).trans rfl, (blk_cell BK115.out 1).trans rfl, (blk_cell BK115.out 2).trans rfl, (blk_cell BK115.out 3).trans rfl, (blk_cell BK115.out 4).trans rfl, (blk_cell BK115.out 5).trans rfl⟩ (fun hHeld => ?_); clear hK K; refine norm_ (a' := ?_) ?_ ?_; rotate_left
        · show Act.put _ (some 30) _ = _
          simp only [Act.put, sA, sB, sC, i64_w, i32_w]
          rfl
        refine pure_ (i := 5) (N := some 4) (v := ?_) (a' := ?_) (bs 7 63) rfl rfl (by kernel_rfl) (fun _ _ _ h => h) (Or.inl ⟨by rfl, ?_⟩) ?_ ?_; rotate_left
        · intro w'
          go_simp
          with_reducible rfl
        rotate_left
        · simp only [Act.put, sA, sB, sC, i64_w, i32_w]
          rfl
        refine pure_ (i := 6) (N := some 5) (v := ?_) (a' := ?_) (bs 7 127) rfl rfl (by kernel_rfl) (fun _ _ _ h => h) (Or.inl ⟨by rfl, ?_⟩) ?_ ?_; rotate_left
        · intro w'
          go_simp
          with_reducible rfl
        rotate_left
        · simp only [Act.put, sA, sB, sC, i64_w, i32_w]
          rfl
        refine done_ (by kernel_rfl) ?_
        try go_wp2
        go_ret2
        exact ⟨_, ap4, ru (Kd.R_mono HO135.out (fun _ hk => trivial)), beu HB.out⟩
      · rw [if_neg c26] at H
        exact absurd H (by simp)
  · replace c4 := Bool.eq_false_iff.mpr c4
    subst c4
    have H1 : (some (([] : List (S27)), 131)) = some (r1, r2) := by rw [if_neg (show ¬ (false = true) by decide)] at H; exact H
    clear H; have H := H1; clear H1; simp only [Option.some.injEq, Prod.mk.injEq] at H; obtain ⟨rfl, rfl⟩ := H
    go_enter Tryd.func9, Tryd.ntmps9
    try go_wp2_with (first | ((with_reducible refine gate_dst (N := 3) rfl ?_); (try (refine gate_guard (by rfl) ?_; dsimp only)); refine box_event ?hg (N := 3) ?hd (cs := #[.int .i64 a1_0, .int .i64 a1_1, .int .i64 a1_2, .int .i64 a1_3, .int .i64 a1_4, .string a1_5]) (t := 27) ?hr ?_; (case hd => rfl); (case hg => rfl); (case hr => first | (go_simp; done) | (go_simp; rfl)); intro gb115 hg w37 hbox hb; have _ := am (below_step (beu HB.out) hb); have _ := am (hbox); have _ := am ((by rw [hg]; exact (below_size (beu HB.out)) : w.heap.size ≤ gb115)); have _ := am ((by rw [hg]; exact (below_size (beu HB.out)) : w.heap.size ≤ gb115)); clear HB; rename_i HB BK115 GW115 GE115; clear hb hbox hg))
    (try (rw [drewN_self w37]; generalize hq_ : World.drewN w37 _ = w37; have _ := am (blk_at hq_ BK115.out); have _ := am (below_at hq_ HB.out); clear hq_ BK115 HB; rename_i BK115 HB))
    have n0_ := am (blk_drew BK115.out); have n1_ := am (below_drew1 HB.out); clear BK115 HB; have BK115 := n0_; have HB := n1_; clear n0_ n1_
    refine start_ (n := 20) (S := fun w' => w'.cell? ⟨gb115, 0, none⟩ = some (.int .i64 a1_0) ∧ w'.cell? ⟨gb115, 1, none⟩ = some (.int .i64 a1_1) ∧ w'.cell? ⟨gb115, 2, none⟩ = some (.int .i64 a1_2) ∧ w'.cell? ⟨gb115, 3, none⟩ = some (.int .i64 a1_3) ∧ w'.cell? ⟨gb115, 4, none⟩ = some (.int .i64 a1_4) ∧ w'.cell? ⟨gb115, 5, none⟩ = some (.string a1_5)) (ds := []) #[false, false, false, false, false, false, false, false, false, false, false, false, false, false, false, false, false, false, false, false] (by kernel_rfl) rfl rfl ⟨(blk_cell BK115.out 0).trans rfl, (blk_cell BK115.out 1).trans rfl, (blk_cell BK115.out 2).trans rfl, (blk_cell BK115.out 3).trans rfl, (blk_cell BK115.out 4).trans rfl, (blk_cell BK115.out 5).trans rfl⟩ (fun hHeld => ?_); refine with_tabW outbox_Add.tab1 outbox_Add.bits1 (fun HT_ HW_ => ?_)
    generalize w37.drew = w38 at BK115 HB hHeld ⊢; refine take_ (i := 0) (N := some 6) (v := ?_) (a' := ?_) (bs 20 1) rfl rfl (take_ofW HT_.out HW_.out (by kernel_rfl)) (fun _ _ _ h => h) (Or.inl ⟨by rfl, ?_⟩) hHeld ?_ ?_; rotate_left
    · rintro w' ⟨s0, s1, s2, s3, s4, s5⟩
      go_simp
      with_reducible rfl
    rotate_left
    · simp only [Act.put, sA, sB, sC, i64_w, i32_w]
      rfl
    refine one_ (i := 1) (N := some 7) (bs 20 3) rfl rfl (one_of HT_.out (by kernel_rfl)) (by decide) (fun K hK => ?_); refine goes_ Tryd.func31 (by kernel_rfl) rfl #[.agg #[.int .i64 a1_0, .int .i64 a1_1, .int .i64 a1_2, .int .i64 a1_3, .int .i64 a1_4, .string a1_5]] (by rfl) rfl rfl ap1 ?_; with_reducible refine (outbox_one.calls k a1_0 a1_1 a1_2 a1_3 a1_4 a1_5 false _ ?side1 A3.out).mono ?_
    (case side1 => first | (with_reducible exact HT.out) | exact Tabs.below HT.out (beu HB.out))
    rintro e w39 ⟨rfl, hb⟩; refine ⟨_, rfl, ?_⟩; have n0_ := am (blk_below (bu BK115.out) hb); have n1_ := am (below_step (beu HB.out) hb); clear BK115 HB; have BK115 := n0_; have HB := n1_; clear n0_ n1_
    (try clear hb)
    (try clear hb2)
    (try clear hk)
    (try clear hi)
    refine hK.out _ _ ⟨(blk_cell BK115.out 0).trans rfl, (blk_cell BK115.out 1).trans rfl, (blk_cell BK115.out 2).trans rfl, (blk_cell BK115.out 3).trans rfl, (blk_cell BK115.out 4).trans rfl, (blk_cell BK115.out 5).trans rfl⟩ (fun hHeld => ?_); clear hK K; refine norm_ (a' := ?_) ?_ ?_; rotate_left
    · show Act.put _ (some 7) _ = _
      simp only [Act.put, sA, sB, sC, i64_w, i32_w]
      rfl
    refine pure_ (i := 2) (N := some 8) (v := ?_) (a' := ?_) (bs 20 7) rfl rfl (ak HT_.out) (fun _ _ _ h => h) (Or.inl ⟨by rfl, ?_⟩) ?_ ?_; rotate_left
    · intro w'
      go_simp
      with_reducible rfl
    rotate_left
    · simp only [Act.put, sA, sB, sC, i64_w, i32_w]
      rfl
    refine pure_ (i := 3) (N := some 9) (v := ?_) (a' := ?_) (bs 20 15) rfl rfl (ak HT_.out) (fun _ _ _ h => h) (Or.inl ⟨by rfl, ?_⟩) ?_ ?_; rotate_left
    · intro w'
      go_simp
      with_reducible rfl
    rotate_left
    · simp only [Act.put, sA, sB, sC, i64_w, i32_w]
      rfl
    refine pure_ (i := 4) (N := some 10) (v := undef) (a' := ?_) (bs 20 31) rfl rfl (ak HT_.out) (fun _ _ _ h => h) (Or.inr ⟨by rfl, rfl⟩) ?_ ?_; rotate_left
    · simp only [Act.put, sA, sB, sC, i64_w, i32_w]
      rfl
    refine pure_ (i := 5) (N := some 11) (v := undef) (a' := ?_) (bs 20 63) rfl rfl (ak HT_.out) (fun _ _ _ h => h) (Or.inr ⟨by rfl, rfl⟩) ?_ ?_; rotate_left
    · simp only [Act.put, sA, sB, sC, i64_w, i32_w]
      rfl
    refine pure_ (i := 6) (N := some 12) (v := undef) (a' := ?_) (bs 20 127) rfl rfl (ak HT_.out) (fun _ _ _ h => h) (Or.inr ⟨by rfl, rfl⟩) ?_ ?_; rotate_left
    · simp only [Act.put, sA, sB, sC, i64_w, i32_w]
      rfl
    refine pure_ (i := 7) (N := some 13) (v := undef) (a' := ?_) (bs 20 255) rfl rfl (ak HT_.out) (fun _ _ _ h => h) (Or.inr ⟨by rfl, rfl⟩) ?_ ?_; rotate_left
    · simp only [Act.put, sA, sB, sC, i64_w, i32_w]
      rfl
    refine pure_ (i := 8) (N := some 14) (v := undef) (a' := ?_) (bs 20 511) rfl rfl (ak HT_.out) (fun _ _ _ h => h) (Or.inr ⟨by rfl, rfl⟩) ?_ ?_; rotate_left
    · simp only [Act.put, sA, sB, sC, i64_w, i32_w]
      rfl
    refine pure_ (i := 9) (N := some 15) (v := undef) (a' := ?_) (bs 20 1023) rfl rfl (ak HT_.out) (fun _ _ _ h => h) (Or.inr ⟨by rfl, rfl⟩) ?_ ?_; rotate_left
    · simp only [Act.put, sA, sB, sC, i64_w, i32_w]
      rfl
    refine pure_ (i := 10) (N := some 16) (v := undef) (a' := ?_) (bs 20 2047) rfl rfl (ak HT_.out) (fun _ _ _ h => h) (Or.inr ⟨by rfl, rfl⟩) ?_ ?_; rotate_left
    · simp only [Act.put, sA, sB, sC, i64_w, i32_w]
      rfl
    refine pure_ (i := 11) (N := some 17) (v := undef) (a' := ?_) (bs 20 4095) rfl rfl (ak HT_.out) (fun _ _ _ h => h) (Or.inr ⟨by rfl, rfl⟩) ?_ ?_; rotate_left
    · simp only [Act.put, sA, sB, sC, i64_w, i32_w]
      rfl
    refine pure_ (i := 12) (N := some 18) (v := undef) (a' := ?_) (bs 20 8191) rfl rfl (ak HT_.out) (fun _ _ _ h => h) (Or.inr ⟨by rfl, rfl⟩) ?_ ?_; rotate_left
    · simp only [Act.put, sA, sB, sC, i64_w, i32_w]
      rfl
    refine pure_ (i := 13) (N := some 19) (v := undef) (a' := ?_) (bs 20 16383) rfl rfl (ak HT_.out) (fun _ _ _ h => h) (Or.inr ⟨by rfl, rfl⟩) ?_ ?_; rotate_left
    · simp only [Act.put, sA, sB, sC, i64_w, i32_w]
      rfl
    refine pure_ (i := 14) (N := some 20) (v := undef) (a' := ?_) (bs 20 32767) rfl rfl (ak HT_.out) (fun _ _ _ h => h) (Or.inr ⟨by rfl, rfl⟩) ?_ ?_; rotate_left
    · simp only [Act.put, sA, sB, sC, i64_w, i32_w]
      rfl
    refine pure_ (i := 15) (N := some 21) (v := undef) (a' := ?_) (bs 20 65535) rfl rfl (ak HT_.out) (fun _ _ _ h => h) (Or.inr ⟨by rfl, rfl⟩) ?_ ?_; rotate_left
    · simp only [Act.put, sA, sB, sC, i64_w, i32_w]
      rfl
    refine pure_ (i := 16) (N := some 22) (v := undef) (a' := ?_) (bs 20 131071) rfl rfl (ak HT_.out) (fun _ _ _ h => h) (Or.inr ⟨by rfl, rfl⟩) ?_ ?_; rotate_left
    · simp only [Act.put, sA, sB, sC, i64_w, i32_w]
      rfl
    refine pure_ (i := 17) (N := some 23) (v := undef) (a' := ?_) (bs 20 262143) rfl rfl (ak HT_.out) (fun _ _ _ h => h) (Or.inr ⟨by rfl, rfl⟩) ?_ ?_; rotate_left
    · simp only [Act.put, sA, sB, sC, i64_w, i32_w]
      rfl
    refine pure_ (i := 18) (N := some 24) (v := undef) (a' := ?_) (bs 20 524287) rfl rfl (ak HT_.out) (fun _ _ _ h => h) (Or.inr ⟨by rfl, rfl⟩) ?_ ?_; rotate_left
    · simp only [Act.put, sA, sB, sC, i64_w, i32_w]
      rfl
    refine pure_ (i := 19) (N := some 25) (v := ?_) (a' := ?_) (bs 20 1048575) rfl rfl (ak HT_.out) (fun _ _ _ h => h) (Or.inl ⟨by rfl, ?_⟩) ?_ ?_; rotate_left
    · intro w'
      go_simp
      with_reducible rfl
    rotate_left
    · simp only [Act.put, sA, sB, sC, i64_w, i32_w]
      rfl
    refine done_ (done_of HT_.out (by kernel_rfl)) ?_
    try go_wp2
    go_ret2
    exact ⟨_, ap4, by first | exact Kd.R_nil _ _ _ _ _ | exact Kd.N_nil _ _ _ _ _ | exact Kd.V_nil _ _ _ _ _ | exact Kd.Q_nil _ _ _ _ _ | exact Kd.S_nil _ _ _ _ _, beu HB.out⟩
def cmp_isNaN_int64.f (a0 : Int) : Option (Bool) := some (a0 != a0)
set_option maxHeartbeats 8000000 in
set_option maxRecDepth 100000 in
theorem cmp_isNaN_int64.calls (a0 : Int) (r : Bool) (w : World) (h : cmp_isNaN_int64.f a0 = some r) :
    Calls Tryd.prog 59 #[.int .i64 a0] w fun e w' => e = .returned (.bool r) ∧ Drawn0 w w' := by
  have H : (some (a0 != a0)) = some r := h; clear h; obtain rfl := Option.some.inj H; simp only [Option.some.injEq, Prod.mk.injEq] at H; obtain ⟨rfl⟩ := H
  go_enter Tryd.func59, Tryd.ntmps59
  go_wp2
  go_ret
  exact ⟨ap3, ap5⟩
def cmp_Compare_int64.f (a0 : Int) (a1 : Int) : Option (Int) := (cmp_isNaN_int64.f a0).bind fun t136 => ((cmp_isNaN_int64.f a1).bind fun t137 => (if t136 = true then (if t137 = true then (some 0) else (some (-1))) else (if t137 = true then (some 1) else (if a0 < a1 then (some (-1)) else (if a0 > a1 then (some 1) else (some 0))))))
set_option maxHeartbeats 8000000 in
set_option maxRecDepth 100000 in
theorem cmp_Compare_int64.calls (a0 : Int) (a1 : Int) (r : Int) (w : World) (h : cmp_Compare_int64.f a0 a1 = some r) :
    Calls Tryd.prog 53 #[.int .i64 a0, .int .i64 a1] w fun e w' => e = .returned (.int .i64 r) ∧ Drawn0 w w' := by
  have H : ((cmp_isNaN_int64.f a0).bind fun t136 => ((cmp_isNaN_int64.f a1).bind fun t137 => (if t136 = true then (if t137 = true then (some 0) else (some (-1))) else (if t137 = true then (some 1) else (if a0 < a1 then (some (-1)) else (if a0 > a1 then (some 1) else (some 0))))))) = some r := h; clear h; replace H := obm H; obtain ⟨t136, A30, H⟩ := H; replace H : ((cmp_isNaN_int64.f a1).bind fun t137 => (if t136 = true then (if t137 = true then (some 0) else (some (-1))) else (if t137 = true then (some 1) else (if a0 < a1 then (some (-1)) else (if a0 > a1 then (some 1) else (some 0)))))) = some r := H; have A3 := am A30; clear A30; replace H := obm H; obtain ⟨t137, A40, H⟩ := H; replace H : (if t136 = true then (if t137 = true then (some 0) else (some (-1))) else (if t137 = true then (some 1) else (if a0 < a1 then (some (-1)) else (if a0 > a1 then (some 1) else (some 0))))) = some r := H; have A4 := am A40; clear A40
  by_cases c5 : t136 = true
  · subst c5
    have H1 : (if t137 = true then (some 0) else (some (-1))) = some r := by rw [if_pos rfl] at H; exact H
    clear H; have H := H1; clear H1
    by_cases c6 : t137 = true
    · subst c6
      have H1 : (some 0) = some r := by rw [if_pos rfl] at H; exact H
      clear H; have H := H1; clear H1; obtain rfl := Option.some.inj H; simp only [Option.some.injEq, Prod.mk.injEq] at H; obtain ⟨rfl⟩ := H
      go_enter Tryd.func53, Tryd.ntmps53
      go_wp2_with (first | ((with_reducible refine gate_callee (f := 59) rfl ?_); refine goesL_ (some 8) rfl rfl Tryd.func59 (by kernel_rfl) rfl #[.int .i64 a0] rfl ap1 ?_; (with_reducible refine (cmp_isNaN_int64.calls a0 true _ A3.out).mono ?_); rintro e w' ⟨rfl, ⟨nd, rfl⟩⟩; refine ⟨_, rfl, ?_⟩) | ((with_reducible refine gate_callee (f := 59) rfl ?_); refine goesL_ (some 10) rfl rfl Tryd.func59 (by kernel_rfl) rfl #[.int .i64 a1] rfl ap1 ?_; (with_reducible refine (cmp_isNaN_int64.calls a1 true _ A4.out).mono ?_); rintro e w' ⟨rfl, ⟨nd, rfl⟩⟩; refine ⟨_, rfl, ?_⟩))
      go_ret
      exact ⟨ap3, ap5⟩
    · replace c6 := Bool.eq_false_iff.mpr c6
      subst c6
      have H1 : (some (-1)) = some r := by rw [if_neg (show ¬ (false = true) by decide)] at H; exact H
      clear H; have H := H1; clear H1; obtain rfl := Option.some.inj H; simp only [Option.some.injEq, Prod.mk.injEq] at H; obtain ⟨rfl⟩ := H
      go_enter Tryd.func53, Tryd.ntmps53
      go_wp2_with (first | ((with_reducible refine gate_callee (f := 59) rfl ?_); refine goesL_ (some 8) rfl rfl Tryd.func59 (by kernel_rfl) rfl #[.int .i64 a0] rfl ap1 ?_; (with_reducible refine (cmp_isNaN_int64.calls a0 true _ A3.out).mono ?_); rintro e w' ⟨rfl, ⟨nd, rfl⟩⟩; refine ⟨_, rfl, ?_⟩) | ((with_reducible refine gate_callee (f := 59) rfl ?_); refine goesL_ (some 10) rfl rfl Tryd.func59 (by kernel_rfl) rfl #[.int .i64 a1] rfl ap1 ?_; (with_reducible refine (cmp_isNaN_int64.calls a1 false _ A4.out).mono ?_); rintro e w' ⟨rfl, ⟨nd, rfl⟩⟩; refine ⟨_, rfl, ?_⟩))
      go_ret
      exact ⟨ap3, ap5⟩
  · replace c5 := Bool.eq_false_iff.mpr c5
    subst c5
    have H1 : (if t137 = true then (some 1) else (if a0 < a1 then (some (-1)) else (if a0 > a1 then (some 1) else (some 0)))) = some r := by rw [if_neg (show ¬ (false = true) by decide)] at H; exact H
    clear H; have H := H1; clear H1
    by_cases c7 : t137 = true
    · subst c7
      have H1 : (some 1) = some r := by rw [if_pos rfl] at H; exact H
      clear H; have H := H1; clear H1; obtain rfl := Option.some.inj H; simp only [Option.some.injEq, Prod.mk.injEq] at H; obtain ⟨rfl⟩ := H
      go_enter Tryd.func53, Tryd.ntmps53
      go_wp2_with (first | ((with_reducible refine gate_callee (f := 59) rfl ?_); refine goesL_ (some 8) rfl rfl Tryd.func59 (by kernel_rfl) rfl #[.int .i64 a0] rfl ap1 ?_; (with_reducible refine (cmp_isNaN_int64.calls a0 false _ A3.out).mono ?_); rintro e w' ⟨rfl, ⟨nd, rfl⟩⟩; refine ⟨_, rfl, ?_⟩) | ((with_reducible refine gate_callee (f := 59) rfl ?_); refine goesL_ (some 10) rfl rfl Tryd.func59 (by kernel_rfl) rfl #[.int .i64 a1] rfl ap1 ?_; (with_reducible refine (cmp_isNaN_int64.calls a1 true _ A4.out).mono ?_); rintro e w' ⟨rfl, ⟨nd, rfl⟩⟩; refine ⟨_, rfl, ?_⟩))
      go_ret
      exact ⟨ap3, ap5⟩
    · replace c7 := Bool.eq_false_iff.mpr c7
      subst c7
      have H1 : (if a0 < a1 then (some (-1)) else (if a0 > a1 then (some 1) else (some 0))) = some r := by rw [if_neg (show ¬ (false = true) by decide)] at H; exact H
      clear H; have H := H1; clear H1
      by_cases c8 : a0 < a1
      · rw [if_pos c8] at H
        have c8b0 : decide (a0 < a1) = true := decide_eq_true c8; clear c8; obtain rfl := Option.some.inj H; simp only [Option.some.injEq, Prod.mk.injEq] at H; obtain ⟨rfl⟩ := H
        go_enter Tryd.func53, Tryd.ntmps53
        go_wp2_with (first | ((with_reducible refine gate_callee (f := 59) rfl ?_); refine goesL_ (some 8) rfl rfl Tryd.func59 (by kernel_rfl) rfl #[.int .i64 a0] rfl ap1 ?_; (with_reducible refine (cmp_isNaN_int64.calls a0 false _ A3.out).mono ?_); rintro e w' ⟨rfl, ⟨nd, rfl⟩⟩; refine ⟨_, rfl, ?_⟩) | ((with_reducible refine gate_callee (f := 59) rfl ?_); refine goesL_ (some 10) rfl rfl Tryd.func59 (by kernel_rfl) rfl #[.int .i64 a1] rfl ap1 ?_; (with_reducible refine (cmp_isNaN_int64.calls a1 false _ A4.out).mono ?_); rintro e w' ⟨rfl, ⟨nd, rfl⟩⟩; refine ⟨_, rfl, ?_⟩))
        go_ret
        exact ⟨ap3, ap5⟩
      · rw [if_neg c8] at H
        have c8b0 : decide (a0 < a1) = false := decide_eq_false c8; clear c8
        by_cases c9 : a0 > a1
        · rw [if_pos c9] at H
          have c9b0 : decide (a1 < a0) = true := decide_eq_true c9; clear c9; obtain rfl := Option.some.inj H; simp only [Option.some.injEq, Prod.mk.injEq] at H; obtain ⟨rfl⟩ := H
          go_enter Tryd.func53, Tryd.ntmps53
          go_wp2_with (first | ((with_reducible refine gate_callee (f := 59) rfl ?_); refine goesL_ (some 8) rfl rfl Tryd.func59 (by kernel_rfl) rfl #[.int .i64 a0] rfl ap1 ?_; (with_reducible refine (cmp_isNaN_int64.calls a0 false _ A3.out).mono ?_); rintro e w' ⟨rfl, ⟨nd, rfl⟩⟩; refine ⟨_, rfl, ?_⟩) | ((with_reducible refine gate_callee (f := 59) rfl ?_); refine goesL_ (some 10) rfl rfl Tryd.func59 (by kernel_rfl) rfl #[.int .i64 a1] rfl ap1 ?_; (with_reducible refine (cmp_isNaN_int64.calls a1 false _ A4.out).mono ?_); rintro e w' ⟨rfl, ⟨nd, rfl⟩⟩; refine ⟨_, rfl, ?_⟩))
          go_ret
          exact ⟨ap3, ap5⟩
        · rw [if_neg c9] at H
          have c9b0 : decide (a1 < a0) = false := decide_eq_false c9; clear c9; obtain rfl := Option.some.inj H; simp only [Option.some.injEq, Prod.mk.injEq] at H; obtain ⟨rfl⟩ := H
          go_enter Tryd.func53, Tryd.ntmps53
          go_wp2_with (first | ((with_reducible refine gate_callee (f := 59) rfl ?_); refine goesL_ (some 8) rfl rfl Tryd.func59 (by kernel_rfl) rfl #[.int .i64 a0] rfl ap1 ?_; (with_reducible refine (cmp_isNaN_int64.calls a0 false _ A3.out).mono ?_); rintro e w' ⟨rfl, ⟨nd, rfl⟩⟩; refine ⟨_, rfl, ?_⟩) | ((with_reducible refine gate_callee (f := 59) rfl ?_); refine goesL_ (some 10) rfl rfl Tryd.func59 (by kernel_rfl) rfl #[.int .i64 a1] rfl ap1 ?_; (with_reducible refine (cmp_isNaN_int64.calls a1 false _ A4.out).mono ?_); rintro e w' ⟨rfl, ⟨nd, rfl⟩⟩; refine ⟨_, rfl, ?_⟩))
          go_ret
          exact ⟨ap3, ap5⟩
def outbox_place_1.f (a0_0 : Int) (a0_1 : Int) (a0_2 : Int) (a0_3 : Int) (a0_4 : Int) (a0_5 : ByteArray) (a1 : Int) : Option (Int) := (cmp_Compare_int64.f a0_0 a1).bind fun t139 => (some t139)
set_option maxHeartbeats 8000000 in
set_option maxRecDepth 100000 in
theorem outbox_place_1.calls (a0_0 : Int) (a0_1 : Int) (a0_2 : Int) (a0_3 : Int) (a0_4 : Int) (a0_5 : ByteArray) (a1 : Int) (r : Int) (w : World) (h : outbox_place_1.f a0_0 a0_1 a0_2 a0_3 a0_4 a0_5 a1 = some r) :
    Calls Tryd.prog 52 #[.agg #[.int .i64 a0_0, .int .i64 a0_1, .int .i64 a0_2, .int .i64 a0_3, .int .i64 a0_4, .string a0_5], .int .i64 a1] w fun e w' => e = .returned (.int .i64 r) ∧ Below w.heap.size w w' := by
  have hu27 := Tryd.underlying27; have HB := am (Below.refl w.heap.size w); have H : ((cmp_Compare_int64.f a0_0 a1).bind fun t139 => (some t139)) = some r := h; clear h; replace H := obm H; obtain ⟨t139, A30, H⟩ := H; replace H : (some t139) = some r := H; have A3 := am A30; clear A30; obtain rfl := Option.some.inj H; simp only [Option.some.injEq, Prod.mk.injEq] at H; obtain ⟨rfl⟩ := H
  go_enter Tryd.func52, Tryd.ntmps52
  go_wp2_with (first | ((with_reducible refine gate_dst (N := 2) rfl ?_); refine box_event ?hg (N := 2) ?hd (cs := #[.int .i64 a0_0, .int .i64 a0_1, .int .i64 a0_2, .int .i64 a0_3, .int .i64 a0_4, .string a0_5]) (t := 27) ?hr ?_; (case hd => rfl); (case hg => rfl); (case hr => first | (go_simp; done) | (go_simp; rfl)); intro gb138 hg w4 hbox hb; have _ := am (below_step (beu HB.out) hb); have _ := am (hbox); have _ := am ((by rw [hg]; exact (below_size (beu HB.out)) : w.heap.size ≤ gb138)); have _ := am ((by rw [hg]; exact (below_size (beu HB.out)) : w.heap.size ≤ gb138)); clear HB; rename_i HB BK138 GW138 GE138; clear hb hbox hg; obtain ⟨hcz5_0, hcz5_1, hcz5_2, hcz5_3, hcz5_4, hcz5_5⟩ := cells6 BK138.out; obtain ⟨hfz5_0, hfz5_1, hfz5_2, hfz5_3, hfz5_4, hfz5_5⟩ := frozens6 BK138.out) | ((with_reducible refine gate_callee (f := 53) rfl ?_); refine goesL_ (some 8) rfl rfl Tryd.func53 (by kernel_rfl) rfl #[.int .i64 a0_0, .int .i64 a1] rfl ap1 ?_; (with_reducible refine (cmp_Compare_int64.calls a0_0 a1 t139 _ A3.out).mono ?_); rintro e w' ⟨rfl, ⟨nd, rfl⟩⟩; refine ⟨_, rfl, ?_⟩))
  go_ret
  exact ⟨ap4, beu HB.out⟩
def api_Effect_int64.l0 : Nat → List (S27) → Int → Int → Int → Int → Option (Int × Bool)
  | 0, _, _, _, _, _ => none
  | k + 1, x0, x1, x8, x9, x10 => if x9 < x10 then (if 0 ≤ (wrap64 ((IntKind.u64.wrap (wrap64 (x9 + x10))) / 2)) then (if (wrap64 ((IntKind.u64.wrap (wrap64 (x9 + x10))) / 2)) < (x0.length : Int) then ((outbox_place_1.f ((rd_T27 x0 (wrap64 ((IntKind.u64.wrap (wrap64 (x9 + x10))) / 2))).f0) ((rd_T27 x0 (wrap64 ((IntKind.u64.wrap (wrap64 (x9 + x10))) / 2))).f1) ((rd_T27 x0 (wrap64 ((IntKind.u64.wrap (wrap64 (x9 + x10))) / 2))).f2) ((rd_T27 x0 (wrap64 ((IntKind.u64.wrap (wrap64 (x9 + x10))) / 2))).f3) ((rd_T27 x0 (wrap64 ((IntKind.u64.wrap (wrap64 (x9 + x10))) / 2))).f4) ((rd_T27 x0 (wrap64 ((IntKind.u64.wrap (wrap64 (x9 + x10))) / 2))).f5) x1).bind fun t141 => (if t141 < 0 then (api_Effect_int64.l0 k x0 x1 x8 (wrap64 ((wrap64 ((IntKind.u64.wrap (wrap64 (x9 + x10))) / 2)) + 1)) x10) else (api_Effect_int64.l0 k x0 x1 x8 x9 (wrap64 ((IntKind.u64.wrap (wrap64 (x9 + x10))) / 2))))) else (none)) else (none)) else (if x9 < x8 then (if 0 ≤ x9 then (if x9 < (x0.length : Int) then ((outbox_place_1.f ((rd_T27 x0 x9).f0) ((rd_T27 x0 x9).f1) ((rd_T27 x0 x9).f2) ((rd_T27 x0 x9).f3) ((rd_T27 x0 x9).f4) ((rd_T27 x0 x9).f5) x1).bind fun t143 => (some (x9, (t143 == 0)))) else (none)) else (none)) else (some (x9, false)))
def api_Effect_int64.f (k : Nat) (l0 : List (S27)) (a1 : Int) (a2 : Int) : Option (Int × Bool) := api_Effect_int64.l0 k l0 a1 (l0.length : Int) 0 (l0.length : Int)
set_option maxHeartbeats 8000000 in
set_option maxRecDepth 100000 in
theorem api_Effect_int64.calls (k : Nat) (A0 : Option Addr) (c0 : Nat) (l0 : List (S27)) (a1 : Int) (a2 : Int) (r1 : Int) (r2 : Bool) (w : World) (hr0 : Kd.C k27 w A0 l0.length l0) (hc0 : l0.length ≤ c0) (h : api_Effect_int64.f k l0 a1 a2 = some (r1, r2)) :
    Calls Tryd.prog 51 #[.slice A0 l0.length c0, .int .i64 a1, (.func (.func 52) #[] #[])] w fun e w' => e = .returned (.tuple #[.int .i64 r1, .bool r2]) ∧ Below w.heap.size w w' := by
  have hu27 := Tryd.underlying27; have HR0 := am hr0; have HC0 := am hc0; clear hr0 hc0; have HB := am (Below.refl w.heap.size w); have H : (api_Effect_int64.l0 k l0 a1 (l0.length : Int) 0 (l0.length : Int)) = some (r1, r2) := h; clear h; have H' := am H; clear H
  go_enter Tryd.func51, Tryd.ntmps51
  go_wp2
  go_loopg [9, 10] k (fun kq v9 v10 w' => ∃ (x9_1 : Int) (x10_1 : Int), v9 = .int .i64 x9_1 ∧ v10 = .int .i64 x10_1 ∧ Aside0 (api_Effect_int64.l0 kq l0 a1 (l0.length : Int) x9_1 x10_1 = some (r1, r2)) ∧ Aside0 (kq ≤ k) ∧ Aside0 (Below w.heap.size w w'))
  case atStart => exact ⟨(0), ((l0.length : Int)), ap3, ap3, H', ⟨Nat.le_refl _⟩, ⟨beu HB.out⟩⟩
  case round =>
    clear H'; (try clear p2); obtain ⟨x9_1, x10_1, rfl, rfl, HA, HK1, HB⟩ := hrel
    cases gk with
    | zero => exact absurd HA.out (by simp [api_Effect_int64.l0])
    | succ k1 =>
      have H := HA.out; clear HA; simp only [api_Effect_int64.l0] at H
      by_cases c4 : x9_1 < x10_1
      · rw [if_pos c4] at H
        have c4b0 : decide (x9_1 < x10_1) = true := decide_eq_true c4; clear c4; obtain ⟨ji5, hji5⟩ : ∃ j_ : Int, (wrap64 ((IntKind.u64.wrap (wrap64 (x9_1 + x10_1))) / 2)) = j_ := ⟨_, rfl⟩
        replace H : (if 0 ≤ (ji5) then (if (ji5) < (l0.length : Int) then ((outbox_place_1.f ((rd_T27 l0 (ji5)).f0) ((rd_T27 l0 (ji5)).f1) ((rd_T27 l0 (ji5)).f2) ((rd_T27 l0 (ji5)).f3) ((rd_T27 l0 (ji5)).f4) ((rd_T27 l0 (ji5)).f5) a1).bind fun t141 => (if t141 < 0 then (api_Effect_int64.l0 k1 l0 a1 (l0.length : Int) (wrap64 ((ji5) + 1)) x10_1) else (api_Effect_int64.l0 k1 l0 a1 (l0.length : Int) x9_1 ji5))) else (none)) else (none)) = some (r1, r2) := by first | (rw [hji5] at H; exact H) | (simp only [hji5] at H ⊢; exact H)
        have hji5w : (IntKind.i64.wrap ((IntKind.u64.wrap (wrap64 (x9_1 + x10_1))) / 2)) = ji5 := (i64_w _).trans hji5
        by_cases c6 : 0 ≤ (ji5)
        · rw [if_pos c6] at H
          have c6b0 : decide (0 ≤ (ji5)) = true := decide_eq_true c6; clear c6
          by_cases c7 : (ji5) < (l0.length : Int)
          · rw [if_pos c7] at H
            have c7b0 : decide ((ji5) < (l0.length : Int)) = true := decide_eq_true c7; clear c7; replace H := obm H; obtain ⟨t141, A80, H⟩ := H; replace H : (if t141 < 0 then (api_Effect_int64.l0 k1 l0 a1 (l0.length : Int) (wrap64 ((ji5) + 1)) x10_1) else (api_Effect_int64.l0 k1 l0 a1 (l0.length : Int) x9_1 ji5)) = some (r1, r2) := H; have A8 := am A80; clear A80
            by_cases c9 : t141 < 0
            · rw [if_pos c9] at H
              have c9b0 : decide (t141 < 0) = true := decide_eq_true c9; clear c9; have H' := am H; clear H; have p140 : 0 ≤ ((ji5) : Int) := of_decide_eq_true ap2; have q140 : (ji5) < (l0.length : Int) := of_decide_eq_true ap2; obtain ⟨ad140, e140, hx140_0, hx140_1, hx140_2, hx140_3, hx140_4, hx140_5⟩ := at_T27 HR0.out (ji5) p140 q140
              cases e140
              replace hx140_0 := (HB.out.cell (World.block_lt_of_cell? w _ hx140_0)).trans hx140_0; replace hx140_1 := (HB.out.cell (World.block_lt_of_cell? w _ hx140_1)).trans hx140_1; replace hx140_2 := (HB.out.cell (World.block_lt_of_cell? w _ hx140_2)).trans hx140_2; replace hx140_3 := (HB.out.cell (World.block_lt_of_cell? w _ hx140_3)).trans hx140_3; replace hx140_4 := (HB.out.cell (World.block_lt_of_cell? w _ hx140_4)).trans hx140_4; replace hx140_5 := (HB.out.cell (World.block_lt_of_cell? w _ hx140_5)).trans hx140_5; replace p140 := eq_true p140; replace q140 := eq_true q140
              go_wp2_with (first | ((with_reducible refine gate_dyn (x := .tmp 24) rfl ?_); refine goesD_ (some 30) (.tmp 24) rfl rfl rfl Tryd.func52 (by kernel_rfl) rfl #[.agg #[.int .i64 ((rd_T27 l0 (ji5)).f0), .int .i64 ((rd_T27 l0 (ji5)).f1), .int .i64 ((rd_T27 l0 (ji5)).f2), .int .i64 ((rd_T27 l0 (ji5)).f3), .int .i64 ((rd_T27 l0 (ji5)).f4), .string ((rd_T27 l0 (ji5)).f5)], .int .i64 a1] rfl (by (try simp only [List.map_toArray, List.map_cons, List.map_nil]); first | done | (simp only [hji5]; rfl) | rfl | (simp only [List.length_drop, List.length_take]; rfl)) ?_; (with_reducible refine (outbox_place_1.calls ((rd_T27 l0 (ji5)).f0) ((rd_T27 l0 (ji5)).f1) ((rd_T27 l0 (ji5)).f2) ((rd_T27 l0 (ji5)).f3) ((rd_T27 l0 (ji5)).f4) ((rd_T27 l0 (ji5)).f5) a1 t141 _ A8.out).mono ?_); rintro e w10 ⟨rfl, hb⟩; refine ⟨_, rfl, ?_⟩; have _ := am (below_step (beu HB.out) hb); clear HB; rename_i HB; (try clear hb)))
              go_roundg k1
              case measure => have := HK1.out; omega
              case rel => exact ⟨(wrap64 ((ji5) + 1)), (x10_1), (by first | rfl | (simp; done) | (simp only [← hji5] <;> (first | rfl | simp)) | (simp [*]; done)), ap3, H', ⟨by have := HK1.out; omega⟩, ⟨beu HB.out⟩⟩
            · rw [if_neg c9] at H
              have c9b0 : decide (t141 < 0) = false := decide_eq_false c9; clear c9; have H' := am H; clear H; have p140 : 0 ≤ ((ji5) : Int) := of_decide_eq_true ap2; have q140 : (ji5) < (l0.length : Int) := of_decide_eq_true ap2; obtain ⟨ad140, e140, hx140_0, hx140_1, hx140_2, hx140_3, hx140_4, hx140_5⟩ := at_T27 HR0.out (ji5) p140 q140
              cases e140
              replace hx140_0 := (HB.out.cell (World.block_lt_of_cell? w _ hx140_0)).trans hx140_0; replace hx140_1 := (HB.out.cell (World.block_lt_of_cell? w _ hx140_1)).trans hx140_1; replace hx140_2 := (HB.out.cell (World.block_lt_of_cell? w _ hx140_2)).trans hx140_2; replace hx140_3 := (HB.out.cell (World.block_lt_of_cell? w _ hx140_3)).trans hx140_3; replace hx140_4 := (HB.out.cell (World.block_lt_of_cell? w _ hx140_4)).trans hx140_4; replace hx140_5 := (HB.out.cell (World.block_lt_of_cell? w _ hx140_5)).trans hx140_5; replace p140 := eq_true p140; replace q140 := eq_true q140
              go_wp2_with (first | ((with_reducible refine gate_dyn (x := .tmp 24) rfl ?_); refine goesD_ (some 30) (.tmp 24) rfl rfl rfl Tryd.func52 (by kernel_rfl) rfl #[.agg #[.int .i64 ((rd_T27 l0 (ji5)).f0), .int .i64 ((rd_T27 l0 (ji5)).f1), .int .i64 ((rd_T27 l0 (ji5)).f2), .int .i64 ((rd_T27 l0 (ji5)).f3), .int .i64 ((rd_T27 l0 (ji5)).f4), .string ((rd_T27 l0 (ji5)).f5)], .int .i64 a1] rfl (by (try simp only [List.map_toArray, List.map_cons, List.map_nil]); first | done | (simp only [hji5]; rfl) | rfl | (simp only [List.length_drop, List.length_take]; rfl)) ?_; (with_reducible refine (outbox_place_1.calls ((rd_T27 l0 (ji5)).f0) ((rd_T27 l0 (ji5)).f1) ((rd_T27 l0 (ji5)).f2) ((rd_T27 l0 (ji5)).f3) ((rd_T27 l0 (ji5)).f4) ((rd_T27 l0 (ji5)).f5) a1 t141 _ A8.out).mono ?_); rintro e w11 ⟨rfl, hb⟩; refine ⟨_, rfl, ?_⟩; have _ := am (below_step (beu HB.out) hb); clear HB; rename_i HB; (try clear hb)))
              go_roundg k1
              case measure => have := HK1.out; omega
              case rel => exact ⟨(x9_1), (ji5), ap3, (by first | rfl | (simp; done) | (simp only [← hji5] <;> (first | rfl | simp)) | (simp [*]; done)), H', ⟨by have := HK1.out; omega⟩, ⟨beu HB.out⟩⟩
          · rw [if_neg c7] at H
            exact absurd H (by simp)
        · rw [if_neg c6] at H
          exact absurd H (by simp)
      · rw [if_neg c4] at H
        have c4b0 : decide (x9_1 < x10_1) = false := decide_eq_false c4; clear c4
        by_cases c12 : x9_1 < (l0.length : Int)
        · rw [if_pos c12] at H
          have c12b0 : decide (x9_1 < (l0.length : Int)) = true := decide_eq_true c12; clear c12
          by_cases c13 : 0 ≤ x9_1
          · rw [if_pos c13] at H
            have c13b0 : decide (0 ≤ x9_1) = true := decide_eq_true c13; clear c13
            by_cases c14 : x9_1 < (l0.length : Int)
            · rw [if_pos c14] at H
              have c14b0 : decide (x9_1 < (l0.length : Int)) = true := decide_eq_true c14; clear c14; replace H := obm H; obtain ⟨t143, A150, H⟩ := H; replace H : (some (x9_1, (t143 == 0))) = some (r1, r2) := H; have A15 := am A150; clear A150; simp only [Option.some.injEq, Prod.mk.injEq] at H; obtain ⟨rfl, rfl⟩ := H; have p142 : 0 ≤ (x9_1 : Int) := of_decide_eq_true ap2; have q142 : x9_1 < (l0.length : Int) := of_decide_eq_true ap2; obtain ⟨ad142, e142, hx142_0, hx142_1, hx142_2, hx142_3, hx142_4, hx142_5⟩ := at_T27 HR0.out x9_1 p142 q142
              cases e142
              replace hx142_0 := (HB.out.cell (World.block_lt_of_cell? w _ hx142_0)).trans hx142_0; replace hx142_1 := (HB.out.cell (World.block_lt_of_cell? w _ hx142_1)).trans hx142_1; replace hx142_2 := (HB.out.cell (World.block_lt_of_cell? w _ hx142_2)).trans hx142_2; replace hx142_3 := (HB.out.cell (World.block_lt_of_cell? w _ hx142_3)).trans hx142_3; replace hx142_4 := (HB.out.cell (World.block_lt_of_cell? w _ hx142_4)).trans hx142_4; replace hx142_5 := (HB.out.cell (World.block_lt_of_cell? w _ hx142_5)).trans hx142_5; replace p142 := eq_true p142; replace q142 := eq_true q142
              go_wp2_with (first | (go_at_call 52; (with_reducible refine (outbox_place_1.calls ((rd_T27 l0 x9_1).f0) ((rd_T27 l0 x9_1).f1) ((rd_T27 l0 x9_1).f2) ((rd_T27 l0 x9_1).f3) ((rd_T27 l0 x9_1).f4) ((rd_T27 l0 x9_1).f5) a1 t143 _ A15.out).mono ?_); rintro e w16 ⟨rfl, hb⟩; have _ := am (below_step (beu HB.out) hb); clear HB; rename_i HB; (try clear hb)))
              go_ret2
              exact ⟨ap4, beu HB.out⟩
            · rw [if_neg c14] at H
              exact absurd H (by simp)
          · rw [if_neg c13] at H
            exact absurd H (by simp)
        · rw [if_neg c12] at H
          have c12b0 : decide (x9_1 < (l0.length : Int)) = false := decide_eq_false c12; clear c12; simp only [Option.some.injEq, Prod.mk.injEq] at H; obtain ⟨rfl, rfl⟩ := H
          go_wp2
          go_ret2
          exact ⟨ap4, beu HB.out⟩
def outbox_place.f (k : Nat) (l0 : List (S27)) (a1 : Int) : Option (Int × Bool) := (api_Effect_int64.f k l0 a1 52).bind fun bt144 => (some (bt144.1, bt144.2))
set_option maxHeartbeats 8000000 in
set_option maxRecDepth 100000 in
theorem outbox_place.calls (k : Nat) (A0 : Option Addr) (c0 : Nat) (l0 : List (S27)) (a1 : Int) (r1 : Int) (r2 : Bool) (w : World) (hr0 : Kd.C k27 w A0 l0.length l0) (hc0 : l0.length ≤ c0) (h : outbox_place.f k l0 a1 = some (r1, r2)) :
    Calls Tryd.prog 33 #[.slice A0 l0.length c0, .int .i64 a1] w fun e w' => e = .returned (.tuple #[.int .i64 r1, .bool r2]) ∧ Below w.heap.size w w' := by
  have HR0 := am hr0; have HC0 := am hc0; clear hr0 hc0; have HB := am (Below.refl w.heap.size w); have H : ((api_Effect_int64.f k l0 a1 52).bind fun bt144 => (some (bt144.1, bt144.2))) = some (r1, r2) := h; clear h; replace H := obm H; obtain ⟨⟨t144, t145⟩, A30, H⟩ := H; replace H : (some (t144, t145)) = some (r1, r2) := H; have A3 := am A30; clear A30; simp only [Option.some.injEq, Prod.mk.injEq] at H; obtain ⟨rfl, rfl⟩ := H
  go_enter Tryd.func33, Tryd.ntmps33
  go_wp2_with (first | ((with_reducible refine gate_callee (f := 51) rfl ?_); refine goesL_ (some 8) rfl rfl Tryd.func51 (by kernel_rfl) rfl #[.slice A0 l0.length c0, .int .i64 a1, (.func (.func 52) #[] #[])] rfl ap1 ?_; (with_reducible refine (api_Effect_int64.calls k _ _ l0 a1 52 t144 t145 _ ?side1 ?side2 A3.out).mono ?_); (case side1 => repeat (first | exact HR0.out | (with_reducible refine Kd.C_alloc ?_ _) | (with_reducible refine Kd.C_drewN ?_ _) | (with_reducible refine Kd.C_drew ?_))); (case side2 => exact HC0.out); rintro e w4 ⟨rfl, hb⟩; refine ⟨_, rfl, ?_⟩; have _ := am (below_step (beu HB.out) hb); clear HB; rename_i HB; (try clear hb)))
  go_ret2
  exact ⟨ap4, beu HB.out⟩
set_option maxHeartbeats 4000000 in
set_option maxRecDepth 100000 in
theorem slices_Grow_nilE (n : Int) (h0 : 0 ≤ n) (hn : n < 2513169434916) (w : World) :
    Calls Tryd.prog 54 #[.slice none 0 0, .int .i64 n] w fun e w' => ∃ v0_ : Value, e = .returned v0_ ∧ Kd.R k27 27 w' w.heap.size (fun _ => True) v0_ [] ∧ Below w.heap.size w w' := by
  have i1 : ¬ n < 0 := by omega
  have i2 : decide (n < 0) = false := decide_eq_false i1
  have hw : wrap64 n = n := by unfold wrap64; omega
  obtain ⟨i0, hi0, hzz⟩ := Option.map_eq_some_iff.1 info27; have hcut0 := cut_to (P := Tryd.prog) 22 27 .i64 Tryd.underlying22 hi0 none 0 0 0 (by omega) (by omega) (by omega)
  have hbt : (Tryd.t27.bytes : Int) = 56 := by kernel_rfl
  have hng : ¬ (281474976710656 < n * 56) := by omega
  have hng2 : ¬ (281474976710656 < n * (Tryd.t27.bytes : Int)) := by rw [hbt]; omega
  have hng3 : ¬ 281474976710656 < Builtin.nextslicecap n.toNat 0 * Tryd.t27.bytes := by
    have hb : Tryd.t27.bytes = 56 := by kernel_rfl
    have : Builtin.nextslicecap n.toNat 0 ≤ n.toNat + 0 := by
      unfold Builtin.nextslicecap
      repeat' split
      all_goals omega
    rw [hb]; omega
  by_cases c : 0 < n
  · have LM := am hn
    have LZ := am h0; clear hn
    go_enter Tryd.func54, Tryd.ntmps54
    go_wp2_with fail
    go_ret
    refine ⟨_, rfl, ?_, ?_⟩
    · have g1 := grownCap_ge w n.toNat 0 27
      have g2 := grownCap_le_maxLen w n.toNat 0 27 (by unfold maxLen; have := LM.out; omega); refine ⟨fun _ _ => trivial, [], ⟨rfl, .inr ⟨w.heap.size, _, _, rfl, Nat.le_refl _, heap_alloc_new w _, Nat.zero_le _, g2, ?_, rfl⟩⟩, Reps.none _ _⟩
      unfold grownCap at g1
      rw [Array.size_append, size_zeroCells, size_zeroCells]; simp; rw [show k27.sz = 6 from rfl]
      omega
    · exact ((Below.refl _ _).alloc (Nat.le_refl _) _).drew
  · obtain rfl : n = 0 := by omega
    have c2 : decide ((0 : Int) < 0) = false := rfl
    go_enter Tryd.func54, Tryd.ntmps54
    go_wp2_with fail
    go_ret
    exact ⟨_, rfl, Kd.R_nil _ _ _ _ _, Below.refl _ _⟩
def api_Effect_34.f (a0 : List (List S27)) : Option (List S27) := if a0.flatten.length < 2513169434916 then some a0.flatten else none
theorem flat_stepE (l : List (List S27)) (i : Nat) (h : i < l.length) : (l.take (i + 1)).flatten = (l.take i).flatten ++ l.getD i [] := by
  rw [List.take_succ_eq_append_getElem h, List.flatten_append, List.getD_eq_getElem?_getD, List.getElem?_eq_getElem h]; simp
theorem flat_leE (l : List (List S27)) (i : Nat) : (l.take i).flatten.length ≤ l.flatten.length := by
  conv => rhs; rw [← List.take_append_drop i l, List.flatten_append, List.length_append]
  omega
set_option maxHeartbeats 8000000 in
set_option maxRecDepth 100000 in
theorem api_Effect_34.calls (A0 : Option Addr) (c0 : Nat) (l0 : List (List S27)) (r : List S27) (w : World) (hr0 : Kd.C (Kd.slice 27 k27) w A0 l0.length l0) (hc0 : l0.length ≤ c0) (h : api_Effect_34.f l0 = some r) :
    Calls Tryd.prog 34 #[.slice A0 l0.length c0] w fun e w' => ∃ v0_ : Value, e = .returned (v0_) ∧ Kd.R k27 27 w' w.heap.size (fun _ => True) v0_ r ∧ Below w.heap.size w w' := by
  have hl : l0.flatten.length < 2513169434916 := by
    by_cases c : l0.flatten.length < 2513169434916
    · exact c
    · rw [api_Effect_34.f, if_neg c] at h; cases h
  obtain rfl : l0.flatten = r := by rw [api_Effect_34.f, if_pos hl] at h; exact Option.some.inj h
  clear h; have hlen : l0.length ≤ 9223372036854775807 := hr0.2.1; have HL := am hl; clear hl; have HC := am hr0; clear hr0
  have elem : ∀ (i : Nat), i < l0.length → ∃ ad A1 c1, A0 = some ad ∧ w.cell? (ad.add i) = some (.slice A1 (l0.getD i []).length c1) ∧ (l0.getD i []).length ≤ c1 ∧ k27.C w A1 (l0.getD i []).length (l0.getD i []) := by
    intro i hi; obtain ⟨ad, c, hA, _, hK, hx⟩ := Kd.C_get HC.out [] (i : Int) (by omega) (by omega); rw [Int.toNat_natCast] at hK hx; obtain ⟨A1, c1, hc, hle, hC1⟩ := hK; have := hx 0 _ (by rw [hc]; rfl); exact ⟨ad, A1, c1, hA, by simpa [Kd.slice] using this, hle, hC1⟩
  have EL := am elem; clear elem
  go_enter Tryd.func34, Tryd.ntmps34
  go_wp2
  go_loopg [3, 11] l0.length (fun g s3 s11 wx => ∃ i : Nat, i + g = l0.length ∧ s3 = .int .i64 (((l0.take i).flatten.length : Nat) : Int) ∧ s11 = .int .i64 (i : Int) ∧ w = wx)
  case atStart => exact ⟨0, by omega, by simp, rfl, rfl⟩
  case round =>
    obtain ⟨i, hig, rfl, rfl, rfl⟩ := hrel
    cases gk with
    | zero =>
      obtain rfl : i = l0.length := by omega
      have hlt : ¬ ((l0.length : Int) < (l0.length : Int)) := by omega
      rw [List.take_length]; generalize hS : l0.flatten.length = S; have hG := am (slices_Grow_nilE (S : Int) (by omega) (by have := HL.out; omega))
      go_wp2_with (go_at_call 54; refine (hG.out _).mono ?_; rintro e w1 ⟨v1, rfl, hR1, hB1⟩; have HR1 := am hR1; have HB1 := am hB1; clear hR1 hB1)
      go_loopg [6, 27] l0.length (fun g s6 s27 wx => ∃ (i : Nat) (v : Value), i + g = l0.length ∧ s27 = .int .i64 (i : Int) ∧ s6 = v ∧ Aside0 (Kd.R k27 27 wx w.heap.size (fun _ => True) v (l0.take i).flatten) ∧ Aside0 (Below w.heap.size w wx))
      case atStart => exact ⟨0, v1, by omega, rfl, rfl, HR1, HB1⟩
      case round =>
        clear HR1 HB1; obtain ⟨i, v, hig2, rfl, rfl, HR2, HB2⟩ := hrel
        cases gk with
        | zero =>
          obtain rfl : i = l0.length := by omega
          go_wp2
          go_ret
          exact ⟨_, rfl, by have := HR2.out; rw [List.take_length] at this; exact this, HB2.out⟩
        | succ g =>
          have hi : i < l0.length := by omega
          obtain ⟨ad, A1, c1, rfl, hcell0, hle, hC1⟩ := EL.out i hi; have hstep := flat_stepE l0 i hi; have hS1 := flat_leE l0 (i + 1)
          have hlt : (i : Int) < (l0.length : Int) := by omega
          have hcell := (HB2.out.cell (World.block_lt_of_cell? w _ hcell0)).trans hcell0; have HC1 := am (Kd.C_below hC1 HB2.out); rw [hstep, List.length_append] at hS1; have HS1 := am hS1; have HST := am hstep; clear hcell0 hC1 hS1 hstep; generalize (l0.getD i []) = x at hcell hle HC1 HS1 HST; generalize hT : (l0.take i).flatten = T at HR2 HS1 HST
          go_wp2_with ((with_reducible refine gate_builtin (b := .append) (xs := #[.tmp 31, .tmp 32]) rfl ?_); at_builtin; refine Kd.R_append_rows k27 (w0 := w) w.heap.size rfl (.tmp 31) (.tmp 32) 22 27 (.agg #[(.int .i64 0), (.int .i64 0), (.int .i64 0), (.int .i64 0), (.int .i64 0), (.string ⟨#[]⟩)]) 56 rfl Tryd.underlying22 info27 rfl (by decide) (by omega) _ T x _ _ _ (fun _ => True) (fun _ => False) rfl rfl ?aO ?aR (fun _ _ h => h) (fun _ h => h.elim) ?aF ?aB ?aS ?aL ?_; (case aR => exact HC1.out); (case aB => exact HB2.out); (case aF => exact (fun _ _ => trivial)); (case aO => exact HR2.out); (case aS => exact HB2.out.size); (case aL => have h1_ := HL.out; have h2_ := HS1.out; omega); intro v2 w2 ho hb hg hat; have HO2 := am ho; have HB3 := am hb; clear ho hb hg hat)
          go_roundg g
          case measure => omega
          case rel => exact ⟨i + 1, v2, by omega, rfl, rfl, ⟨by rw [HST.out]; exact HO2.out⟩, HB3⟩
    | succ g =>
      have hi : i < l0.length := by omega
      obtain ⟨ad, A1, c1, rfl, hcell, hle, hC1⟩ := EL.out i hi; have hstep := flat_stepE l0 i hi; have hS := flat_leE l0 i; have hS1 := flat_leE l0 (i + 1)
      have hsum : ((l0.take (i + 1)).flatten.length : Int) = ((l0.take i).flatten.length : Int) + ((l0.getD i []).length : Int) := by rw [hstep, List.length_append]; omega
      have hlt : (i : Int) < (l0.length : Int) := by omega
      generalize (l0.getD i []) = x at hcell hle hC1 hsum; generalize hT : (l0.take i).flatten.length = T at hS hsum
      have hneg : ¬ ((T : Int) + (x.length : Int) < 0) := by omega
      have hw : wrap64 ((T : Int) + (x.length : Int)) = (T : Int) + (x.length : Int) := by have := HL.out; unfold wrap64; omega
      clear hstep hS hS1 hC1
      go_wp2
      go_roundg g
      case measure => clear hw; omega
      case rel => exact ⟨i + 1, by clear hw; omega, by rw [hsum], rfl, rfl⟩
def outbox_Settle.f (k : Nat) (l0 : List (S27)) (a1 : Int) : Option ((List (S27)) × Int) := (outbox_place.f k l0 a1).bind fun bt146 => (if bt146.2 = true then (if 0 ≤ bt146.1 then (if bt146.1 ≤ (l0.length : Int) then (if 0 ≤ (wrap64 (bt146.1 + 1)) then (if (wrap64 (bt146.1 + 1)) ≤ (l0.length : Int) then ((api_Effect_34.f (([(l0.take (bt146.1 : Int).toNat), (l0.drop ((wrap64 (bt146.1 + 1)) : Int).toNat)] : List (List (S27))))).bind fun t161 => (some (t161, 0))) else (none)) else (none)) else (none)) else (none)) else (some (([] : List (S27)), 131)))
def outbox_Settle.T4 : Bool × List (List Nat × List Nat) := (true, [([], []), ([], []), ([0, 1], [0, 1]), ([], []), ([], []), ([4], [4]), ([3, 5], [3, 5]), ([2, 6], [2, 6]), ([7], [7]), ([8, 8, 0, 1, 2, 3, 4, 5, 6, 7, 8], [8]), ([9, 0, 1, 2, 3, 4, 5, 6, 7, 8, 9], [])])
def outbox_Settle.B4 : List Nat := [0, 0, 3, 0, 0, 16, 56, 127, 255, 511, 1023]
theorem outbox_Settle.tab4 : rtab .any (opsOf Tryd.f10 4) = outbox_Settle.T4 := by kernel_rfl
theorem outbox_Settle.bits4 : waitsOk outbox_Settle.T4.2 outbox_Settle.B4 = true := by kernel_rfl
set_option maxHeartbeats 8000000 in
set_option maxRecDepth 100000 in
theorem outbox_Settle.calls (k : Nat) (P0_ : Nat → Prop) (A0 : Option Addr) (c0 : Nat) (l0 : List (S27)) (a1 : Int) (r1 : List (S27)) (r2 : Int) (w : World) (hs0 : Kd.V k27 27 w w.heap.size (fun k_ => P0_ k_) (.slice A0 l0.length c0) l0) (h : outbox_Settle.f k l0 a1 = some (r1, r2)) :
    Calls Tryd.prog 10 #[.slice A0 l0.length c0, .int .i64 a1] w fun e w' => ∃ v0_ : Value, e = .returned (.tuple #[v0_, .int .i64 r2]) ∧ Kd.R k27 27 w' w.heap.size (fun k_ => (w.heap.size ≤ k_)) v0_ r1 ∧ Below w.heap.size w w' := by
  have HO0 := am (show Kd.V k27 27 w w.heap.size (fun k_ => (P0_ k_ ∨ w.heap.size ≤ k_)) (.slice A0 l0.length c0) l0 from Kd.V_mono hs0 (fun k_ hk => .inl hk)); have HB := am (Below.refl w.heap.size w); have H : ((outbox_place.f k l0 a1).bind fun bt146 => (if bt146.2 = true then (if 0 ≤ bt146.1 then (if bt146.1 ≤ (l0.length : Int) then (if 0 ≤ (wrap64 (bt146.1 + 1)) then (if (wrap64 (bt146.1 + 1)) ≤ (l0.length : Int) then ((api_Effect_34.f (([(l0.take (bt146.1 : Int).toNat), (l0.drop ((wrap64 (bt146.1 + 1)) : Int).toNat)] : List (List (S27))))).bind fun t161 => (some (t161, 0))) else (none)) else (none)) else (none)) else (none)) else (some (([] : List (S27)), 131)))) = some (r1, r2) := h; clear h; replace H := obm H; obtain ⟨⟨t146, t147⟩, A30, H⟩ := H; replace H : (if t147 = true then (if 0 ≤ t146 then (if t146 ≤ (l0.length : Int) then (if 0 ≤ (wrap64 (t146 + 1)) then (if (wrap64 (t146 + 1)) ≤ (l0.length : Int) then ((api_Effect_34.f (([(l0.take (t146 : Int).toNat), (l0.drop ((wrap64 (t146 + 1)) : Int).toNat)] : List (List (S27))))).bind fun t161 => (some (t161, 0))) else (none)) else (none)) else (none)) else (none)) else (some (([] : List (S27)), 131))) = some (r1, r2) := H; have A3 := am A30; clear A30
  by_cases c4 : t147 = true
  · subst c4
    have H1 : (if 0 ≤ t146 then (if t146 ≤ (l0.length : Int) then (if 0 ≤ (wrap64 (t146 + 1)) then (if (wrap64 (t146 + 1)) ≤ (l0.length : Int) then ((api_Effect_34.f (([(l0.take (t146 : Int).toNat), (l0.drop ((wrap64 (t146 + 1)) : Int).toNat)] : List (List (S27))))).bind fun t161 => (some (t161, 0))) else (none)) else (none)) else (none)) else (none)) = some (r1, r2) := by rw [if_pos rfl] at H; exact H
    clear H; have H := H1; clear H1
    by_cases c5 : 0 ≤ t146
    · rw [if_pos c5] at H
      have c5b0 := eq_true c5; have c5b1 : decide (0 ≤ t146) = true := decide_eq_true c5; clear c5
      by_cases c6 : t146 ≤ (l0.length : Int)
      · rw [if_pos c6] at H
        have c6b0 := eq_true c6; have c6b1 : decide (t146 ≤ (l0.length : Int)) = true := decide_eq_true c6; clear c6; obtain ⟨y148, hy148⟩ : ∃ y_ : List (S27), y_ = (l0.take (t146 : Int).toNat) := ⟨_, rfl⟩
        replace H : (if 0 ≤ (wrap64 (t146 + 1)) then (if (wrap64 (t146 + 1)) ≤ (l0.length : Int) then ((api_Effect_34.f (([y148, (l0.drop ((wrap64 (t146 + 1)) : Int).toNat)] : List (List (S27))))).bind fun t161 => (some (t161, 0))) else (none)) else (none)) = some (r1, r2) := by first | (rw [hy148]; with_reducible exact H) | (have H2_ := (Option.bind_some _ _).symm.trans H; rw [hy148]; with_reducible exact H2_) | (have H2_ := (Option.bind_some _ _).symm.trans H; with_reducible exact H2_) | with_reducible exact H | (rw [hy148]; exact H) | exact H
        have Ny148 := am hy148; clear hy148; obtain ⟨ji7, hji7⟩ : ∃ j_ : Int, (wrap64 (t146 + 1)) = j_ := ⟨_, rfl⟩
        replace H : (if 0 ≤ (ji7) then (if (ji7) ≤ (l0.length : Int) then ((api_Effect_34.f (([y148, (l0.drop ((ji7) : Int).toNat)] : List (List (S27))))).bind fun t161 => (some (t161, 0))) else (none)) else (none)) = some (r1, r2) := by first | (rw [hji7] at H; exact H) | (simp only [hji7] at H ⊢; exact H)
        (try rw [hji7] at A3)
        have hji7w : (IntKind.i64.wrap (t146 + 1)) = ji7 := (i64_w _).trans hji7
        by_cases c8 : 0 ≤ (ji7)
        · rw [if_pos c8] at H
          have c8b0 := eq_true c8; have c8b1 : decide (0 ≤ (ji7)) = true := decide_eq_true c8; clear c8
          by_cases c9 : (ji7) ≤ (l0.length : Int)
          · rw [if_pos c9] at H
            have c9b0 := eq_true c9; have c9b1 : decide ((ji7) ≤ (l0.length : Int)) = true := decide_eq_true c9; clear c9; obtain ⟨y153, hy153⟩ : ∃ y_ : List (S27), y_ = (l0.drop ((ji7) : Int).toNat) := ⟨_, rfl⟩
            replace H : ((api_Effect_34.f (([y148, y153] : List (List (S27))))).bind fun t161 => (some (t161, 0))) = some (r1, r2) := by first | (rw [hy153]; with_reducible exact H) | (have H2_ := (Option.bind_some _ _).symm.trans H; rw [hy153]; with_reducible exact H2_) | (have H2_ := (Option.bind_some _ _).symm.trans H; with_reducible exact H2_) | with_reducible exact H | (rw [hy153]; exact H) | exact H
            have Ny153 := am hy153; clear hy153; obtain ⟨y158, hy158⟩ : ∃ y_ : List (List (S27)), y_ = (([y148, y153] : List (List (S27)))) := ⟨_, rfl⟩
            replace H : ((api_Effect_34.f y158).bind fun t161 => (some (t161, 0))) = some (r1, r2) := by first | (rw [hy158]; with_reducible exact H) | (have H2_ := (Option.bind_some _ _).symm.trans H; rw [hy158]; with_reducible exact H2_) | (have H2_ := (Option.bind_some _ _).symm.trans H; with_reducible exact H2_) | with_reducible exact H | (rw [hy158]; exact H) | exact H
            have Ny158 := am hy158; clear hy158; replace H := obm H; obtain ⟨t161, A100, H⟩ := H; replace H : (some (t161, 0)) = some (r1, r2) := H; have A10 := am A100; clear A100; simp only [Option.some.injEq, Prod.mk.injEq] at H; obtain ⟨rfl, rfl⟩ := H
            go_enter Tryd.func10, Tryd.ntmps10
            try go_wp2_with (first | ((with_reducible refine gate_callee (f := 33) rfl ?_); refine goesL_ (some 11) rfl rfl Tryd.func33 (by kernel_rfl) rfl #[.slice A0 l0.length c0, .int .i64 a1] rfl ap1 ?_; (with_reducible refine (outbox_place.calls k _ _ l0 a1 t146 true _ ?side1 ?side2 A3.out).mono ?_); (case side1 => repeat (first | exact (Kd.V_reads' HO0.out).2.2 | (with_reducible refine Kd.C_alloc ?_ _) | (with_reducible refine Kd.C_drewN ?_ _) | (with_reducible refine Kd.C_drew ?_))); (case side2 => exact (Kd.V_reads' HO0.out).2.1); rintro e w11 ⟨rfl, hb⟩; refine ⟨_, rfl, ?_⟩; have _ := am (Kd.V_below (by (with_reducible repeat (first | apply Kd.V_alloc | apply Kd.V_drewN | apply Kd.V_drew)); exact HO0.out) hb); have _ := am (below_step (beu HB.out) hb); clear HO0 HB; rename_i HO0 HB; (try clear hb)))
            (try (rw [drewN_self w11]; generalize hq_ : World.drewN w11 _ = w11; have _ := am (show Kd.V _ _ w11 _ _ _ _ from by rw [← hq_]; exact Kd.V_drewN HO0.out _); have _ := am (below_at hq_ HB.out); clear hq_ HO0 HB; rename_i HO0 HB))
            have n0_ := am (Kd.V_drew HO0.out); have n1_ := am (below_drew1 HB.out); clear HO0 HB; have HO0 := n0_; have HB := n1_; clear n0_ n1_; have q13 : (t146 : Int) ≤ ((l0.length : Int) : Int) := of_decide_eq_true ap2; obtain ⟨i013, hi013, _, hsz13, _⟩ := info_parts info27; have hroom13 : l0.length ≤ c0 := (Kd.V_reads' HO0.out).2.1; have hC13 : Kd.F k27 _ _ A0 l0.length l0 := (Kd.V_at (base := w.heap.size) HO0.out).2.2; have hcut13 := cut_to (P := Tryd.prog) 22 27 .i64 Tryd.underlying22 hi013 A0 l0.length c0 t146 (of_decide_eq_true ap2) q13 hroom13; have hr13 := Kd.F_take (m := (t146 : Int).toNat) hC13 (by omega); have hy13 : y148.length = (t146 : Int).toNat := (by rw [Ny148.out, List.length_take]; omega); rw [← Ny148.out] at hr13; rw [← hy13] at hcut13; have HO152 := am (show Kd.V k27 27 _ w.heap.size _ (.slice A0 y148.length c0) y148 from Kd.V_mk (by omega) hr13); have HC152 := am (show y148.length ≤ c0 from by omega); clear hr13 hC13 hroom13 hi013 hsz13; have KY13 := am hy13; clear hy13; replace q13 := eq_true q13; have q14 : ((ji7) : Int) ≤ ((l0.length : Int) : Int) := of_decide_eq_true ap2; obtain ⟨i014, hi014, _, hsz14, _⟩ := info_parts info27; have hroom14 : l0.length ≤ c0 := (Kd.V_reads' HO0.out).2.1; have hC14 : Kd.F k27 _ _ A0 l0.length l0 := (Kd.V_at (base := w.heap.size) HO0.out).2.2; have q014 : (0 : Int) ≤ ((ji7) : Int) := of_decide_eq_true ap2; have hcut14 := cut_from (P := Tryd.prog) 22 27 .i64 Tryd.underlying22 hi014 6 hsz14 A0 l0.length c0 (ji7) q014 q14; have hr14 := Kd.F_cut (m := ((ji7) : Int).toNat) (c := c0) hC14 (by omega) hroom14; obtain ⟨A14, hA14⟩ : ∃ A1, A1 = (if c0 = ((ji7) : Int).toNat then A0 else (A0 : Option Addr).map (·.add (((ji7) : Int).toNat * 6))) := ⟨_, rfl⟩; obtain ⟨c14, hc14⟩ : ∃ c1, c1 = c0 - ((ji7) : Int).toNat := ⟨_, rfl⟩; have hy14 : y153.length = l0.length - ((ji7) : Int).toNat := (by rw [Ny153.out, List.length_drop] <;> omega); rw [show (l0).drop ((ji7) : Int).toNat = y153 from Ny153.out.symm] at hr14; replace hr14 : Kd.F k27 _ _ A14 y153.length y153 := (by rw [hA14]; exact hr14); rw [← hy14, ← hA14, ← hc14] at hcut14; have HO157 := am (show Kd.V k27 27 _ w.heap.size _ (.slice A14 y153.length c14) y153 from Kd.V_mk (by rw [hy14, hc14]; exact Nat.sub_le_sub_right hroom14 _) hr14); have HC157 := am (show y153.length ≤ c14 from by rw [hy14, hc14]; exact Nat.sub_le_sub_right hroom14 _); clear hr14 hC14 hroom14 hi014 hsz14 hc14; have KY14 := am hy14; have KA14 := am hA14; clear hy14 hA14; replace q14 := eq_true q14
            refine start_ (n := 11) (S := fun w' => True) (ds := []) #[false, false, false, false, false, false, false, false, false, false, false] (by kernel_rfl) rfl rfl trivial (fun hHeld => ?_); refine with_tabW outbox_Settle.tab4 outbox_Settle.bits4 (fun HT_ HW_ => ?_)
            generalize w11.drew = w12 at HO0 HB HO152 HO157 hHeld ⊢; refine pure_ (i := 0) (N := some 16) (v := ?_) (a' := ?_) (bs 11 1) rfl rfl (ak HT_.out) (fun _ _ _ h => h) (Or.inl ⟨by rfl, ?_⟩) ?_ ?_; rotate_left
            · intro w'
              go_simp
              with_reducible rfl
            rotate_left
            · simp only [Act.put, sA, sB, sC, i64_w, i32_w]
              rfl
            refine pure_ (i := 1) (N := some 17) (v := ?_) (a' := ?_) (bs 11 3) rfl rfl (ak HT_.out) (fun _ _ _ h => h) (Or.inl ⟨by rfl, ?_⟩) ?_ ?_; rotate_left
            · intro w'
              go_simp
              with_reducible rfl
            rotate_left
            · simp only [Act.put, sA, sB, sC, i64_w, i32_w]
              rfl
            refine pure_ (i := 2) (N := some 18) (v := ?_) (a' := ?_) (bs 11 7) rfl rfl (ak HT_.out) (fun _ _ _ h => h) (Or.inl ⟨by rfl, ?_⟩) ?_ ?_; rotate_left
            · intro w'
              go_simp
              with_reducible rfl
            rotate_left
            · simp only [Act.put, sA, sB, sC, i64_w, i32_w]
              rfl
            refine pure_ (i := 3) (N := some 19) (v := ?_) (a' := ?_) (bs 11 15) rfl rfl (ak HT_.out) (fun _ _ _ h => h) (Or.inl ⟨by rfl, ?_⟩) ?_ ?_; rotate_left
            · intro w'
              go_simp
              with_reducible rfl
            rotate_left
            · simp only [Act.put, sA, sB, sC, i64_w, i32_w]
              rfl
            refine pure_ (i := 4) (N := some 20) (v := ?_) (a' := ?_) (bs 11 31) rfl rfl (ak HT_.out) (fun _ _ _ h => h) (Or.inl ⟨by rfl, ?_⟩) ?_ ?_; rotate_left
            · intro w'
              go_simp
              with_reducible rfl
            rotate_left
            · simp only [Act.put, sA, sB, sC, i64_w, i32_w]
              rfl
            refine pure_ (i := 5) (N := some 21) (v := ?_) (a' := ?_) (bs 11 63) rfl rfl (ak HT_.out) (fun _ _ _ h => h) (Or.inl ⟨by rfl, ?_⟩) ?_ ?_; rotate_left
            · intro w'
              go_simp
              with_reducible rfl
            rotate_left
            · simp only [Act.put, sA, sB, sC, i64_w, i32_w]
              rfl
            refine pure_ (i := 6) (N := some 22) (v := ?_) (a' := ?_) (bs 11 127) rfl rfl (ak HT_.out) (fun _ _ _ h => h) (Or.inl ⟨by rfl, ?_⟩) ?_ ?_; rotate_left
            · intro w'
              go_simp
              with_reducible rfl
            rotate_left
            · simp only [Act.put, sA, sB, sC, i64_w, i32_w]
              rfl
            refine one_ (i := 7) (N := some 23) (bs 11 255) rfl rfl (one_of HT_.out (by kernel_rfl)) (by decide) (fun K hK => ?_)
            refine Kd.N_lit_step (Kd.slice 27 k27) _ 22 ?hg (N' := 23) ?hd (xs := ([y148, y153] : List (List (S27)))) (inner := [.slice A0 y148.length c0, .slice A14 y153.length c14]) (ok := (fun k_ => (P0_ k_ ∨ w.heap.size ≤ k_))) (okp := (fun k_ => (P0_ k_ ∨ w.heap.size ≤ k_))) ?hr ?hp (fun _ hk => hk) ((show ∀ k_, w12.heap.size ≤ k_ → (fun k_ => (P0_ k_ ∨ w.heap.size ≤ k_)) k_ from fun k_ hk => (.inr (Nat.le_trans (below_size (beu HB.out)) hk))) _ (Nat.le_refl _)) (Below.refl _ _) (Nat.le_refl _) (by simp) ?_; (case hd => rfl); (case hg => rfl); (case hr => first | (go_simp; done) | (go_simp; rfl)); (case hp => first | exact (Reps.one (show Kd.FK (Kd.slice 27 k27) _ _ y148 [.slice A0 y148.length c0] from (Kd.FK_slice_mk (Kd.V_reads' (Kd.V_mono (ok' := (fun k_ => (P0_ k_ ∨ w.heap.size ≤ k_))) (HO152.out) (fun k_ hk => hk))).2.1 (Kd.V_F (Kd.V_mono (ok' := (fun k_ => (P0_ k_ ∨ w.heap.size ≤ k_))) (HO152.out) (fun k_ hk => hk))))) (Reps.one (show Kd.FK (Kd.slice 27 k27) _ _ y153 [.slice A14 y153.length c14] from (Kd.FK_slice_mk (Kd.V_reads' (Kd.V_mono (ok' := (fun k_ => (P0_ k_ ∨ w.heap.size ≤ k_))) (HO157.out) (fun k_ hk => hk))).2.1 (Kd.V_F (Kd.V_mono (ok' := (fun k_ => (P0_ k_ ∨ w.heap.size ≤ k_))) (HO157.out) (fun k_ hk => hk))))) (Reps.none _ _))) | exact (Reps.one (show Kd.FK (Kd.slice 27 k27) _ _ y148 [.slice A0 y148.length c0] from (Kd.FK_slice_mk (Kd.V_reads' (Kd.V_mono (ok' := (fun k_ => (P0_ k_ ∨ w.heap.size ≤ k_))) (HO152.out) (fun k_ hk => hk))).2.1 (Kd.V_F (Kd.V_mono (ok' := (fun k_ => (P0_ k_ ∨ w.heap.size ≤ k_))) (Kd.V_drewN HO152.out _) (fun k_ hk => hk))))) (Reps.one (show Kd.FK (Kd.slice 27 k27) _ _ y153 [.slice A14 y153.length c14] from (Kd.FK_slice_mk (Kd.V_reads' (Kd.V_mono (ok' := (fun k_ => (P0_ k_ ∨ w.heap.size ≤ k_))) (HO157.out) (fun k_ hk => hk))).2.1 (Kd.V_F (Kd.V_mono (ok' := (fun k_ => (P0_ k_ ∨ w.heap.size ≤ k_))) (Kd.V_drewN HO157.out _) (fun k_ hk => hk))))) (Reps.none _ _))))
            intro v159 w15 ho16 hb hg_ hnew_; clear hg_ hnew_
            (first | rw [← Ny158.out] at ho16 | (simp only [Int.reduceToNat] at ho16; rw [← Ny158.out] at ho16))
            have n0_ := am (Kd.V_elder' (by (with_reducible repeat (first | apply Kd.V_alloc | apply Kd.V_drewN | apply Kd.V_drew)); exact HO0.out) (Kd.N_base ho16) hb); have n1_ := am (Kd.V_elder' (by (with_reducible repeat (first | apply Kd.V_alloc | apply Kd.V_drewN | apply Kd.V_drew)); exact HO152.out) (Kd.N_base ho16) hb); have n2_ := am (Kd.V_elder' (by (with_reducible repeat (first | apply Kd.V_alloc | apply Kd.V_drewN | apply Kd.V_drew)); exact HO157.out) (Kd.N_base ho16) hb); have n3_ := am (Kd.N_lower ho16 (below_size (beu HB.out))); have n4_ := am (below_step (beu HB.out) hb); clear HO0 HO152 HO157 HB; have HO0 := n0_; have HO152 := n1_; have HO157 := n2_; have HO160 := n3_; have HB := n4_; clear n0_ n1_ n2_ n3_ n4_ hb ho16; obtain ⟨Ao17, co17, eo17⟩ := Kd.N_slice HO160.out
            (first | subst eo17 | (injection eo17 with f1_ f2_ f3_; have f4_ := f1_.symm; have f5_ := f3_.symm; clear f1_ f2_ f3_; subst f4_; subst f5_))
            refine hK.out _ _ trivial (fun hHeld => ?_); clear hK K; refine norm_ (a' := ?_) ?_ ?_; rotate_left
            · show Act.put _ (some 23) _ = _
              simp only [Act.put, sA, sB, sC, i64_w, i32_w]
              rfl
            refine one_ (i := 8) (N := some 24) (bs 11 511) rfl rfl (one_of HT_.out (by kernel_rfl)) (by decide) (fun K hK => ?_); refine goes_ Tryd.func34 (by kernel_rfl) rfl #[.slice Ao17 y158.length co17] (by rfl) rfl rfl ap1 ?_; with_reducible refine (api_Effect_34.calls _ _ y158 t161 _ ?side1 ?side2 A10.out).mono ?_
            (case side1 => repeat (first | exact (Kd.N_reads' HO160.out).2.2 | (with_reducible refine Kd.C_alloc ?_ _) | (with_reducible refine Kd.C_drewN ?_ _) | (with_reducible refine Kd.C_drew ?_)))
            (case side2 => exact (Kd.N_reads' HO160.out).2.1)
            rintro e w18 ⟨v162, rfl, ho0, hb⟩; refine ⟨_, rfl, ?_⟩; have n0_ := am (Kd.V_elder' (by (with_reducible repeat (first | apply Kd.V_alloc | apply Kd.V_drewN | apply Kd.V_drew)); exact HO0.out) (Kd.R_base ho0) hb); have n1_ := am (Kd.V_elder' (by (with_reducible repeat (first | apply Kd.V_alloc | apply Kd.V_drewN | apply Kd.V_drew)); exact HO152.out) (Kd.R_base ho0) hb); have n2_ := am (Kd.V_elder' (by (with_reducible repeat (first | apply Kd.V_alloc | apply Kd.V_drewN | apply Kd.V_drew)); exact HO157.out) (Kd.R_base ho0) hb); have n3_ := am (Kd.N_elder' (by (with_reducible repeat (first | apply Kd.N_alloc | apply Kd.N_drewN | apply Kd.N_drew)); exact HO160.out) (Kd.R_base ho0) hb); have n4_ := am (Kd.R_lower (Kd.R_newM (M := fun k_ => (w.heap.size ≤ k_)) ho0 (below_size (beu HB.out)) (fun k_ h_ => h_)) (below_size (beu HB.out))); have n5_ := am (below_step (beu HB.out) hb); clear HO0 HO152 HO157 HO160 HB; have HO0 := n0_; have HO152 := n1_; have HO157 := n2_; have HO160 := n3_; have HO163 := n4_; have HB := n5_; clear n0_ n1_ n2_ n3_ n4_ n5_
            (try clear hb)
            (try clear hb2)
            (try clear hk)
            (try clear hi)
            (try clear ho0)
            refine hK.out _ _ trivial (fun hHeld => ?_); clear hK K; refine norm_ (a' := ?_) ?_ ?_; rotate_left
            · show Act.put _ (some 24) _ = _
              simp only [Act.put, sA, sB, sC, i64_w, i32_w]
              rfl
            refine pure_ (i := 9) (N := some 4) (v := ?_) (a' := ?_) (bs 11 1023) rfl rfl (ak HT_.out) (fun _ _ _ h => h) (Or.inl ⟨by rfl, ?_⟩) ?_ ?_; rotate_left
            · intro w'
              go_simp
              with_reducible rfl
            rotate_left
            · simp only [Act.put, sA, sB, sC, i64_w, i32_w]
              rfl
            refine pure_ (i := 10) (N := some 5) (v := ?_) (a' := ?_) (bs 11 2047) rfl rfl (ak HT_.out) (fun _ _ _ h => h) (Or.inl ⟨by rfl, ?_⟩) ?_ ?_; rotate_left
            · intro w'
              go_simp
              with_reducible rfl
            rotate_left
            · simp only [Act.put, sA, sB, sC, i64_w, i32_w]
              rfl
            refine done_ (done_of HT_.out (by kernel_rfl)) ?_
            try go_wp2
            go_ret2
            exact ⟨_, by first | rfl | (simp [errW_none, errW_some] <;> rfl) | (simp only [← hji7]; first | rfl | (simp [errW_none, errW_some] <;> rfl)) | (simp [*, errW_none, errW_some] <;> rfl), ru (Kd.R_mono HO163.out (fun _ hk => hk.1)), beu HB.out⟩
          · rw [if_neg c9] at H
            exact absurd H (by simp)
        · rw [if_neg c8] at H
          exact absurd H (by simp)
      · rw [if_neg c6] at H
        exact absurd H (by simp)
    · rw [if_neg c5] at H
      exact absurd H (by simp)
  · replace c4 := Bool.eq_false_iff.mpr c4
    subst c4
    have H1 : (some (([] : List (S27)), 131)) = some (r1, r2) := by rw [if_neg (show ¬ (false = true) by decide)] at H; exact H
    clear H; have H := H1; clear H1; simp only [Option.some.injEq, Prod.mk.injEq] at H; obtain ⟨rfl, rfl⟩ := H
    go_enter Tryd.func10, Tryd.ntmps10
    go_wp2_with (first | ((with_reducible refine gate_callee (f := 33) rfl ?_); refine goesL_ (some 11) rfl rfl Tryd.func33 (by kernel_rfl) rfl #[.slice A0 l0.length c0, .int .i64 a1] rfl ap1 ?_; (with_reducible refine (outbox_place.calls k _ _ l0 a1 t146 false _ ?side1 ?side2 A3.out).mono ?_); (case side1 => repeat (first | exact (Kd.V_reads' HO0.out).2.2 | (with_reducible refine Kd.C_alloc ?_ _) | (with_reducible refine Kd.C_drewN ?_ _) | (with_reducible refine Kd.C_drew ?_))); (case side2 => exact (Kd.V_reads' HO0.out).2.1); rintro e w19 ⟨rfl, hb⟩; refine ⟨_, rfl, ?_⟩; have _ := am (Kd.V_below (by (with_reducible repeat (first | apply Kd.V_alloc | apply Kd.V_drewN | apply Kd.V_drew)); exact HO0.out) hb); have _ := am (below_step (beu HB.out) hb); clear HO0 HB; rename_i HO0 HB; (try clear hb)))
    go_ret2
    exact ⟨_, ap4, by first | exact Kd.R_nil _ _ _ _ _ | exact Kd.N_nil _ _ _ _ _ | exact Kd.V_nil _ _ _ _ _ | exact Kd.Q_nil _ _ _ _ _ | exact Kd.S_nil _ _ _ _ _, beu HB.out⟩
def outbox_Find.f (k : Nat) (l0 : List (S27)) (a1 : Int) : Option (Int × Int × Int × Int × Int × ByteArray × Int) := (outbox_place.f k l0 a1).bind fun bt165 => (if bt165.2 = true then (if 0 ≤ bt165.1 then (if bt165.1 < (l0.length : Int) then (some ((rd_T27 l0 bt165.1).f0, (rd_T27 l0 bt165.1).f1, (rd_T27 l0 bt165.1).f2, (rd_T27 l0 bt165.1).f3, (rd_T27 l0 bt165.1).f4, (rd_T27 l0 bt165.1).f5, 0)) else (none)) else (none)) else (some (0, 0, 0, 0, 0, ⟨#[]⟩, 131)))
set_option maxHeartbeats 8000000 in
set_option maxRecDepth 100000 in
theorem outbox_Find.calls (k : Nat) (A0 : Option Addr) (c0 : Nat) (l0 : List (S27)) (a1 : Int) (r1 : Int) (r2 : Int) (r3 : Int) (r4 : Int) (r5 : Int) (r6 : ByteArray) (r7 : Int) (w : World) (hr0 : Kd.C k27 w A0 l0.length l0) (hc0 : l0.length ≤ c0) (h : outbox_Find.f k l0 a1 = some (r1, r2, r3, r4, r5, r6, r7)) :
    Calls Tryd.prog 11 #[.slice A0 l0.length c0, .int .i64 a1] w fun e w' => e = .returned (.tuple #[.agg #[.int .i64 r1, .int .i64 r2, .int .i64 r3, .int .i64 r4, .int .i64 r5, .string r6], .int .i64 r7]) ∧ Below w.heap.size w w' := by
  have hu27 := Tryd.underlying27; have HR0 := am hr0; have HC0 := am hc0; clear hr0 hc0; have HB := am (Below.refl w.heap.size w); have H : ((outbox_place.f k l0 a1).bind fun bt165 => (if bt165.2 = true then (if 0 ≤ bt165.1 then (if bt165.1 < (l0.length : Int) then (some ((rd_T27 l0 bt165.1).f0, (rd_T27 l0 bt165.1).f1, (rd_T27 l0 bt165.1).f2, (rd_T27 l0 bt165.1).f3, (rd_T27 l0 bt165.1).f4, (rd_T27 l0 bt165.1).f5, 0)) else (none)) else (none)) else (some (0, 0, 0, 0, 0, ⟨#[]⟩, 131)))) = some (r1, r2, r3, r4, r5, r6, r7) := h; clear h; replace H := obm H; obtain ⟨⟨t165, t166⟩, A30, H⟩ := H; replace H : (if t166 = true then (if 0 ≤ t165 then (if t165 < (l0.length : Int) then (some ((rd_T27 l0 t165).f0, (rd_T27 l0 t165).f1, (rd_T27 l0 t165).f2, (rd_T27 l0 t165).f3, (rd_T27 l0 t165).f4, (rd_T27 l0 t165).f5, 0)) else (none)) else (none)) else (some (0, 0, 0, 0, 0, ⟨#[]⟩, 131))) = some (r1, r2, r3, r4, r5, r6, r7) := H; have A3 := am A30; clear A30
  by_cases c4 : t166 = true
  · subst c4
    have H1 : (if 0 ≤ t165 then (if t165 < (l0.length : Int) then (some ((rd_T27 l0 t165).f0, (rd_T27 l0 t165).f1, (rd_T27 l0 t165).f2, (rd_T27 l0 t165).f3, (rd_T27 l0 t165).f4, (rd_T27 l0 t165).f5, 0)) else (none)) else (none)) = some (r1, r2, r3, r4, r5, r6, r7) := by rw [if_pos rfl] at H; exact H
    clear H; have H := H1; clear H1
    by_cases c5 : 0 ≤ t165
    · rw [if_pos c5] at H
      have c5b0 : decide (0 ≤ t165) = true := decide_eq_true c5; clear c5
      by_cases c6 : t165 < (l0.length : Int)
      · rw [if_pos c6] at H
        have c6b0 : decide (t165 < (l0.length : Int)) = true := decide_eq_true c6; clear c6; simp only [Option.some.injEq, Prod.mk.injEq] at H; obtain ⟨rfl, rfl, rfl, rfl, rfl, rfl, rfl⟩ := H
        go_enter Tryd.func11, Tryd.ntmps11
        go_wp2_with (first | ((with_reducible refine gate_dst (N := 4) rfl ?_); refine box_event ?hg (N := 4) ?hd (cs := #[.int .i64 0, .int .i64 0, .int .i64 0, .int .i64 0, .int .i64 0, .string ⟨#[]⟩]) (t := 27) ?hr ?_; (case hd => rfl); (case hg => rfl); (case hr => first | (go_simp; done) | (go_simp; rfl)); intro gb164 hg w7 hbox hb; have _ := am (below_step (beu HB.out) hb); have _ := am (hbox); have _ := am ((by rw [hg]; exact (below_size (beu HB.out)) : w.heap.size ≤ gb164)); have _ := am ((by rw [hg]; exact (below_size (beu HB.out)) : w.heap.size ≤ gb164)); clear HB; rename_i HB BK164 GW164 GE164; clear hb hbox hg) | ((with_reducible refine gate_callee (f := 33) rfl ?_); refine goesL_ (some 11) rfl rfl Tryd.func33 (by kernel_rfl) rfl #[.slice A0 l0.length c0, .int .i64 a1] rfl ap1 ?_; (with_reducible refine (outbox_place.calls k _ _ l0 a1 t165 true _ ?side1 ?side2 A3.out).mono ?_); (case side1 => exact cu (Kd.C_below HR0.out HB.out)); (case side2 => exact HC0.out); rintro e w8 ⟨rfl, hb⟩; refine ⟨_, rfl, ?_⟩; have _ := am (blk_below (bu BK164.out) hb); have _ := am (below_step (beu HB.out) hb); clear BK164 HB; rename_i BK164 HB; (try clear hb); have p167 : 0 ≤ (t165 : Int) := of_decide_eq_true ap2; have q167 : t165 < (l0.length : Int) := of_decide_eq_true ap2; obtain ⟨ad167, e167, hx167_0, hx167_1, hx167_2, hx167_3, hx167_4, hx167_5⟩ := at_T27 HR0.out t165 p167 q167; cases e167; replace hx167_0 := (HB.out.cell (World.block_lt_of_cell? w _ hx167_0)).trans hx167_0; replace hx167_1 := (HB.out.cell (World.block_lt_of_cell? w _ hx167_1)).trans hx167_1; replace hx167_2 := (HB.out.cell (World.block_lt_of_cell? w _ hx167_2)).trans hx167_2; replace hx167_3 := (HB.out.cell (World.block_lt_of_cell? w _ hx167_3)).trans hx167_3; replace hx167_4 := (HB.out.cell (World.block_lt_of_cell? w _ hx167_4)).trans hx167_4; replace hx167_5 := (HB.out.cell (World.block_lt_of_cell? w _ hx167_5)).trans hx167_5; replace p167 := eq_true p167; replace q167 := eq_true q167; obtain ⟨_, _, _, _, _, _⟩ := cells6 BK164.out; obtain ⟨_, _, _, _, _, _⟩ := frozens6 BK164.out))
        refine bodyPost_ret (results_ct rfl _ _ gb164 27 #[.int .i64 ((rd_T27 l0 t165).f0), .int .i64 ((rd_T27 l0 t165).f1), .int .i64 ((rd_T27 l0 t165).f2), .int .i64 ((rd_T27 l0 t165).f3), .int .i64 ((rd_T27 l0 t165).f4), .string ((rd_T27 l0 t165).f5)] (0, 0) _ rfl (by (with_reducible repeat (first | refine blk_drewN ?_ _ | refine blk_drew ?_ | refine blk_alloc ?_ _)); refine blk_put (cs := #[.int .i64 ((rd_T27 l0 t165).f0), .int .i64 ((rd_T27 l0 t165).f1), .int .i64 ((rd_T27 l0 t165).f2), .int .i64 ((rd_T27 l0 t165).f3), .int .i64 ((rd_T27 l0 t165).f4), .string ⟨#[]⟩]) ?_ 5 _ rfl; (with_reducible repeat (first | refine blk_drewN ?_ _ | refine blk_drew ?_ | refine blk_alloc ?_ _)); refine blk_put (cs := #[.int .i64 ((rd_T27 l0 t165).f0), .int .i64 ((rd_T27 l0 t165).f1), .int .i64 ((rd_T27 l0 t165).f2), .int .i64 ((rd_T27 l0 t165).f3), .int .i64 0, .string ⟨#[]⟩]) ?_ 4 _ rfl; (with_reducible repeat (first | refine blk_drewN ?_ _ | refine blk_drew ?_ | refine blk_alloc ?_ _)); refine blk_put (cs := #[.int .i64 ((rd_T27 l0 t165).f0), .int .i64 ((rd_T27 l0 t165).f1), .int .i64 ((rd_T27 l0 t165).f2), .int .i64 0, .int .i64 0, .string ⟨#[]⟩]) ?_ 3 _ rfl; (with_reducible repeat (first | refine blk_drewN ?_ _ | refine blk_drew ?_ | refine blk_alloc ?_ _)); refine blk_put (cs := #[.int .i64 ((rd_T27 l0 t165).f0), .int .i64 ((rd_T27 l0 t165).f1), .int .i64 0, .int .i64 0, .int .i64 0, .string ⟨#[]⟩]) ?_ 2 _ rfl; (with_reducible repeat (first | refine blk_drewN ?_ _ | refine blk_drew ?_ | refine blk_alloc ?_ _)); refine blk_put (cs := #[.int .i64 ((rd_T27 l0 t165).f0), .int .i64 0, .int .i64 0, .int .i64 0, .int .i64 0, .string ⟨#[]⟩]) ?_ 1 _ rfl; (with_reducible repeat (first | refine blk_drewN ?_ _ | refine blk_drew ?_ | refine blk_alloc ?_ _)); refine blk_put (cs := #[.int .i64 0, .int .i64 0, .int .i64 0, .int .i64 0, .int .i64 0, .string ⟨#[]⟩]) ?_ 0 _ rfl; (with_reducible repeat (first | refine blk_drewN ?_ _ | refine blk_drew ?_ | refine blk_alloc ?_ _)); exact BK164.out) Tryd.underlying27 rfl (by kernel_rfl)) rfl ?_; exact ⟨ap4, beu HB.out⟩
      · rw [if_neg c6] at H
        exact absurd H (by simp)
    · rw [if_neg c5] at H
      exact absurd H (by simp)
  · replace c4 := Bool.eq_false_iff.mpr c4
    subst c4
    have H1 : (some (0, 0, 0, 0, 0, ⟨#[]⟩, 131)) = some (r1, r2, r3, r4, r5, r6, r7) := by rw [if_neg (show ¬ (false = true) by decide)] at H; exact H
    clear H; have H := H1; clear H1; simp only [Option.some.injEq, Prod.mk.injEq] at H; obtain ⟨rfl, rfl, rfl, rfl, rfl, rfl, rfl⟩ := H
    go_enter Tryd.func11, Tryd.ntmps11
    go_wp2_with (first | ((with_reducible refine gate_dst (N := 4) rfl ?_); refine box_event ?hg (N := 4) ?hd (cs := #[.int .i64 0, .int .i64 0, .int .i64 0, .int .i64 0, .int .i64 0, .string ⟨#[]⟩]) (t := 27) ?hr ?_; (case hd => rfl); (case hg => rfl); (case hr => first | (go_simp; done) | (go_simp; rfl)); intro gb164 hg w10 hbox hb; have _ := am (below_step (beu HB.out) hb); have _ := am (hbox); have _ := am ((by rw [hg]; exact (below_size (beu HB.out)) : w.heap.size ≤ gb164)); have _ := am ((by rw [hg]; exact (below_size (beu HB.out)) : w.heap.size ≤ gb164)); clear HB; rename_i HB BK164 GW164 GE164; clear hb hbox hg) | ((with_reducible refine gate_callee (f := 33) rfl ?_); refine goesL_ (some 11) rfl rfl Tryd.func33 (by kernel_rfl) rfl #[.slice A0 l0.length c0, .int .i64 a1] rfl ap1 ?_; (with_reducible refine (outbox_place.calls k _ _ l0 a1 t165 false _ ?side1 ?side2 A3.out).mono ?_); (case side1 => exact cu (Kd.C_below HR0.out HB.out)); (case side2 => exact HC0.out); rintro e w11 ⟨rfl, hb⟩; refine ⟨_, rfl, ?_⟩; have _ := am (blk_below (bu BK164.out) hb); have _ := am (below_step (beu HB.out) hb); clear BK164 HB; rename_i BK164 HB; (try clear hb); obtain ⟨_, _, _, _, _, _⟩ := cells6 BK164.out; obtain ⟨_, _, _, _, _, _⟩ := frozens6 BK164.out))
    refine bodyPost_ret (results_ct rfl _ _ gb164 27 #[.int .i64 0, .int .i64 0, .int .i64 0, .int .i64 0, .int .i64 0, .string ⟨#[]⟩] (0, 0) _ rfl (by (with_reducible repeat (first | refine blk_drewN ?_ _ | refine blk_drew ?_ | refine blk_alloc ?_ _)); refine blk_put (cs := #[.int .i64 0, .int .i64 0, .int .i64 0, .int .i64 0, .int .i64 0, .string ⟨#[]⟩]) ?_ 5 _ rfl; (with_reducible repeat (first | refine blk_drewN ?_ _ | refine blk_drew ?_ | refine blk_alloc ?_ _)); refine blk_put (cs := #[.int .i64 0, .int .i64 0, .int .i64 0, .int .i64 0, .int .i64 0, .string ⟨#[]⟩]) ?_ 4 _ rfl; (with_reducible repeat (first | refine blk_drewN ?_ _ | refine blk_drew ?_ | refine blk_alloc ?_ _)); refine blk_put (cs := #[.int .i64 0, .int .i64 0, .int .i64 0, .int .i64 0, .int .i64 0, .string ⟨#[]⟩]) ?_ 3 _ rfl; (with_reducible repeat (first | refine blk_drewN ?_ _ | refine blk_drew ?_ | refine blk_alloc ?_ _)); refine blk_put (cs := #[.int .i64 0, .int .i64 0, .int .i64 0, .int .i64 0, .int .i64 0, .string ⟨#[]⟩]) ?_ 2 _ rfl; (with_reducible repeat (first | refine blk_drewN ?_ _ | refine blk_drew ?_ | refine blk_alloc ?_ _)); refine blk_put (cs := #[.int .i64 0, .int .i64 0, .int .i64 0, .int .i64 0, .int .i64 0, .string ⟨#[]⟩]) ?_ 1 _ rfl; (with_reducible repeat (first | refine blk_drewN ?_ _ | refine blk_drew ?_ | refine blk_alloc ?_ _)); refine blk_put (cs := #[.int .i64 0, .int .i64 0, .int .i64 0, .int .i64 0, .int .i64 0, .string ⟨#[]⟩]) ?_ 0 _ rfl; (with_reducible repeat (first | refine blk_drewN ?_ _ | refine blk_drew ?_ | refine blk_alloc ?_ _)); exact BK164.out) Tryd.underlying27 rfl (by kernel_rfl)) rfl ?_; exact ⟨ap4, beu HB.out⟩
def outbox_Backoff.f (a0 : Int) : Option (Int) := some (wrap64 (2 ^ (mx 0 (mn a0 6)).toNat))
set_option maxHeartbeats 8000000 in
set_option maxRecDepth 100000 in
theorem outbox_Backoff.calls (a0 : Int) (r : Int) (w : World) (h : outbox_Backoff.f a0 = some r) :
    Calls Tryd.prog 13 #[.int .i64 a0] w fun e w' => e = .returned (.int .i64 r) ∧ Below w.heap.size w w' := by
  have HB := am (Below.refl w.heap.size w); have H : (some (wrap64 (2 ^ (mx 0 (mn a0 6)).toNat))) = some r := h; clear h; obtain ⟨ji2, hji2⟩ : ∃ j_ : Int, (mn a0 6) = j_ := ⟨_, rfl⟩
  replace H : (some (wrap64 (2 ^ (mx 0 (ji2)).toNat))) = some r := by first | (rw [hji2] at H; exact H) | (simp only [hji2] at H ⊢; exact H)
  (try (have hji2h : ji2 ≤ 6 := by (rw [← hji2]; unfold mn; (repeat' split) <;> omega)))
  (try (have hji2g : ji2 ≤ 64 := by omega))
  have hji2_ : (if 6 < a0 then 6 else a0) = ji2 := hji2; obtain ⟨ji3, hji3⟩ : ∃ j_ : Int, (mx 0 (ji2)) = j_ := ⟨_, rfl⟩
  replace H : (some (wrap64 (2 ^ (ji3).toNat))) = some r := by first | (rw [hji3] at H; exact H) | (simp only [hji3] at H ⊢; exact H)
  have hji3_ : (if 0 < (ji2) then (ji2) else 0) = ji3 := hji3; obtain rfl := Option.some.inj H; simp only [Option.some.injEq, Prod.mk.injEq] at H; obtain ⟨rfl⟩ := H
  go_enter Tryd.func13, Tryd.ntmps13
  go_wp2
  go_ret
  exact ⟨by first | rfl | (simp [errW_none, errW_some] <;> rfl) | (simp only [← hji2, ← hji3]; first | rfl | (simp [errW_none, errW_some] <;> rfl)) | (simp [*, errW_none, errW_some] <;> rfl), beu HB.out⟩
def outbox_Sent.j0 : Nat → List (S27) → Int → Int → Bool → Option ((List (S27)) × Int)
  | 0, _, _, _, _ => none
  | k + 1, x0, x2, x8, x24 => if x24 = true then (some (([] : List (S27)), 131)) else ((api_Effect_32.f x0).bind fun t171 => (if 0 ≤ x8 then (if x8 < (t171.length : Int) then ((outbox_Backoff.f ((rd_T27 t171 x8).f4)).bind fun t174 => ((some (t171.set (x8 : Int).toNat (⟨(rd_T27 t171 x8).f0, (rd_T27 t171 x8).f1, mn (wrap64 (x2 + t174)) 1099511627776, (rd_T27 t171 x8).f3, (rd_T27 t171 x8).f4, (rd_T27 t171 x8).f5⟩ : S27) : List (S27))).bind fun y175 => (some ((y175.set (x8 : Int).toNat (⟨(rd_T27 y175 x8).f0, (rd_T27 y175 x8).f1, (rd_T27 y175 x8).f2, (rd_T27 y175 x8).f3, mn (wrap64 (((rd_T27 y175 x8).f4) + 1)) 1000000, (rd_T27 y175 x8).f5⟩ : S27)), 0)))) else (none)) else (none)))
def outbox_Sent.f (k : Nat) (l0 : List (S27)) (a1 : Int) (a2 : Int) : Option ((List (S27)) × Int) := (outbox_place.f k l0 a1).bind fun bt168 => (if bt168.2 = true then ((day_Right.f a2).bind fun t170 => (outbox_Sent.j0 k l0 a2 bt168.1 (!t170))) else (outbox_Sent.j0 k l0 a2 bt168.1 true))
set_option maxHeartbeats 8000000 in
set_option maxRecDepth 100000 in
theorem outbox_Sent.calls (k : Nat) (A0 : Option Addr) (c0 : Nat) (l0 : List (S27)) (a1 : Int) (a2 : Int) (r1 : List (S27)) (r2 : Int) (w : World) (hr0 : Kd.C k27 w A0 l0.length l0) (hc0 : l0.length ≤ c0) (h : outbox_Sent.f k l0 a1 a2 = some (r1, r2)) :
    Calls Tryd.prog 15 #[.slice A0 l0.length c0, .int .i64 a1, .int .i64 a2] w fun e w' => ∃ v0_ : Value, e = .returned (.tuple #[v0_, .int .i64 r2]) ∧ Kd.R k27 27 w' w.heap.size (fun _ => True) v0_ r1 ∧ Below w.heap.size w w' := by
  have HR0 := am hr0; have HC0 := am hc0; clear hr0 hc0; have HB := am (Below.refl w.heap.size w); have H : ((outbox_place.f k l0 a1).bind fun bt168 => (if bt168.2 = true then ((day_Right.f a2).bind fun t170 => (outbox_Sent.j0 k l0 a2 bt168.1 (!t170))) else (outbox_Sent.j0 k l0 a2 bt168.1 true))) = some (r1, r2) := h; clear h; replace H := obm H; obtain ⟨⟨t168, t169⟩, A40, H⟩ := H; replace H : (if t169 = true then ((day_Right.f a2).bind fun t170 => (outbox_Sent.j0 k l0 a2 t168 (!t170))) else (outbox_Sent.j0 k l0 a2 t168 true)) = some (r1, r2) := H; have A4 := am A40; clear A40; have HC5 := am H; clear H
  go_enter Tryd.func15, Tryd.ntmps15
  go_upto_region 2 with (first | ((with_reducible refine gate_callee (f := 33) rfl ?_); refine goesL_ (some 15) rfl rfl Tryd.func33 (by kernel_rfl) rfl #[.slice A0 l0.length c0, .int .i64 a1] rfl ap1 ?_; (with_reducible refine (outbox_place.calls k _ _ l0 a1 t168 t169 _ ?side1 ?side2 A4.out).mono ?_); (case side1 => repeat (first | exact HR0.out | (with_reducible refine Kd.C_alloc ?_ _) | (with_reducible refine Kd.C_drewN ?_ _) | (with_reducible refine Kd.C_drew ?_))); (case side2 => exact HC0.out); rintro e w6 ⟨rfl, hb⟩; refine ⟨_, rfl, ?_⟩; have _ := am (below_step (beu HB.out) hb); clear HB; rename_i HB; (try clear hb)))
  (try simp only [Act.put, sA, sB, sC])
  go_cut [24] (fun v24 wc => ∃ (kq : Nat) (x24_4 : Bool), v24 = .bool x24_4 ∧ Aside0 (outbox_Sent.j0 kq l0 a2 t168 x24_4 = some (r1, r2)) ∧ Aside0 (kq ≤ k) ∧ Aside0 (Below w.heap.size w wc))
  case first =>
    have H := HC5.out; clear HC5
    by_cases c7 : t169 = true
    · subst c7
      have H1 : ((day_Right.f a2).bind fun t170 => (outbox_Sent.j0 k l0 a2 t168 (!t170))) = some (r1, r2) := by rw [if_pos rfl] at H; exact H
      clear H; have H := H1; clear H1; replace H := obm H; obtain ⟨t170, A80, H⟩ := H; replace H : (outbox_Sent.j0 k l0 a2 t168 (!t170)) = some (r1, r2) := H; have A8 := am A80; clear A80; have H' := am H; clear H
      go_wp2_with (first | (go_at_call 35; (with_reducible refine (day_Right.calls a2 t170 _ A8.out).mono ?_); rintro e w' ⟨rfl, ⟨nd, rfl⟩⟩))
      go_meet
      case rel => exact ⟨_, (!t170), ap3, H', ⟨by first | omega | exact Nat.le_refl _⟩, ⟨beu HB.out⟩⟩
    · replace c7 := Bool.eq_false_iff.mpr c7
      subst c7
      have H1 : (outbox_Sent.j0 k l0 a2 t168 true) = some (r1, r2) := by rw [if_neg (show ¬ (false = true) by decide)] at H; exact H
      clear H; have H := H1; clear H1; have H' := am H; clear H
      go_wp2
      go_meet
      case rel => exact ⟨_, (true), ap3, H', ⟨by first | omega | exact Nat.le_refl _⟩, ⟨beu HB.out⟩⟩
  case rest =>
    clear HC5; (try clear c1); (try clear p2); (try clear c3); (try clear c7); obtain ⟨kq, x24_4, rfl, HA, HJ4, HB⟩ := hcut
    cases kq with
    | zero => exact absurd HA.out (by simp [outbox_Sent.j0])
    | succ kj4 =>
      have H := HA.out; clear HA; simp only [outbox_Sent.j0] at H
      by_cases c9 : x24_4 = true
      · subst c9
        have H1 : (some (([] : List (S27)), 131)) = some (r1, r2) := by rw [if_pos rfl] at H; exact H
        clear H; have H := H1; clear H1; simp only [Option.some.injEq, Prod.mk.injEq] at H; obtain ⟨rfl, rfl⟩ := H
        go_wp2
        go_ret2
        exact ⟨_, ap4, by first | exact Kd.R_nil _ _ _ _ _ | exact Kd.N_nil _ _ _ _ _ | exact Kd.V_nil _ _ _ _ _ | exact Kd.Q_nil _ _ _ _ _ | exact Kd.S_nil _ _ _ _ _, beu HB.out⟩
      · replace c9 := Bool.eq_false_iff.mpr c9
        subst c9
        have H1 : ((api_Effect_32.f l0).bind fun t171 => (if 0 ≤ t168 then (if t168 < (t171.length : Int) then ((outbox_Backoff.f ((rd_T27 t171 t168).f4)).bind fun t174 => ((some (t171.set (t168 : Int).toNat (⟨(rd_T27 t171 t168).f0, (rd_T27 t171 t168).f1, mn (wrap64 (a2 + t174)) 1099511627776, (rd_T27 t171 t168).f3, (rd_T27 t171 t168).f4, (rd_T27 t171 t168).f5⟩ : S27) : List (S27))).bind fun y175 => (some ((y175.set (t168 : Int).toNat (⟨(rd_T27 y175 t168).f0, (rd_T27 y175 t168).f1, (rd_T27 y175 t168).f2, (rd_T27 y175 t168).f3, mn (wrap64 (((rd_T27 y175 t168).f4) + 1)) 1000000, (rd_T27 y175 t168).f5⟩ : S27)), 0)))) else (none)) else (none))) = some (r1, r2) := by rw [if_neg (show ¬ (false = true) by decide)] at H; exact H
        clear H; have H := H1; clear H1; replace H := obm H; obtain ⟨t171, A100, H⟩ := H; replace H : (if 0 ≤ t168 then (if t168 < (t171.length : Int) then ((outbox_Backoff.f ((rd_T27 t171 t168).f4)).bind fun t174 => ((some (t171.set (t168 : Int).toNat (⟨(rd_T27 t171 t168).f0, (rd_T27 t171 t168).f1, mn (wrap64 (a2 + t174)) 1099511627776, (rd_T27 t171 t168).f3, (rd_T27 t171 t168).f4, (rd_T27 t171 t168).f5⟩ : S27) : List (S27))).bind fun y175 => (some ((y175.set (t168 : Int).toNat (⟨(rd_T27 y175 t168).f0, (rd_T27 y175 t168).f1, (rd_T27 y175 t168).f2, (rd_T27 y175 t168).f3, mn (wrap64 (((rd_T27 y175 t168).f4) + 1)) 1000000, (rd_T27 y175 t168).f5⟩ : S27)), 0)))) else (none)) else (none)) = some (r1, r2) := H; have A10 := am A100; clear A100
        by_cases c11 : 0 ≤ t168
        · rw [if_pos c11] at H
          have c11b0 : decide (0 ≤ t168) = true := decide_eq_true c11; clear c11
          by_cases c12 : t168 < (t171.length : Int)
          · rw [if_pos c12] at H
            have c12b0 : decide (t168 < (t171.length : Int)) = true := decide_eq_true c12; clear c12; replace H := obm H; obtain ⟨t174, A140, H⟩ := H; replace H : ((some (t171.set (t168 : Int).toNat (⟨(rd_T27 t171 t168).f0, (rd_T27 t171 t168).f1, mn (wrap64 (a2 + t174)) 1099511627776, (rd_T27 t171 t168).f3, (rd_T27 t171 t168).f4, (rd_T27 t171 t168).f5⟩ : S27) : List (S27))).bind fun y175 => (some ((y175.set (t168 : Int).toNat (⟨(rd_T27 y175 t168).f0, (rd_T27 y175 t168).f1, (rd_T27 y175 t168).f2, (rd_T27 y175 t168).f3, mn (wrap64 (((rd_T27 y175 t168).f4) + 1)) 1000000, (rd_T27 y175 t168).f5⟩ : S27)), 0))) = some (r1, r2) := H; have A14 := am A140; clear A140; obtain ⟨ji15, hji15⟩ : ∃ j_ : Int, (mn (wrap64 (a2 + t174)) 1099511627776) = j_ := ⟨_, rfl⟩
            replace H : ((some (t171.set (t168 : Int).toNat (⟨(rd_T27 t171 t168).f0, (rd_T27 t171 t168).f1, ji15, (rd_T27 t171 t168).f3, (rd_T27 t171 t168).f4, (rd_T27 t171 t168).f5⟩ : S27) : List (S27))).bind fun y175 => (some ((y175.set (t168 : Int).toNat (⟨(rd_T27 y175 t168).f0, (rd_T27 y175 t168).f1, (rd_T27 y175 t168).f2, (rd_T27 y175 t168).f3, mn (wrap64 (((rd_T27 y175 t168).f4) + 1)) 1000000, (rd_T27 y175 t168).f5⟩ : S27)), 0))) = some (r1, r2) := by first | (rw [hji15] at H; exact H) | (simp only [hji15] at H ⊢; exact H)
            (try rw [hji15] at A10)
            (try rw [hji15] at A14)
            have hji15_ : (if 1099511627776 < (wrap64 (a2 + t174)) then 1099511627776 else (wrap64 (a2 + t174))) = ji15 := hji15; obtain ⟨y175, hy175⟩ : ∃ y_ : List (S27), y_ = (t171.set (t168 : Int).toNat (⟨(rd_T27 t171 t168).f0, (rd_T27 t171 t168).f1, ji15, (rd_T27 t171 t168).f3, (rd_T27 t171 t168).f4, (rd_T27 t171 t168).f5⟩ : S27)) := ⟨_, rfl⟩
            replace H : (some ((y175.set (t168 : Int).toNat (⟨(rd_T27 y175 t168).f0, (rd_T27 y175 t168).f1, (rd_T27 y175 t168).f2, (rd_T27 y175 t168).f3, mn (wrap64 (((rd_T27 y175 t168).f4) + 1)) 1000000, (rd_T27 y175 t168).f5⟩ : S27)), 0)) = some (r1, r2) := by first | (rw [hy175]; with_reducible exact H) | (have H2_ := (Option.bind_some _ _).symm.trans H; rw [hy175]; with_reducible exact H2_) | (have H2_ := (Option.bind_some _ _).symm.trans H; with_reducible exact H2_) | with_reducible exact H | (rw [hy175]; exact H) | exact H
            have Ny175 := am hy175; clear hy175; obtain ⟨ji16, hji16⟩ : ∃ j_ : Int, (mn (wrap64 (((rd_T27 y175 t168).f4) + 1)) 1000000) = j_ := ⟨_, rfl⟩
            replace H : (some ((y175.set (t168 : Int).toNat (⟨(rd_T27 y175 t168).f0, (rd_T27 y175 t168).f1, (rd_T27 y175 t168).f2, (rd_T27 y175 t168).f3, ji16, (rd_T27 y175 t168).f5⟩ : S27)), 0)) = some (r1, r2) := by first | (rw [hji16] at H; exact H) | (simp only [hji16] at H ⊢; exact H)
            (try rw [hji16] at A10)
            (try rw [hji16] at A14)
            have hji16_ : (if 1000000 < (wrap64 (((rd_T27 y175 t168).f4) + 1)) then 1000000 else (wrap64 (((rd_T27 y175 t168).f4) + 1))) = ji16 := hji16; obtain ⟨y176, hy176⟩ : ∃ y_ : List (S27), y_ = (y175.set (t168 : Int).toNat (⟨(rd_T27 y175 t168).f0, (rd_T27 y175 t168).f1, (rd_T27 y175 t168).f2, (rd_T27 y175 t168).f3, ji16, (rd_T27 y175 t168).f5⟩ : S27)) := ⟨_, rfl⟩
            replace H : (some (y176, 0)) = some (r1, r2) := by first | (rw [hy176]; with_reducible exact H) | (have H2_ := (Option.bind_some _ _).symm.trans H; rw [hy176]; with_reducible exact H2_) | (have H2_ := (Option.bind_some _ _).symm.trans H; with_reducible exact H2_) | with_reducible exact H | (rw [hy176]; exact H) | exact H
            have Ny176 := am hy176; clear hy176; simp only [Option.some.injEq, Prod.mk.injEq] at H; obtain ⟨rfl, rfl⟩ := H
            go_wp2_with (first | ((with_reducible refine gate_callee (f := 32) rfl ?_); refine goesL_ (some 26) rfl rfl Tryd.func32 (by kernel_rfl) rfl #[.slice A0 l0.length c0] rfl ap1 ?_; (with_reducible refine (api_Effect_32.calls _ _ l0 t171 _ ?side1 ?side2 A10.out).mono ?_); (case side1 => exact cu (Kd.C_below HR0.out HB.out)); (case side2 => exact HC0.out); rintro e w17 ⟨v172, rfl, ho0, hb⟩; refine ⟨_, rfl, ?_⟩; have _ := am (Kd.R_lower ho0 (below_size (beu HB.out))); have _ := am (below_step (beu HB.out) hb); clear HB; rename_i HO173 HB; (try clear hb); (try clear ho0); have p13 : 0 ≤ (t168 : Int) := of_decide_eq_true ap2; have q13 : (t168 : Int) < ((t171.length : Int) : Int) := of_decide_eq_true ap2; obtain ⟨go13, co13, eo13, gb13, gl13, cl13, HG13⟩ := Kd.R_form HO173.out (by omega); (first | cases eo13 | (injection eo13 with ea_ en_ ec_; (first | subst ea_ | (injection ea_ with ea_; subst ea_)); subst ec_; clear en_)); have GB13 := am gb13; have GG13 := am HG13; clear gb13 gl13 HG13; obtain ⟨ce13, hcl13, hM13, hcc13, hfr13⟩ := Kd.R_elem HO173.out z27 (t168 : Int) p13 q13; obtain rfl := k27_openM hM13; have hx13_0 : w17.cell? ⟨go13, (t168 : Int).toNat * 6, none⟩ = some (.int .i64 ((rd_T27 t171 t168).f0)) := hcc13 0 _ rfl; have hx13_1 : w17.cell? ⟨go13, (t168 : Int).toNat * 6 + 1, none⟩ = some (.int .i64 ((rd_T27 t171 t168).f1)) := hcc13 1 _ rfl; have hx13_2 : w17.cell? ⟨go13, (t168 : Int).toNat * 6 + 2, none⟩ = some (.int .i64 ((rd_T27 t171 t168).f2)) := hcc13 2 _ rfl; have hx13_3 : w17.cell? ⟨go13, (t168 : Int).toNat * 6 + 3, none⟩ = some (.int .i64 ((rd_T27 t171 t168).f3)) := hcc13 3 _ rfl; have hx13_4 : w17.cell? ⟨go13, (t168 : Int).toNat * 6 + 4, none⟩ = some (.int .i64 ((rd_T27 t171 t168).f4)) := hcc13 4 _ rfl; have hx13_5 : w17.cell? ⟨go13, (t168 : Int).toNat * 6 + 5, none⟩ = some (.string ((rd_T27 t171 t168).f5)) := hcc13 5 _ rfl; have hf13_0 : w17.frozen? ⟨go13, (t168 : Int).toNat * 6, none⟩ = false := hfr13 0; have hf13_1 : w17.frozen? ⟨go13, (t168 : Int).toNat * 6 + 1, none⟩ = false := hfr13 1; have hf13_2 : w17.frozen? ⟨go13, (t168 : Int).toNat * 6 + 2, none⟩ = false := hfr13 2; have hf13_3 : w17.frozen? ⟨go13, (t168 : Int).toNat * 6 + 3, none⟩ = false := hfr13 3; have hf13_4 : w17.frozen? ⟨go13, (t168 : Int).toNat * 6 + 4, none⟩ = false := hfr13 4; have hf13_5 : w17.frozen? ⟨go13, (t168 : Int).toNat * 6 + 5, none⟩ = false := hfr13 5; clear hcl13 hcc13 hfr13 hM13; replace p13 := eq_true p13; replace q13 := eq_true q13) | ((with_reducible refine gate_callee (f := 13) rfl ?_); refine goesL_ (some 36) rfl rfl Tryd.func13 (by kernel_rfl) rfl #[.int .i64 ((rd_T27 t171 t168).f4)] rfl ap1 ?_; (with_reducible refine (outbox_Backoff.calls ((rd_T27 t171 t168).f4) t174 _ A14.out).mono ?_); rintro e w18 ⟨rfl, hb⟩; refine ⟨_, rfl, ?_⟩; have _ := am (Kd.R_below (ru HO173.out) hb); have _ := am (below_step (beu HB.out) hb); clear HO173 HB; rename_i HO173 HB; (try clear hb); have HX19 := am (show Kd.R k27 27 w18 w.heap.size (fun _ => True) (.slice (some ⟨go13, 0, none⟩) t171.length co13) t171 from (ru HO173.out)); obtain ⟨ce19, hcl19, hM19, hcc19, hfr19⟩ := Kd.R_elem HX19.out z27 (t168 : Int) (of_decide_eq_true ap2) (by have h_ : (t168 : Int) < ((t171.length : Int) : Int) := of_decide_eq_true ap2; first | exact h_ | (have e_ := (Kd.R_reads' HO173.out).1; omega) | simpa using h_); obtain rfl := k27_openM hM19; have hx19_4 : w18.cell? ⟨go13, (t168 : Int).toNat * 6 + 4, none⟩ = some (.int .i64 ((rd_T27 t171 t168).f4)) := hcc19 4 _ rfl; have HP19 := Kd.R_seg HX19.out (t168 : Int) (of_decide_eq_true ap2) (by have h_ : (t168 : Int) < ((t171.length : Int) : Int) := of_decide_eq_true ap2; first | exact h_ | (have e_ := (Kd.R_reads' HO173.out).1; omega) | simpa using h_) (seg := [.int .i64 ji15]) (j := 2) hcl19 hcc19 (show 3 ≤ 6 from by decide) (x' := (⟨(rd_T27 t171 t168).f0, (rd_T27 t171 t168).f1, ji15, (rd_T27 t171 t168).f3, (rd_T27 t171 t168).f4, (rd_T27 t171 t168).f5⟩ : S27)) (k27_mkM _ _ _ (⟨(rd_T27 t171 t168).f0, (rd_T27 t171 t168).f1, ji15, (rd_T27 t171 t168).f3, (rd_T27 t171 t168).f4, (rd_T27 t171 t168).f5⟩ : S27) ) (fun _ hk => hk); have hx19_2 := hcc19 2 _ rfl; (try simp only [show (k27).sz = 6 from rfl, Nat.mul_one, Nat.add_zero] at hx19_2); have hf19_2 := hfr19 2; (try simp only [show (k27).sz = 6 from rfl, Nat.mul_one, Nat.add_zero] at hf19_2); clear hcl19 hcc19 hfr19 hM19) | ((with_reducible refine gate_store (t := 2) (p := 40) rfl ?_); refine store_event (t := 2) (p := 40) (v := ?vo_w20) (w1 := (w18.setCell ⟨go13, (t168 : Int).toNat * 6 + 2, none⟩ (.int .i64 ji15))) ?hg ?ho ?hn ?hr ?_; (case ho => rfl); (case hg => rfl); (case hn => rfl); (case hr => first | (go_simp; done) | (go_simp; rfl)); intro w20 hw; have hg : w18.grownBy w20 (some go13) := (by rw [hw]; exact HP19.2); have hp_ : Kd.R k27 27 w20 w.heap.size (fun _ => True) (.slice (some ⟨go13, 0, none⟩) t171.length co13) y175 := (by rw [hw, Ny175.out]; exact HP19.1); clear HP19; have _ := am (hp_); have _ := am ((by rw [hw]; exact below_set (HB.out) GB13.out : Below w.heap.size w w20)); clear HO173 HB; rename_i HO173 HB; clear hg hw hp_; have HX21 := am (show Kd.R k27 27 w20 w.heap.size (fun _ => True) (.slice (some ⟨go13, 0, none⟩) t171.length co13) y175 from (ru HO173.out)); obtain ⟨ce21, hcl21, hM21, hcc21, hfr21⟩ := Kd.R_elem HX21.out z27 (t168 : Int) (of_decide_eq_true ap2) (by have h_ : (t168 : Int) < ((t171.length : Int) : Int) := of_decide_eq_true ap2; first | exact h_ | (have e_ := (Kd.R_reads' HO173.out).1; omega) | simpa using h_); obtain rfl := k27_openM hM21; have hx21_4 : w20.cell? ⟨go13, (t168 : Int).toNat * 6 + 4, none⟩ = some (.int .i64 ((rd_T27 y175 t168).f4)) := hcc21 4 _ rfl; have HP21 := Kd.R_seg HX21.out (t168 : Int) (of_decide_eq_true ap2) (by have h_ : (t168 : Int) < ((t171.length : Int) : Int) := of_decide_eq_true ap2; first | exact h_ | (have e_ := (Kd.R_reads' HO173.out).1; omega) | simpa using h_) (seg := [.int .i64 ji16]) (j := 4) hcl21 hcc21 (show 5 ≤ 6 from by decide) (x' := (⟨(rd_T27 y175 t168).f0, (rd_T27 y175 t168).f1, (rd_T27 y175 t168).f2, (rd_T27 y175 t168).f3, ji16, (rd_T27 y175 t168).f5⟩ : S27)) (k27_mkM _ _ _ (⟨(rd_T27 y175 t168).f0, (rd_T27 y175 t168).f1, (rd_T27 y175 t168).f2, (rd_T27 y175 t168).f3, ji16, (rd_T27 y175 t168).f5⟩ : S27) ) (fun _ hk => hk); have hx21_4 := hcc21 4 _ rfl; (try simp only [show (k27).sz = 6 from rfl, Nat.mul_one, Nat.add_zero] at hx21_4); have hf21_4 := hfr21 4; (try simp only [show (k27).sz = 6 from rfl, Nat.mul_one, Nat.add_zero] at hf21_4); clear hcl21 hcc21 hfr21 hM21) | ((with_reducible refine gate_store (t := 3) (p := 49) rfl ?_); refine store_event (t := 3) (p := 49) (v := ?vo_w22) (w1 := (w20.setCell ⟨go13, (t168 : Int).toNat * 6 + 4, none⟩ (.int .i64 ji16))) ?hg ?ho ?hn ?hr ?_; (case ho => rfl); (case hg => rfl); (case hn => rfl); (case hr => first | (go_simp; done) | (go_simp; rfl)); intro w22 hw; have hg : w20.grownBy w22 (some go13) := (by rw [hw]; exact HP21.2); have hp_ : Kd.R k27 27 w22 w.heap.size (fun _ => True) (.slice (some ⟨go13, 0, none⟩) t171.length co13) y176 := (by rw [hw, Ny176.out]; exact HP21.1); clear HP21; have _ := am (hp_); have _ := am ((by rw [hw]; exact below_set (HB.out) GB13.out : Below w.heap.size w w22)); clear HO173 HB; rename_i HO173 HB; clear hg hw hp_))
            go_ret2
            exact ⟨_, by first | rfl | (simp [errW_none, errW_some] <;> rfl) | (simp only [← hji15, ← hji16]; first | rfl | (simp [errW_none, errW_some] <;> rfl)) | (simp [*, errW_none, errW_some] <;> rfl), ru HO173.out, beu HB.out⟩
          · rw [if_neg c12] at H
            exact absurd H (by simp)
        · rw [if_neg c11] at H
          exact absurd H (by simp)
def packhorselaw13_outboxAlive.f (k : Nat)  : Option (Bool) := (outbox_Add.f k ([] : List (S27)) 1 0 10 1 0 (⟨#[97]⟩ : ByteArray)).bind fun bt177 => ((outbox_Sent.f k bt177.1 1 10).bind fun bt181 => ((outbox_Sent.f k bt181.1 1 11).bind fun bt185 => (if bt177.2 = 0 then (if bt181.2 = 0 then (if bt185.2 = 0 then (if (bt185.1.length : Int) = 1 then (if 0 < (bt181.1.length : Int) then (if ((rd_T27 bt181.1 0).f2) = 11 then (if 0 < (bt185.1.length : Int) then (if ((rd_T27 bt185.1 0).f2) = 13 then (if ((rd_T27 bt185.1 0).f4) = 2 then (if 0 < (bt177.1.length : Int) then (some (((rd_T27 bt177.1 0).f4) == 0)) else (none)) else (some false)) else (some false)) else (none)) else (some false)) else (none)) else (some false)) else (some false)) else (some false)) else (some false))))
set_option maxHeartbeats 8000000 in
set_option maxRecDepth 100000 in
theorem packhorselaw13_outboxAlive.calls (k : Nat)  (r : Bool) (w : World) (hT : Tabs w) (h : packhorselaw13_outboxAlive.f k  = some r) (hr_ : r = true) :
    Calls Tryd.prog 12 #[] w fun e w' => e = .returned (.bool r) ∧ Below w.heap.size w w' := by
  have hu27 := Tryd.underlying27; have HRT := am hr_; clear hr_; have HT := am hT; clear hT; have HB := am (Below.refl w.heap.size w); have H : ((outbox_Add.f k ([] : List (S27)) 1 0 10 1 0 (⟨#[97]⟩ : ByteArray)).bind fun bt177 => ((outbox_Sent.f k bt177.1 1 10).bind fun bt181 => ((outbox_Sent.f k bt181.1 1 11).bind fun bt185 => (if bt177.2 = 0 then (if bt181.2 = 0 then (if bt185.2 = 0 then (if (bt185.1.length : Int) = 1 then (if 0 < (bt181.1.length : Int) then (if ((rd_T27 bt181.1 0).f2) = 11 then (if 0 < (bt185.1.length : Int) then (if ((rd_T27 bt185.1 0).f2) = 13 then (if ((rd_T27 bt185.1 0).f4) = 2 then (if 0 < (bt177.1.length : Int) then (some (((rd_T27 bt177.1 0).f4) == 0)) else (none)) else (some false)) else (some false)) else (none)) else (some false)) else (none)) else (some false)) else (some false)) else (some false)) else (some false))))) = some r := h; clear h; replace H := obm H; obtain ⟨⟨t177, t180⟩, A10, H⟩ := H; replace H : ((outbox_Sent.f k t177 1 10).bind fun bt181 => ((outbox_Sent.f k bt181.1 1 11).bind fun bt185 => (if t180 = 0 then (if bt181.2 = 0 then (if bt185.2 = 0 then (if (bt185.1.length : Int) = 1 then (if 0 < (bt181.1.length : Int) then (if ((rd_T27 bt181.1 0).f2) = 11 then (if 0 < (bt185.1.length : Int) then (if ((rd_T27 bt185.1 0).f2) = 13 then (if ((rd_T27 bt185.1 0).f4) = 2 then (if 0 < (t177.length : Int) then (some (((rd_T27 t177 0).f4) == 0)) else (none)) else (some false)) else (some false)) else (none)) else (some false)) else (none)) else (some false)) else (some false)) else (some false)) else (some false)))) = some r := H; have A1 := am A10; clear A10; replace H := obm H; obtain ⟨⟨t181, t182⟩, A20, H⟩ := H; replace H : ((outbox_Sent.f k t181 1 11).bind fun bt185 => (if t180 = 0 then (if t182 = 0 then (if bt185.2 = 0 then (if (bt185.1.length : Int) = 1 then (if 0 < (t181.length : Int) then (if ((rd_T27 t181 0).f2) = 11 then (if 0 < (bt185.1.length : Int) then (if ((rd_T27 bt185.1 0).f2) = 13 then (if ((rd_T27 bt185.1 0).f4) = 2 then (if 0 < (t177.length : Int) then (some (((rd_T27 t177 0).f4) == 0)) else (none)) else (some false)) else (some false)) else (none)) else (some false)) else (none)) else (some false)) else (some false)) else (some false)) else (some false))) = some r := H; have A2 := am A20; clear A20; replace H := obm H; obtain ⟨⟨t185, t186⟩, A30, H⟩ := H; replace H : (if t180 = 0 then (if t182 = 0 then (if t186 = 0 then (if (t185.length : Int) = 1 then (if 0 < (t181.length : Int) then (if ((rd_T27 t181 0).f2) = 11 then (if 0 < (t185.length : Int) then (if ((rd_T27 t185 0).f2) = 13 then (if ((rd_T27 t185 0).f4) = 2 then (if 0 < (t177.length : Int) then (some (((rd_T27 t177 0).f4) == 0)) else (none)) else (some false)) else (some false)) else (none)) else (some false)) else (none)) else (some false)) else (some false)) else (some false)) else (some false)) = some r := H; have A3 := am A30; clear A30
  by_cases c4 : t180 = 0
  · rw [if_pos c4] at H
    have c4b0 : (t180 == 0) = true := beq_iff_eq.mpr c4; have c4b1 : (t180 != 0) = false := bne_eq_false_iff_eq.mpr c4; clear c4
    by_cases c5 : t182 = 0
    · rw [if_pos c5] at H
      have c5b0 : (t182 == 0) = true := beq_iff_eq.mpr c5; have c5b1 : (t182 != 0) = false := bne_eq_false_iff_eq.mpr c5; clear c5
      by_cases c6 : t186 = 0
      · rw [if_pos c6] at H
        have c6b0 : (t186 == 0) = true := beq_iff_eq.mpr c6; have c6b1 : (t186 != 0) = false := bne_eq_false_iff_eq.mpr c6; clear c6
        by_cases c7 : (t185.length : Int) = 1
        · rw [if_pos c7] at H
          have c7b0 : ((t185.length : Int) == 1) = true := beq_iff_eq.mpr c7; have c7b1 : ((t185.length : Int) != 1) = false := bne_eq_false_iff_eq.mpr c7; clear c7
          by_cases c8 : 0 < (t181.length : Int)
          · rw [if_pos c8] at H
            have c8b0 : decide (0 < (t181.length : Int)) = true := decide_eq_true c8; have c8b1 : decide (0 < t181.length) = true := decide_eq_true (by omega); clear c8
            by_cases c9 : ((rd_T27 t181 0).f2) = 11
            · rw [if_pos c9] at H
              have c9b0 : (((rd_T27 t181 0).f2) == 11) = true := beq_iff_eq.mpr c9; have c9b1 : (((rd_T27 t181 0).f2) != 11) = false := bne_eq_false_iff_eq.mpr c9; clear c9
              by_cases c10 : 0 < (t185.length : Int)
              · rw [if_pos c10] at H
                have c10b0 : decide (0 < (t185.length : Int)) = true := decide_eq_true c10; have c10b1 : decide (0 < t185.length) = true := decide_eq_true (by omega); clear c10
                by_cases c11 : ((rd_T27 t185 0).f2) = 13
                · rw [if_pos c11] at H
                  have c11b0 : (((rd_T27 t185 0).f2) == 13) = true := beq_iff_eq.mpr c11; have c11b1 : (((rd_T27 t185 0).f2) != 13) = false := bne_eq_false_iff_eq.mpr c11; clear c11
                  by_cases c12 : ((rd_T27 t185 0).f4) = 2
                  · rw [if_pos c12] at H
                    have c12b0 : (((rd_T27 t185 0).f4) == 2) = true := beq_iff_eq.mpr c12; have c12b1 : (((rd_T27 t185 0).f4) != 2) = false := bne_eq_false_iff_eq.mpr c12; clear c12
                    by_cases c13 : 0 < (t177.length : Int)
                    · rw [if_pos c13] at H
                      have c13b0 : decide (0 < (t177.length : Int)) = true := decide_eq_true c13; have c13b1 : decide (0 < t177.length) = true := decide_eq_true (by omega); clear c13; obtain rfl := Option.some.inj H; simp only [Option.some.injEq, Prod.mk.injEq] at H; obtain ⟨rfl⟩ := H
                      go_enter Tryd.func12, Tryd.ntmps12
                      go_wp2_with (first | ((with_reducible refine gate_callee (f := 15) rfl ?_); refine goesL_ (some 14) rfl rfl Tryd.func15 (by kernel_rfl) rfl #[.slice Ao15 t177.length co15, .int .i64 1, .int .i64 10] rfl ap1 ?_; (with_reducible refine (outbox_Sent.calls k _ _ t177 1 10 t181 t182 _ ?side1 ?side2 A2.out).mono ?_); (case side1 => exact cu (Kd.R_reads' HO179.out).2.2); (case side2 => exact (Kd.R_reads' HO179.out).2.1); rintro e w16 ⟨v183, rfl, ho0, hb⟩; refine ⟨_, rfl, ?_⟩; have _ := am (Kd.R_elder' (ru HO179.out) (Kd.R_base ho0) hb); have _ := am (Kd.R_lower (Kd.R_new' ho0 (Kd.R_lt (ru HO179.out))) (below_size (beu HB.out))); have _ := am (below_step (beu HB.out) hb); clear HO179 HB; rename_i HO179 HO184 HB; (try clear hb); (try clear ho0); obtain ⟨Ao17, co17, eo17⟩ := Kd.R_slice HO184.out; subst eo17) | ((with_reducible refine gate_callee (f := 15) rfl ?_); refine goesL_ (some 19) rfl rfl Tryd.func15 (by kernel_rfl) rfl #[.slice Ao17 t181.length co17, .int .i64 1, .int .i64 11] rfl ap1 ?_; (with_reducible refine (outbox_Sent.calls k _ _ t181 1 11 t185 t186 _ ?side1 ?side2 A3.out).mono ?_); (case side1 => exact cu (Kd.R_reads' HO184.out).2.2); (case side2 => exact (Kd.R_reads' HO184.out).2.1); rintro e w18 ⟨v187, rfl, ho0, hb⟩; refine ⟨_, rfl, ?_⟩; have _ := am (Kd.R_elder' (ru HO179.out) (Kd.R_base ho0) hb); have _ := am (Kd.R_elder' (ru HO184.out) (Kd.R_base ho0) hb); have _ := am (Kd.R_lower (Kd.R_new' (Kd.R_new' ho0 (Kd.R_lt (ru HO179.out))) (Kd.R_lt (ru HO184.out))) (below_size (beu HB.out))); have _ := am (below_step (beu HB.out) hb); clear HO179 HO184 HB; rename_i HO179 HO184 HO188 HB; (try clear hb); (try clear ho0); obtain ⟨Ao19, co19, eo19⟩ := Kd.R_slice HO188.out; subst eo19; have p189 : 0 ≤ (0 : Int) := (by omega); have q189 : 0 < (t181.length : Int) := of_decide_eq_true ap2; obtain ⟨ad189, e189, hx189_0, hx189_1, hx189_2, hx189_3, hx189_4, hx189_5⟩ := at_T27 (Kd.R_reads' HO184.out).2.2 0 p189 q189; cases e189; have qi189 : (0 < t181.length) = True := eq_true (by omega); (try rw [show ((0 : Int)).toNat = 0 from rfl] at hx189_0); (try rw [show 0 * 6 = 0 from rfl] at hx189_0); (try rw [Addr.add_zero'] at hx189_0); (try rw [show ((0 : Int)).toNat = 0 from rfl] at hx189_1); (try rw [show 0 * 6 = 0 from rfl] at hx189_1); (try rw [Addr.add_zero'] at hx189_1); (try rw [show ((0 : Int)).toNat = 0 from rfl] at hx189_2); (try rw [show 0 * 6 = 0 from rfl] at hx189_2); (try rw [Addr.add_zero'] at hx189_2); (try rw [show ((0 : Int)).toNat = 0 from rfl] at hx189_3); (try rw [show 0 * 6 = 0 from rfl] at hx189_3); (try rw [Addr.add_zero'] at hx189_3); (try rw [show ((0 : Int)).toNat = 0 from rfl] at hx189_4); (try rw [show 0 * 6 = 0 from rfl] at hx189_4); (try rw [Addr.add_zero'] at hx189_4); (try rw [show ((0 : Int)).toNat = 0 from rfl] at hx189_5); (try rw [show 0 * 6 = 0 from rfl] at hx189_5); (try rw [Addr.add_zero'] at hx189_5); replace p189 := eq_true p189; replace q189 := eq_true q189; have p190 : 0 ≤ (0 : Int) := (by omega); have q190 : 0 < (t185.length : Int) := of_decide_eq_true ap2; obtain ⟨ad190, e190, hx190_0, hx190_1, hx190_2, hx190_3, hx190_4, hx190_5⟩ := at_T27 (Kd.R_reads' HO188.out).2.2 0 p190 q190; cases e190; have qi190 : (0 < t185.length) = True := eq_true (by omega); (try rw [show ((0 : Int)).toNat = 0 from rfl] at hx190_0); (try rw [show 0 * 6 = 0 from rfl] at hx190_0); (try rw [Addr.add_zero'] at hx190_0); (try rw [show ((0 : Int)).toNat = 0 from rfl] at hx190_1); (try rw [show 0 * 6 = 0 from rfl] at hx190_1); (try rw [Addr.add_zero'] at hx190_1); (try rw [show ((0 : Int)).toNat = 0 from rfl] at hx190_2); (try rw [show 0 * 6 = 0 from rfl] at hx190_2); (try rw [Addr.add_zero'] at hx190_2); (try rw [show ((0 : Int)).toNat = 0 from rfl] at hx190_3); (try rw [show 0 * 6 = 0 from rfl] at hx190_3); (try rw [Addr.add_zero'] at hx190_3); (try rw [show ((0 : Int)).toNat = 0 from rfl] at hx190_4); (try rw [show 0 * 6 = 0 from rfl] at hx190_4); (try rw [Addr.add_zero'] at hx190_4); (try rw [show ((0 : Int)).toNat = 0 from rfl] at hx190_5); (try rw [show 0 * 6 = 0 from rfl] at hx190_5); (try rw [Addr.add_zero'] at hx190_5); replace p190 := eq_true p190; replace q190 := eq_true q190; have p191 : 0 ≤ (0 : Int) := (by omega); have q191 : 0 < (t185.length : Int) := of_decide_eq_true ap2; obtain ⟨ad191, e191, hx191_0, hx191_1, hx191_2, hx191_3, hx191_4, hx191_5⟩ := at_T27 (Kd.R_reads' HO188.out).2.2 0 p191 q191; obtain rfl : ad190 = ad191 := (by injection e191); have qi191 : (0 < t185.length) = True := eq_true (by omega); (try rw [show ((0 : Int)).toNat = 0 from rfl] at hx191_0); (try rw [show 0 * 6 = 0 from rfl] at hx191_0); (try rw [Addr.add_zero'] at hx191_0); (try rw [show ((0 : Int)).toNat = 0 from rfl] at hx191_1); (try rw [show 0 * 6 = 0 from rfl] at hx191_1); (try rw [Addr.add_zero'] at hx191_1); (try rw [show ((0 : Int)).toNat = 0 from rfl] at hx191_2); (try rw [show 0 * 6 = 0 from rfl] at hx191_2); (try rw [Addr.add_zero'] at hx191_2); (try rw [show ((0 : Int)).toNat = 0 from rfl] at hx191_3); (try rw [show 0 * 6 = 0 from rfl] at hx191_3); (try rw [Addr.add_zero'] at hx191_3); (try rw [show ((0 : Int)).toNat = 0 from rfl] at hx191_4); (try rw [show 0 * 6 = 0 from rfl] at hx191_4); (try rw [Addr.add_zero'] at hx191_4); (try rw [show ((0 : Int)).toNat = 0 from rfl] at hx191_5); (try rw [show 0 * 6 = 0 from rfl] at hx191_5); (try rw [Addr.add_zero'] at hx191_5); replace p191 := eq_true p191; replace q191 := eq_true q191; have p192 : 0 ≤ (0 : Int) := (by omega); have q192 : 0 < (t177.length : Int) := of_decide_eq_true ap2; obtain ⟨ad192, e192, hx192_0, hx192_1, hx192_2, hx192_3, hx192_4, hx192_5⟩ := at_T27 (Kd.R_reads' HO179.out).2.2 0 p192 q192; cases e192; have qi192 : (0 < t177.length) = True := eq_true (by omega); (try rw [show ((0 : Int)).toNat = 0 from rfl] at hx192_0); (try rw [show 0 * 6 = 0 from rfl] at hx192_0); (try rw [Addr.add_zero'] at hx192_0); (try rw [show ((0 : Int)).toNat = 0 from rfl] at hx192_1); (try rw [show 0 * 6 = 0 from rfl] at hx192_1); (try rw [Addr.add_zero'] at hx192_1); (try rw [show ((0 : Int)).toNat = 0 from rfl] at hx192_2); (try rw [show 0 * 6 = 0 from rfl] at hx192_2); (try rw [Addr.add_zero'] at hx192_2); (try rw [show ((0 : Int)).toNat = 0 from rfl] at hx192_3); (try rw [show 0 * 6 = 0 from rfl] at hx192_3); (try rw [Addr.add_zero'] at hx192_3); (try rw [show ((0 : Int)).toNat = 0 from rfl] at hx192_4); (try rw [show 0 * 6 = 0 from rfl] at hx192_4); (try rw [Addr.add_zero'] at hx192_4); (try rw [show ((0 : Int)).toNat = 0 from rfl] at hx192_5); (try rw [show 0 * 6 = 0 from rfl] at hx192_5); (try rw [Addr.add_zero'] at hx192_5); replace p192 := eq_true p192; replace q192 := eq_true q192) | ((with_reducible refine gate_callee (f := 9) rfl ?_); refine goesL_ (some 9) rfl rfl Tryd.func9 (by kernel_rfl) rfl #[.slice none 0 0, .agg #[.int .i64 1, .int .i64 0, .int .i64 10, .int .i64 1, .int .i64 0, .string (⟨#[97]⟩ : ByteArray)]] rfl ap1 ?_; (refine (outbox_Add.calls k _ _ ([] : List (S27)) 1 0 10 1 0 (⟨#[97]⟩ : ByteArray) t177 t180 _ ?side1 ?side2 ?side3 A1.out).mono ?_); (case side1 => exact Kd.C_nil _ _); (case side2 => exact Nat.le_refl _); (case side3 => first | (with_reducible exact HT.out) | exact Tabs.below HT.out (beu HB.out)); rintro e w14 ⟨v178, rfl, ho0, hb⟩; refine ⟨_, rfl, ?_⟩; have _ := am (Kd.R_lower ho0 (below_size (beu HB.out))); have _ := am (below_step (beu HB.out) hb); clear HB; rename_i HO179 HB; (try clear hb); (try clear ho0); obtain ⟨Ao15, co15, eo15⟩ := Kd.R_slice HO179.out; subst eo15))
                      go_ret
                      exact ⟨ap4, beu HB.out⟩
                    · rw [if_neg c13] at H
                      exact absurd H (by simp)
                  · rw [if_neg c12] at H
                    have c12b0 : (((rd_T27 t185 0).f4) == 2) = false := beq_eq_false_iff_ne.mpr c12; have c12b1 : (((rd_T27 t185 0).f4) != 2) = true := bne_iff_ne.mpr c12; obtain rfl := Option.some.inj H; exact absurd HRT.out (by decide)
                · rw [if_neg c11] at H
                  have c11b0 : (((rd_T27 t185 0).f2) == 13) = false := beq_eq_false_iff_ne.mpr c11; have c11b1 : (((rd_T27 t185 0).f2) != 13) = true := bne_iff_ne.mpr c11; obtain rfl := Option.some.inj H; exact absurd HRT.out (by decide)
              · rw [if_neg c10] at H
                exact absurd H (by simp)
            · rw [if_neg c9] at H
              have c9b0 : (((rd_T27 t181 0).f2) == 11) = false := beq_eq_false_iff_ne.mpr c9; have c9b1 : (((rd_T27 t181 0).f2) != 11) = true := bne_iff_ne.mpr c9; obtain rfl := Option.some.inj H; exact absurd HRT.out (by decide)
          · rw [if_neg c8] at H
            exact absurd H (by simp)
        · rw [if_neg c7] at H
          have c7b0 : ((t185.length : Int) == 1) = false := beq_eq_false_iff_ne.mpr c7; have c7b1 : ((t185.length : Int) != 1) = true := bne_iff_ne.mpr c7; obtain rfl := Option.some.inj H; exact absurd HRT.out (by decide)
      · rw [if_neg c6] at H
        have c6b0 : (t186 == 0) = false := beq_eq_false_iff_ne.mpr c6; have c6b1 : (t186 != 0) = true := bne_iff_ne.mpr c6; obtain rfl := Option.some.inj H; exact absurd HRT.out (by decide)
    · rw [if_neg c5] at H
      have c5b0 : (t182 == 0) = false := beq_eq_false_iff_ne.mpr c5; have c5b1 : (t182 != 0) = true := bne_iff_ne.mpr c5; obtain rfl := Option.some.inj H; exact absurd HRT.out (by decide)
  · rw [if_neg c4] at H
    have c4b0 : (t180 == 0) = false := beq_eq_false_iff_ne.mpr c4; have c4b1 : (t180 != 0) = true := bne_iff_ne.mpr c4; obtain rfl := Option.some.inj H; exact absurd HRT.out (by decide)
def packhorselaw13_OutboxNames.f (k : Nat)  : Option (Bool) := (outbox_Add.f k ([] : List (S27)) 1 1 0 3 0 (⟨#[97]⟩ : ByteArray)).bind fun bt193 => ((outbox_Settle.f k ([] : List (S27)) 1).bind fun bt197 => ((outbox_Find.f k ([] : List (S27)) 1).bind fun bt201 => ((packhorselaw13_outboxAlive.f k).bind fun t209 => (if t209 = true then (if bt193.2 = 131 then (if bt197.2 = 131 then (if bt201.2.2.2.2.2.2 = 131 then ((outbox_Backoff.f (-1)).bind fun t210 => (if t210 = 1 then ((outbox_Backoff.f 6).bind fun t211 => (if t211 = 64 then ((outbox_Backoff.f 4611686018427387904).bind fun t212 => (some (t212 == 64))) else (some false))) else (some false))) else (some false)) else (some false)) else (some false)) else (some false)))))
set_option maxHeartbeats 8000000 in
set_option maxRecDepth 100000 in
theorem packhorselaw13_OutboxNames.calls (k : Nat)  (r : Bool) (w : World) (hT : Tabs w) (h : packhorselaw13_OutboxNames.f k  = some r) (hr_ : r = true) :
    Calls Tryd.prog 3 #[] w fun e w' => e = .returned (.bool r) ∧ Below w.heap.size w w' := by
  have hu27 := Tryd.underlying27; have HRT := am hr_; clear hr_; have HT := am hT; clear hT; have HB := am (Below.refl w.heap.size w); have H : ((outbox_Add.f k ([] : List (S27)) 1 1 0 3 0 (⟨#[97]⟩ : ByteArray)).bind fun bt193 => ((outbox_Settle.f k ([] : List (S27)) 1).bind fun bt197 => ((outbox_Find.f k ([] : List (S27)) 1).bind fun bt201 => ((packhorselaw13_outboxAlive.f k).bind fun t209 => (if t209 = true then (if bt193.2 = 131 then (if bt197.2 = 131 then (if bt201.2.2.2.2.2.2 = 131 then ((outbox_Backoff.f (-1)).bind fun t210 => (if t210 = 1 then ((outbox_Backoff.f 6).bind fun t211 => (if t211 = 64 then ((outbox_Backoff.f 4611686018427387904).bind fun t212 => (some (t212 == 64))) else (some false))) else (some false))) else (some false)) else (some false)) else (some false)) else (some false)))))) = some r := h; clear h; replace H := obm H; obtain ⟨⟨t193, t196⟩, A10, H⟩ := H; replace H : ((outbox_Settle.f k ([] : List (S27)) 1).bind fun bt197 => ((outbox_Find.f k ([] : List (S27)) 1).bind fun bt201 => ((packhorselaw13_outboxAlive.f k).bind fun t209 => (if t209 = true then (if t196 = 131 then (if bt197.2 = 131 then (if bt201.2.2.2.2.2.2 = 131 then ((outbox_Backoff.f (-1)).bind fun t210 => (if t210 = 1 then ((outbox_Backoff.f 6).bind fun t211 => (if t211 = 64 then ((outbox_Backoff.f 4611686018427387904).bind fun t212 => (some (t212 == 64))) else (some false))) else (some false))) else (some false)) else (some false)) else (some false)) else (some false))))) = some r := H; have A1 := am A10; clear A10; replace H := obm H; obtain ⟨⟨t197, t200⟩, A20, H⟩ := H; replace H : ((outbox_Find.f k ([] : List (S27)) 1).bind fun bt201 => ((packhorselaw13_outboxAlive.f k).bind fun t209 => (if t209 = true then (if t196 = 131 then (if t200 = 131 then (if bt201.2.2.2.2.2.2 = 131 then ((outbox_Backoff.f (-1)).bind fun t210 => (if t210 = 1 then ((outbox_Backoff.f 6).bind fun t211 => (if t211 = 64 then ((outbox_Backoff.f 4611686018427387904).bind fun t212 => (some (t212 == 64))) else (some false))) else (some false))) else (some false)) else (some false)) else (some false)) else (some false)))) = some r := H; have A2 := am A20; clear A20; replace H := obm H; obtain ⟨⟨t201, t202, t203, t204, t205, t206, t207⟩, A30, H⟩ := H; replace H : ((packhorselaw13_outboxAlive.f k).bind fun t209 => (if t209 = true then (if t196 = 131 then (if t200 = 131 then (if t207 = 131 then ((outbox_Backoff.f (-1)).bind fun t210 => (if t210 = 1 then ((outbox_Backoff.f 6).bind fun t211 => (if t211 = 64 then ((outbox_Backoff.f 4611686018427387904).bind fun t212 => (some (t212 == 64))) else (some false))) else (some false))) else (some false)) else (some false)) else (some false)) else (some false))) = some r := H; have A3 := am A30; clear A30; replace H := obm H; obtain ⟨t209, A40, H⟩ := H; replace H : (if t209 = true then (if t196 = 131 then (if t200 = 131 then (if t207 = 131 then ((outbox_Backoff.f (-1)).bind fun t210 => (if t210 = 1 then ((outbox_Backoff.f 6).bind fun t211 => (if t211 = 64 then ((outbox_Backoff.f 4611686018427387904).bind fun t212 => (some (t212 == 64))) else (some false))) else (some false))) else (some false)) else (some false)) else (some false)) else (some false)) = some r := H; have A4 := am A40; clear A40
  by_cases c5 : t209 = true
  · subst c5
    have H1 : (if t196 = 131 then (if t200 = 131 then (if t207 = 131 then ((outbox_Backoff.f (-1)).bind fun t210 => (if t210 = 1 then ((outbox_Backoff.f 6).bind fun t211 => (if t211 = 64 then ((outbox_Backoff.f 4611686018427387904).bind fun t212 => (some (t212 == 64))) else (some false))) else (some false))) else (some false)) else (some false)) else (some false)) = some r := by rw [if_pos rfl] at H; exact H
    clear H; have H := H1; clear H1
    by_cases c6 : t196 = 131
    · rw [if_pos c6] at H
      have c6b0 : (t196 == 131) = true := beq_iff_eq.mpr c6; have c6b1 : (t196 != 131) = false := bne_eq_false_iff_eq.mpr c6; clear c6
      by_cases c7 : t200 = 131
      · rw [if_pos c7] at H
        have c7b0 : (t200 == 131) = true := beq_iff_eq.mpr c7; have c7b1 : (t200 != 131) = false := bne_eq_false_iff_eq.mpr c7; clear c7
        by_cases c8 : t207 = 131
        · rw [if_pos c8] at H
          have c8b0 : (t207 == 131) = true := beq_iff_eq.mpr c8; have c8b1 : (t207 != 131) = false := bne_eq_false_iff_eq.mpr c8; clear c8; replace H := obm H; obtain ⟨t210, A90, H⟩ := H; replace H : (if t210 = 1 then ((outbox_Backoff.f 6).bind fun t211 => (if t211 = 64 then ((outbox_Backoff.f 4611686018427387904).bind fun t212 => (some (t212 == 64))) else (some false))) else (some false)) = some r := H; have A9 := am A90; clear A90
          by_cases c10 : t210 = 1
          · rw [if_pos c10] at H
            have c10b0 : (t210 == 1) = true := beq_iff_eq.mpr c10; have c10b1 : (t210 != 1) = false := bne_eq_false_iff_eq.mpr c10; clear c10; replace H := obm H; obtain ⟨t211, A110, H⟩ := H; replace H : (if t211 = 64 then ((outbox_Backoff.f 4611686018427387904).bind fun t212 => (some (t212 == 64))) else (some false)) = some r := H; have A11 := am A110; clear A110
            by_cases c12 : t211 = 64
            · rw [if_pos c12] at H
              have c12b0 : (t211 == 64) = true := beq_iff_eq.mpr c12; have c12b1 : (t211 != 64) = false := bne_eq_false_iff_eq.mpr c12; clear c12; replace H := obm H; obtain ⟨t212, A130, H⟩ := H; replace H : (some (t212 == 64)) = some r := H; have A13 := am A130; clear A130; obtain rfl := Option.some.inj H; simp only [Option.some.injEq, Prod.mk.injEq] at H; obtain ⟨rfl⟩ := H
              go_enter Tryd.func3, Tryd.ntmps3
              go_wp2_with (first | ((with_reducible refine gate_dst (N := 5) rfl ?_); refine box_event ?hg (N := 5) ?hd (cs := #[.int .i64 0, .int .i64 0, .int .i64 0, .int .i64 0, .int .i64 0, .string ⟨#[]⟩]) (t := 27) ?hr ?_; (case hd => rfl); (case hg => rfl); (case hr => first | (go_simp; done) | (go_simp; rfl)); intro gb208 hg w17 hbox hb; have _ := am (Kd.R_below (Kd.R_elderB (ru HO195.out) gb208 (Nat.le_of_eq hg.symm)) hb); have _ := am (Kd.R_below (Kd.R_elderB (ru HO199.out) gb208 (Nat.le_of_eq hg.symm)) hb); have _ := am (below_step (beu HB.out) hb); have _ := am (hbox); have _ := am ((by rw [hg]; exact (below_size (beu HB.out)) : w.heap.size ≤ gb208)); have _ := am ((by rw [hg]; exact (below_size (beu HB.out)) : w.heap.size ≤ gb208)); clear HO195 HO199 HB; rename_i HO195 HO199 HB BK208 GW208 GE208; clear hb hbox hg; obtain ⟨hcz18_0, hcz18_1, hcz18_2, hcz18_3, hcz18_4, hcz18_5⟩ := cells6 BK208.out; obtain ⟨hfz18_0, hfz18_1, hfz18_2, hfz18_3, hfz18_4, hfz18_5⟩ := frozens6 BK208.out) | ((with_reducible refine gate_callee (f := 12) rfl ?_); refine goesL_ (some 20) rfl rfl Tryd.func12 (by kernel_rfl) rfl #[] rfl ap1 ?_; (with_reducible refine (packhorselaw13_outboxAlive.calls k  true _ ?side1 A4.out rfl).mono ?_); (case side1 => first | (with_reducible exact HT.out) | exact Tabs.below HT.out (beu HB.out)); rintro e w19 ⟨rfl, hb⟩; refine ⟨_, rfl, ?_⟩; have _ := am (Kd.R_below (ru (Kd.R_mono (rf gb208 5 (rf gb208 4 (rf gb208 3 (rf gb208 2 (rf gb208 1 (rf gb208 0 (Kd.R_mono HO195.out (fun k_ hk => (⟨hk, by first | exact hk.2 | exact hk.2.2.2 | exact hk.2.2 | exact hk.2.1 | exact hk.2.2.1⟩ : _ ∧ k_ ≠ gb208))) (.int .i64 t201)) (.int .i64 t202)) (.int .i64 t203)) (.int .i64 t204)) (.int .i64 t205)) (.string t206)) (fun _ h_ => h_.1))) hb); have _ := am (Kd.R_below (ru (Kd.R_mono (rf gb208 5 (rf gb208 4 (rf gb208 3 (rf gb208 2 (rf gb208 1 (rf gb208 0 (Kd.R_mono HO199.out (fun k_ hk => (⟨hk, by first | exact hk.2 | exact hk.2.2.2 | exact hk.2.2 | exact hk.2.1 | exact hk.2.2.1⟩ : _ ∧ k_ ≠ gb208))) (.int .i64 t201)) (.int .i64 t202)) (.int .i64 t203)) (.int .i64 t204)) (.int .i64 t205)) (.string t206)) (fun _ h_ => h_.1))) hb); have _ := am (blk_below (g := gb208) (o := .cells #[.int .i64 t201, .int .i64 t202, .int .i64 t203, .int .i64 t204, .int .i64 t205, .string t206] 27 (0, 0)) (by refine bu ?_; refine blk_put (cs := #[.int .i64 t201, .int .i64 t202, .int .i64 t203, .int .i64 t204, .int .i64 t205, .string ⟨#[]⟩]) ?_ 5 _ rfl; refine bu ?_; refine blk_put (cs := #[.int .i64 t201, .int .i64 t202, .int .i64 t203, .int .i64 t204, .int .i64 0, .string ⟨#[]⟩]) ?_ 4 _ rfl; refine bu ?_; refine blk_put (cs := #[.int .i64 t201, .int .i64 t202, .int .i64 t203, .int .i64 0, .int .i64 0, .string ⟨#[]⟩]) ?_ 3 _ rfl; refine bu ?_; refine blk_put (cs := #[.int .i64 t201, .int .i64 t202, .int .i64 0, .int .i64 0, .int .i64 0, .string ⟨#[]⟩]) ?_ 2 _ rfl; refine bu ?_; refine blk_put (cs := #[.int .i64 t201, .int .i64 0, .int .i64 0, .int .i64 0, .int .i64 0, .string ⟨#[]⟩]) ?_ 1 _ rfl; refine bu ?_; refine blk_put (cs := #[.int .i64 0, .int .i64 0, .int .i64 0, .int .i64 0, .int .i64 0, .string ⟨#[]⟩]) ?_ 0 _ rfl; refine bu ?_; exact BK208.out) hb); have _ := am (below_step (beu HB.out) hb); clear HO195 HO199 BK208 HB; rename_i HO195 HO199 BK208 HB; (try clear hb)) | (go_at_call 13; (with_reducible refine (outbox_Backoff.calls (-1) t210 _ A9.out).mono ?_); rintro e w20 ⟨rfl, hb⟩; have _ := am (Kd.R_below (ru HO195.out) hb); have _ := am (Kd.R_below (ru HO199.out) hb); have _ := am (blk_below (bu BK208.out) hb); have _ := am (below_step (beu HB.out) hb); clear HO195 HO199 BK208 HB; rename_i HO195 HO199 BK208 HB; (try clear hb)) | (go_at_call 13; (with_reducible refine (outbox_Backoff.calls 6 t211 _ A11.out).mono ?_); rintro e w21 ⟨rfl, hb⟩; have _ := am (Kd.R_below (ru HO195.out) hb); have _ := am (Kd.R_below (ru HO199.out) hb); have _ := am (blk_below (bu BK208.out) hb); have _ := am (below_step (beu HB.out) hb); clear HO195 HO199 BK208 HB; rename_i HO195 HO199 BK208 HB; (try clear hb)) | (go_at_call 13; (with_reducible refine (outbox_Backoff.calls 4611686018427387904 t212 _ A13.out).mono ?_); rintro e w22 ⟨rfl, hb⟩; have _ := am (Kd.R_below (ru HO195.out) hb); have _ := am (Kd.R_below (ru HO199.out) hb); have _ := am (blk_below (bu BK208.out) hb); have _ := am (below_step (beu HB.out) hb); clear HO195 HO199 BK208 HB; rename_i HO195 HO199 BK208 HB; (try clear hb)) | ((with_reducible refine gate_callee (f := 9) rfl ?_); refine goesL_ (some 9) rfl rfl Tryd.func9 (by kernel_rfl) rfl #[.slice none 0 0, .agg #[.int .i64 1, .int .i64 1, .int .i64 0, .int .i64 3, .int .i64 0, .string (⟨#[97]⟩ : ByteArray)]] rfl ap1 ?_; (refine (outbox_Add.calls k _ _ ([] : List (S27)) 1 1 0 3 0 (⟨#[97]⟩ : ByteArray) t193 t196 _ ?side1 ?side2 ?side3 A1.out).mono ?_); (case side1 => exact Kd.C_nil _ _); (case side2 => exact Nat.le_refl _); (case side3 => first | (with_reducible exact HT.out) | exact Tabs.below HT.out (beu HB.out)); rintro e w14 ⟨v194, rfl, ho0, hb⟩; refine ⟨_, rfl, ?_⟩; have _ := am (Kd.R_lower ho0 (below_size (beu HB.out))); have _ := am (below_step (beu HB.out) hb); clear HB; rename_i HO195 HB; (try clear hb); (try clear ho0)) | ((with_reducible refine gate_callee (f := 10) rfl ?_); refine goesL_ (some 13) rfl rfl Tryd.func10 (by kernel_rfl) rfl #[.slice none 0 0, .int .i64 1] rfl ap1 ?_; (refine (outbox_Settle.calls k (fun k_ => False) _ _ ([] : List (S27)) 1 t197 t200 _ ?side1 A2.out).mono ?_); (case side1 => exact Kd.V_nil _ _ _ _ _); rintro e w15 ⟨v198, rfl, ho0, hb⟩; refine ⟨_, rfl, ?_⟩; have _ := am (Kd.R_elder' (ru HO195.out) (Kd.R_base ho0) hb); have _ := am (Kd.R_lower (Kd.R_new' (Kd.R_mono (ok' := fun k_ => True) ho0 (fun _ hk_ => trivial)) (Kd.R_lt (ru HO195.out))) (below_size (beu HB.out))); have _ := am (below_step (beu HB.out) hb); clear HO195 HB; rename_i HO195 HO199 HB; (try clear hb); (try clear ho0)) | ((with_reducible refine gate_callee (f := 11) rfl ?_); refine goesL_ (some 17) rfl rfl Tryd.func11 (by kernel_rfl) rfl #[.slice none 0 0, .int .i64 1] rfl ap1 ?_; (refine (outbox_Find.calls k _ _ ([] : List (S27)) 1 t201 t202 t203 t204 t205 t206 t207 _ ?side1 ?side2 A3.out).mono ?_); (case side1 => exact Kd.C_nil _ _); (case side2 => exact Nat.le_refl _); rintro e w16 ⟨rfl, hb⟩; refine ⟨_, rfl, ?_⟩; have _ := am (Kd.R_below (ru HO195.out) hb); have _ := am (Kd.R_below (ru HO199.out) hb); have _ := am (below_step (beu HB.out) hb); clear HO195 HO199 HB; rename_i HO195 HO199 HB; (try clear hb)))
              go_ret
              exact ⟨ap4, beu HB.out⟩
            · rw [if_neg c12] at H
              have c12b0 : (t211 == 64) = false := beq_eq_false_iff_ne.mpr c12; have c12b1 : (t211 != 64) = true := bne_iff_ne.mpr c12; obtain rfl := Option.some.inj H; exact absurd HRT.out (by decide)
          · rw [if_neg c10] at H
            have c10b0 : (t210 == 1) = false := beq_eq_false_iff_ne.mpr c10; have c10b1 : (t210 != 1) = true := bne_iff_ne.mpr c10; obtain rfl := Option.some.inj H; exact absurd HRT.out (by decide)
        · rw [if_neg c8] at H
          have c8b0 : (t207 == 131) = false := beq_eq_false_iff_ne.mpr c8; have c8b1 : (t207 != 131) = true := bne_iff_ne.mpr c8; obtain rfl := Option.some.inj H; exact absurd HRT.out (by decide)
      · rw [if_neg c7] at H
        have c7b0 : (t200 == 131) = false := beq_eq_false_iff_ne.mpr c7; have c7b1 : (t200 != 131) = true := bne_iff_ne.mpr c7; obtain rfl := Option.some.inj H; exact absurd HRT.out (by decide)
    · rw [if_neg c6] at H
      have c6b0 : (t196 == 131) = false := beq_eq_false_iff_ne.mpr c6; have c6b1 : (t196 != 131) = true := bne_iff_ne.mpr c6; obtain rfl := Option.some.inj H; exact absurd HRT.out (by decide)
  · replace c5 := Bool.eq_false_iff.mpr c5
    subst c5
    have H1 : (some false) = some r := by rw [if_neg (show ¬ (false = true) by decide)] at H; exact H
    clear H; have H := H1; clear H1; obtain rfl := Option.some.inj H; exact absurd HRT.out (by decide)
end Go.Proofs.YtnacmehhmheooaaDoor.PNam
