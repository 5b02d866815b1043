
import Derived.Test.YtalcopjlofbfaaaDoorQLinesNamesPAllx0
namespace Go.Proofs.YtalcopjlofbfaaaDoor.PAll
open Go.RowKit Go.Proofs.YtalcopjlofbfaaaDoorW.PrintWords Go.Proofs.YtalcopjlofbfaaaDoorW.PrintLast Go.Proofs.YtalcopjlofbfaaaDoorW.PrintMore
attribute [local go_sem] max2_int min2_int max_two min_two
set_option linter.unusedVariables false
set_option linter.unusedSimpArgs false
def label_letter.f (a0 : Int) : Option (Bool) := if 97 ≤ a0 then (if a0 ≤ 122 then (some true) else (if 945 ≤ a0 then (some (decide (a0 ≤ 969))) else (some false))) else (if 945 ≤ a0 then (some (decide (a0 ≤ 969))) else (some false))
set_option maxHeartbeats 8000000 in
set_option maxRecDepth 100000 in
theorem label_letter.calls (a0 : Int) (r : Bool) (w : World) (h : label_letter.f a0 = some r) :
    Calls Tryd.prog 46 #[.int .i32 a0] w fun e w' => e = .returned (.bool r) ∧ Drawn0 w w' := by
  have H : (if 97 ≤ a0 then (if a0 ≤ 122 then (some true) else (if 945 ≤ a0 then (some (decide (a0 ≤ 969))) else (some false))) else (if 945 ≤ a0 then (some (decide (a0 ≤ 969))) else (some false))) = some r := h; clear h
  by_cases c2 : 97 ≤ a0
  · rw [if_pos c2] at H
    have c2b0 : decide (97 ≤ a0) = true := decide_eq_true c2; clear c2
    by_cases c3 : a0 ≤ 122
    · rw [if_pos c3] at H
      have c3b0 : decide (a0 ≤ 122) = true := decide_eq_true c3; clear c3; obtain rfl := Option.some.inj H; simp only [Option.some.injEq, Prod.mk.injEq] at H; obtain ⟨rfl⟩ := H
      go_enter Tryd.func46, Tryd.ntmps46
      go_wp2
      go_ret
      exact ⟨ap3, ap5⟩
    · rw [if_neg c3] at H
      have c3b0 : decide (a0 ≤ 122) = false := decide_eq_false c3; clear c3
      by_cases c4 : 945 ≤ a0
      · rw [if_pos c4] at H
        have c4b0 : decide (945 ≤ a0) = true := decide_eq_true c4; clear c4; obtain rfl := Option.some.inj H; simp only [Option.some.injEq, Prod.mk.injEq] at H; obtain ⟨rfl⟩ := H
        go_enter Tryd.func46, Tryd.ntmps46
        go_wp2
        go_ret
        exact ⟨ap3, ap5⟩
      · rw [if_neg c4] at H
        have c4b0 : decide (945 ≤ a0) = false := decide_eq_false c4; clear c4; obtain rfl := Option.some.inj H; simp only [Option.some.injEq, Prod.mk.injEq] at H; obtain ⟨rfl⟩ := H
        go_enter Tryd.func46, Tryd.ntmps46
        go_wp2
        go_ret
        exact ⟨ap3, ap5⟩
  · rw [if_neg c2] at H
    have c2b0 : decide (97 ≤ a0) = false := decide_eq_false c2; clear c2
    by_cases c5 : 945 ≤ a0
    · rw [if_pos c5] at H
      have c5b0 : decide (945 ≤ a0) = true := decide_eq_true c5; clear c5; obtain rfl := Option.some.inj H; simp only [Option.some.injEq, Prod.mk.injEq] at H; obtain ⟨rfl⟩ := H
      go_enter Tryd.func46, Tryd.ntmps46
      go_wp2
      go_ret
      exact ⟨ap3, ap5⟩
    · rw [if_neg c5] at H
      have c5b0 : decide (945 ≤ a0) = false := decide_eq_false c5; clear c5; obtain rfl := Option.some.inj H; simp only [Option.some.injEq, Prod.mk.injEq] at H; obtain ⟨rfl⟩ := H
      go_enter Tryd.func46, Tryd.ntmps46
      go_wp2
      go_ret
      exact ⟨ap3, ap5⟩
def label_digit.f (a0 : Int) : Option (Bool) := if 48 ≤ a0 then (some (decide (a0 ≤ 57))) else (some false)
set_option maxHeartbeats 8000000 in
set_option maxRecDepth 100000 in
theorem label_digit.calls (a0 : Int) (r : Bool) (w : World) (h : label_digit.f a0 = some r) :
    Calls Tryd.prog 47 #[.int .i32 a0] w fun e w' => e = .returned (.bool r) ∧ Drawn0 w w' := by
  have H : (if 48 ≤ a0 then (some (decide (a0 ≤ 57))) else (some false)) = some r := h; clear h
  by_cases c2 : 48 ≤ a0
  · rw [if_pos c2] at H
    have c2b0 : decide (48 ≤ a0) = true := decide_eq_true c2; clear c2; obtain rfl := Option.some.inj H; simp only [Option.some.injEq, Prod.mk.injEq] at H; obtain ⟨rfl⟩ := H
    go_enter Tryd.func47, Tryd.ntmps47
    go_wp2
    go_ret
    exact ⟨ap3, ap5⟩
  · rw [if_neg c2] at H
    have c2b0 : decide (48 ≤ a0) = false := decide_eq_false c2; clear c2; obtain rfl := Option.some.inj H; simp only [Option.some.injEq, Prod.mk.injEq] at H; obtain ⟨rfl⟩ := H
    go_enter Tryd.func47, Tryd.ntmps47
    go_wp2
    go_ret
    exact ⟨ap3, ap5⟩
def label_Signs.f (a0 : ByteArray) : Option (Int) := if a0.size ≤ 140737488351232 then some (Go.Proofs.YtalcopjlofbfaaaDoor.Lab.signs a0) else none
theorem label_letter_nat (c : Nat) : label_letter.f (c : Int) = some (Go.Proofs.YtalcopjlofbfaaaDoor.Lab.letter c) := by
  unfold label_letter.f Go.Proofs.YtalcopjlofbfaaaDoor.Lab.letter
  by_cases h1 : 97 ≤ c
  · rw [if_pos (by omega)]
    by_cases h2 : c ≤ 122
    · rw [if_pos (by omega)]; simp [h1, h2]
    · rw [if_neg (by omega)]
      by_cases h3 : 945 ≤ c
      · rw [if_pos (by omega)]; simp [h2, h3]; omega
      · rw [if_neg (by omega)]; simp [h2, h3]
  · rw [if_neg (by omega), if_neg (by omega)]
    have h3 : ¬ 945 ≤ c := by omega
    simp [h1, h3]
theorem label_digit_nat (c : Nat) : label_digit.f (c : Int) = some (decide (48 ≤ c) && decide (c ≤ 57)) := by
  unfold label_digit.f
  by_cases h1 : 48 ≤ c
  · rw [if_pos (by omega)]; simp [h1]; omega
  · rw [if_neg (by omega)]; simp [h1]
set_option maxHeartbeats 8000000 in
set_option maxRecDepth 100000 in
theorem label_Signs.calls (a0 : ByteArray) (r : Int) (w : World) (hT : Tabs w) (h : label_Signs.f a0 = some r) :
    Calls Tryd.prog 42 #[.string a0] w fun e w' => e = .returned (.int .i64 r) ∧ Below w.heap.size w w' := by
  have hsz : a0.size ≤ 140737488351232 := by
    by_cases c : a0.size ≤ 140737488351232
    · exact c
    · rw [label_Signs.f, if_neg c] at h; cases h
  obtain rfl : Go.Proofs.YtalcopjlofbfaaaDoor.Lab.signs a0 = r := by rw [label_Signs.f, if_pos hsz] at h; exact Option.some.inj h
  clear h
  unfold Go.Proofs.YtalcopjlofbfaaaDoor.Lab.signs
  obtain ⟨ANS, hANS⟩ : ∃ ANS, Go.Proofs.YtalcopjlofbfaaaDoor.Lab.scan a0 a0.size 0 0 = ANS := ⟨_, rfl⟩
  have hA0 : -1 ≤ ANS ∧ ANS ≤ 140737488351232 := by
    rw [← hANS]; have := Go.Proofs.YtalcopjlofbfaaaDoor.Lab.scan_le a0 a0.size 0 0; omega
  rw [hANS]; obtain ⟨RES, hRES⟩ : ∃ RES : Int, (if ANS ≤ 0 ∨ 16 < ANS ∨ Lib.validD a0.data.toList = false then -1 else ANS) = RES := ⟨_, rfl⟩; rw [hRES]; have HR := am hRES; clear hRES; have HTA := am hT; clear hT
  go_enter Tryd.func42, Tryd.ntmps42
  go_wp2
  go_loopg [3] a0.size (fun g s3 wx => ∃ (v : World) (pos n : Nat), wx = v.iter a0 pos ∧ v.heap.size = w.heap.size ∧ Below w.heap.size w v ∧ s3 = .int .i64 (n : Int) ∧ n ≤ pos ∧ a0.size ≤ pos + g ∧ Go.Proofs.YtalcopjlofbfaaaDoor.Lab.scan a0 g pos n = ANS)
  case atStart => exact ⟨w, 0, 0, rfl, rfl, Below.refl _ _, rfl, by omega, by omega, hANS⟩
  case round =>
    obtain ⟨v, pos, n, rfl, hv, hbv, rfl, hnp, hpg, hsc⟩ := hrel; clear hANS
    by_cases hp : pos < a0.size
    · obtain ⟨g', rfl⟩ : ∃ g', gk = g' + 1 := ⟨gk - 1, by omega⟩
      rw [Go.Proofs.YtalcopjlofbfaaaDoor.Lab.scan_step a0 g' pos n hp] at hsc
      have hnx := fun ty => run_next_any (P := Tryd.prog) v a0 pos ty hp
      rw [hv] at hnx; have hw1 := Lib.width_pos a0 pos; generalize Utf8.decode a0 pos = d at hsc hnx hw1; obtain ⟨c, wd⟩ := d; have hL := label_letter_nat c; have hD := label_digit_nat c; simp only at hsc hnx hw1; have Hsc := am hsc; clear hsc; have Hbv := am hbv; clear hbv
      have hwr : IntKind.i64.wrap ((n : Int) + 1) = (n : Int) + 1 := by rw [IntKind.wrap_i64]; omega
      cases cL : Go.Proofs.YtalcopjlofbfaaaDoor.Lab.letter c
      · rw [cL] at hL
        have Hc := am cL; clear cL
        by_cases n0 : n = 0
        · subst n0
          go_wp2_with (first | (go_at_call 46; refine (label_letter.calls (c : Int) _ _ hL).mono ?_; rintro e w' ⟨rfl, nd, rfl⟩) | (go_at_call 47; refine (label_digit.calls (c : Int) _ _ hD).mono ?_; rintro e w' ⟨rfl, nd2, rfl⟩))
          go_ret
          have h2 := Hsc.out; rw [Hc.out] at h2; simp at h2; have h3 := HR.out; rw [if_pos (by omega)] at h3; subst h3; exact ⟨rfl, pw_below_drewN (show Below w.heap.size w (v.iter a0 (pos + wd)) from Hbv.out.alloc (Nat.le_of_eq hv.symm) _) nd⟩
        · have n1 : ((n : Int) == 0) = false := by simp [n0]
          have HN := am (show decide (0 < n) = true by simp; omega)
          cases cD : (decide (48 ≤ c) && decide (c ≤ 57))
          · rw [cD] at hD
            have Hd := am cD; clear cD
            by_cases c45 : c = 45
            · have m1 : ((c : Int) != 45) = false := by simp [c45]
              have H45 := am c45; clear c45
              go_wp2_with (first | (go_at_call 46; refine (label_letter.calls (c : Int) _ _ hL).mono ?_; rintro e w' ⟨rfl, nd, rfl⟩) | (go_at_call 47; refine (label_digit.calls (c : Int) _ _ hD).mono ?_; rintro e w' ⟨rfl, nd2, rfl⟩))
              go_roundg g'
              case measure => omega
              case rel => exact ⟨v.drewN (nd + nd2), pos + wd, n + 1, rfl, hv, pw_below_drewN Hbv.out (nd + nd2), congrArg (Value.int .i64) (by omega), by omega, by omega, by have h2 := Hsc.out; rw [Hc.out, HN.out, show Go.Proofs.YtalcopjlofbfaaaDoor.Lab.behind c = true by unfold Go.Proofs.YtalcopjlofbfaaaDoor.Lab.behind; rw [Hd.out, H45.out]; rfl] at h2; exact h2⟩
            · have m1 : ((c : Int) != 45) = true := by simp; omega
              have H45 := am c45; clear c45
              go_wp2_with (first | (go_at_call 46; refine (label_letter.calls (c : Int) _ _ hL).mono ?_; rintro e w' ⟨rfl, nd, rfl⟩) | (go_at_call 47; refine (label_digit.calls (c : Int) _ _ hD).mono ?_; rintro e w' ⟨rfl, nd2, rfl⟩))
              go_ret
              have h2 := Hsc.out; rw [Hc.out, HN.out, show Go.Proofs.YtalcopjlofbfaaaDoor.Lab.behind c = false by unfold Go.Proofs.YtalcopjlofbfaaaDoor.Lab.behind; rw [Hd.out, decide_eq_false H45.out]; rfl] at h2; simp at h2; have h3 := HR.out; rw [if_pos (by omega)] at h3; subst h3; exact ⟨rfl, pw_below_drewN (show Below w.heap.size w (v.iter a0 (pos + wd)) from Hbv.out.alloc (Nat.le_of_eq hv.symm) _) (nd + nd2)⟩
          · rw [cD] at hD
            have Hd := am cD; clear cD
            go_wp2_with (first | (go_at_call 46; refine (label_letter.calls (c : Int) _ _ hL).mono ?_; rintro e w' ⟨rfl, nd, rfl⟩) | (go_at_call 47; refine (label_digit.calls (c : Int) _ _ hD).mono ?_; rintro e w' ⟨rfl, nd2, rfl⟩))
            go_roundg g'
            case measure => omega
            case rel => exact ⟨v.drewN (nd + nd2), pos + wd, n + 1, rfl, hv, pw_below_drewN Hbv.out (nd + nd2), congrArg (Value.int .i64) (by omega), by omega, by omega, by have h2 := Hsc.out; rw [Hc.out, HN.out, show Go.Proofs.YtalcopjlofbfaaaDoor.Lab.behind c = true by unfold Go.Proofs.YtalcopjlofbfaaaDoor.Lab.behind; rw [Hd.out]; rfl] at h2; exact h2⟩
      · rw [cL] at hL
        have Hc := am cL; clear cL
        go_wp2_with (first | (go_at_call 46; refine (label_letter.calls (c : Int) _ _ hL).mono ?_; rintro e w' ⟨rfl, nd, rfl⟩) | (go_at_call 47; refine (label_digit.calls (c : Int) _ _ hD).mono ?_; rintro e w' ⟨rfl, nd2, rfl⟩))
        go_roundg g'
        case measure => omega
        case rel => exact ⟨v.drewN nd, pos + wd, n + 1, rfl, hv, pw_below_drewN Hbv.out nd, congrArg (Value.int .i64) (by omega), by omega, by omega, by have h2 := Hsc.out; rw [Hc.out] at h2; exact h2⟩
    · have hnx := fun ty => run_next_end (P := Tryd.prog) v a0 pos ty hp
      rw [hv] at hnx; rw [Go.Proofs.YtalcopjlofbfaaaDoor.Lab.scan_end a0 gk pos n hp] at hsc; have Hbv := am hbv; clear hbv; have Hb2 := am (show Below w.heap.size w (v.iter a0 pos) from Hbv.out.alloc (Nat.le_of_eq hv.symm) _); clear hA0 hpg hp
      by_cases n0 : n = 0
      · subst n0
        go_wp2_with fail
        go_ret
        have h3 := HR.out; rw [if_pos (by omega)] at h3; subst h3; exact ⟨rfl, Hb2.out⟩
      · have n1 : ((n : Int) == 0) = false := by simp [n0]
        by_cases n16 : 16 < n
        · have n2 : (16 : Int) < (n : Int) := by omega
          go_wp2_with fail
          go_ret
          have h3 := HR.out; rw [if_pos (by omega)] at h3; subst h3; exact ⟨rfl, Hb2.out⟩
        · have n2 : decide ((16 : Int) < (n : Int)) = false := decide_eq_false (by omega)
          have cV := am (show Calls Tryd.prog 48 #[.string a0] (v.iter a0 pos) _ from Any.utf8_ValidString Tryd.laysValid a0 (v.iter a0 pos) (by omega) (Tabs.u8 (Tabs.below HTA.out Hb2.out))); have Hsc := am hsc; have Hn := am (show (n : Int) ≤ 16 ∧ 0 < (n : Int) by omega); clear hsc; have HV := am (rfl : Lib.validD a0.data.toList = Lib.validD a0.data.toList); generalize hVV : Lib.validD a0.data.toList = V at cV HR; clear HV
          cases V
          · go_wp2_with (go_at_call 48; refine cV.out.mono ?_; rintro e w' ⟨rfl, hb⟩)
            go_ret
            have h3 := HR.out; rw [if_pos (by simp)] at h3; subst h3; exact ⟨rfl, below_step Hb2.out hb⟩
          · go_wp2_with (go_at_call 48; refine cV.out.mono ?_; rintro e w' ⟨rfl, hb⟩)
            go_ret
            have h3 := HR.out; have h4 := Hsc.out; have h5 := Hn.out
            rw [if_neg (by rintro (h | h | h); · omega
                           · omega
                           · cases h)] at h3
            subst h3; subst h4; exact ⟨rfl, below_step Hb2.out hb⟩
def label_Right.f (a0 : ByteArray) : Option (Bool) := (label_Signs.f a0).bind fun t108 => (some (decide (t108 > 0)))
set_option maxHeartbeats 8000000 in
set_option maxRecDepth 100000 in
theorem label_Right.calls (a0 : ByteArray) (r : Bool) (w : World) (hT : Tabs w) (h : label_Right.f a0 = some r) :
    Calls Tryd.prog 37 #[.string a0] w fun e w' => e = .returned (.bool r) ∧ Below w.heap.size w w' := by
  have HT := am hT; clear hT; have HB := am (Below.refl w.heap.size w); have H : ((label_Signs.f a0).bind fun t108 => (some (decide (t108 > 0)))) = some r := h; clear h; replace H := obm H; obtain ⟨t108, A20, H⟩ := H; replace H : (some (decide (t108 > 0))) = some r := H; have A2 := am A20; clear A20; obtain rfl := Option.some.inj H; simp only [Option.some.injEq, Prod.mk.injEq] at H; obtain ⟨rfl⟩ := H
  go_enter Tryd.func37, Tryd.ntmps37
  go_wp2_with (first | ((with_reducible refine gate_callee (f := 42) rfl ?_); refine goesL_ (some 4) rfl rfl Tryd.func42 (by kernel_rfl) rfl #[.string a0] rfl ap1 ?_; (with_reducible refine (label_Signs.calls a0 t108 _ ?side1 A2.out).mono ?_); (case side1 => first | (with_reducible exact HT.out) | exact Tabs.below HT.out (beu HB.out)); rintro e w3 ⟨rfl, hb⟩; refine ⟨_, rfl, ?_⟩; have _ := am (below_step (beu HB.out) hb); clear HB; rename_i HB; (try clear hb)))
  go_ret
  exact ⟨ap4, beu HB.out⟩
def lines_one.f (a0_0 : ByteArray) (a0_1 : Int) (a0_2 : Int) : Option (Bool) := (label_Right.f a0_0).bind fun t110 => (if t110 = true then (if a0_1 ≥ 1 then (if a0_1 ≤ 1000 then (if a0_2 ≥ 0 then (some (decide (a0_2 ≤ 100000))) else (some false)) else (some false)) else (some false)) else (some false))
set_option maxHeartbeats 8000000 in
set_option maxRecDepth 100000 in
theorem lines_one.calls (a0_0 : ByteArray) (a0_1 : Int) (a0_2 : Int) (r : Bool) (w : World) (hT : Tabs w) (h : lines_one.f a0_0 a0_1 a0_2 = some r) :
    Calls Tryd.prog 24 #[.agg #[.string a0_0, .int .i64 a0_1, .int .i64 a0_2]] w fun e w' => e = .returned (.bool r) ∧ Below w.heap.size w w' := by
  have hu37 := Tryd.underlying37; have HT := am hT; clear hT; have HB := am (Below.refl w.heap.size w); have H : ((label_Right.f a0_0).bind fun t110 => (if t110 = true then (if a0_1 ≥ 1 then (if a0_1 ≤ 1000 then (if a0_2 ≥ 0 then (some (decide (a0_2 ≤ 100000))) else (some false)) else (some false)) else (some false)) else (some false))) = some r := h; clear h; replace H := obm H; obtain ⟨t110, A20, H⟩ := H; replace H : (if t110 = true then (if a0_1 ≥ 1 then (if a0_1 ≤ 1000 then (if a0_2 ≥ 0 then (some (decide (a0_2 ≤ 100000))) else (some false)) else (some false)) else (some false)) else (some false)) = some r := H; have A2 := am A20; clear A20
  by_cases c3 : t110 = true
  · subst c3
    have H1 : (if a0_1 ≥ 1 then (if a0_1 ≤ 1000 then (if a0_2 ≥ 0 then (some (decide (a0_2 ≤ 100000))) else (some false)) else (some false)) else (some false)) = some r := by rw [if_pos rfl] at H; exact H
    clear H; have H := H1; clear H1
    by_cases c4 : a0_1 ≥ 1
    · rw [if_pos c4] at H
      have c4b0 : decide (1 ≤ a0_1) = true := decide_eq_true c4; clear c4
      by_cases c5 : a0_1 ≤ 1000
      · rw [if_pos c5] at H
        have c5b0 : decide (a0_1 ≤ 1000) = true := decide_eq_true c5; clear c5
        by_cases c6 : a0_2 ≥ 0
        · rw [if_pos c6] at H
          have c6b0 : decide (0 ≤ a0_2) = true := decide_eq_true c6; clear c6; obtain rfl := Option.some.inj H; simp only [Option.some.injEq, Prod.mk.injEq] at H; obtain ⟨rfl⟩ := H
          go_enter Tryd.func24, Tryd.ntmps24
          go_wp2_with (first | ((with_reducible refine gate_dst (N := 1) rfl ?_); refine box_event ?hg (N := 1) ?hd (cs := #[.string a0_0, .int .i64 a0_1, .int .i64 a0_2]) (t := 37) ?hr ?_; (case hd => rfl); (case hg => rfl); (case hr => first | (go_simp; done) | (go_simp; rfl)); intro gb109 hg w7 hbox hb; have _ := am (below_step (beu HB.out) hb); have _ := am (hbox); have _ := am ((by rw [hg]; exact (below_size (beu HB.out)) : w.heap.size ≤ gb109)); have _ := am ((by rw [hg]; exact (below_size (beu HB.out)) : w.heap.size ≤ gb109)); clear HB; rename_i HB BK109 GW109 GE109; clear hb hbox hg; obtain ⟨hcz8_0, hcz8_1, hcz8_2⟩ := cells3 BK109.out; obtain ⟨hfz8_0, hfz8_1, hfz8_2⟩ := frozens3 BK109.out) | ((with_reducible refine gate_callee (f := 37) rfl ?_); refine goesL_ (some 5) rfl rfl Tryd.func37 (by kernel_rfl) rfl #[.string a0_0] rfl ap1 ?_; (with_reducible refine (label_Right.calls a0_0 true _ ?side1 A2.out).mono ?_); (case side1 => first | (with_reducible exact HT.out) | exact Tabs.below HT.out (beu HB.out)); rintro e w9 ⟨rfl, hb⟩; refine ⟨_, rfl, ?_⟩; have _ := am (blk_below (bu BK109.out) hb); have _ := am (below_step (beu HB.out) hb); clear BK109 HB; rename_i BK109 HB; (try clear hb); obtain ⟨_, _, _⟩ := cells3 BK109.out; obtain ⟨_, _, _⟩ := frozens3 BK109.out))
          go_ret
          exact ⟨ap4, beu HB.out⟩
        · rw [if_neg c6] at H
          have c6b0 : decide (0 ≤ a0_2) = false := decide_eq_false c6; clear c6; obtain rfl := Option.some.inj H; simp only [Option.some.injEq, Prod.mk.injEq] at H; obtain ⟨rfl⟩ := H
          go_enter Tryd.func24, Tryd.ntmps24
          go_wp2_with (first | ((with_reducible refine gate_dst (N := 1) rfl ?_); refine box_event ?hg (N := 1) ?hd (cs := #[.string a0_0, .int .i64 a0_1, .int .i64 a0_2]) (t := 37) ?hr ?_; (case hd => rfl); (case hg => rfl); (case hr => first | (go_simp; done) | (go_simp; rfl)); intro gb109 hg w11 hbox hb; have _ := am (below_step (beu HB.out) hb); have _ := am (hbox); have _ := am ((by rw [hg]; exact (below_size (beu HB.out)) : w.heap.size ≤ gb109)); have _ := am ((by rw [hg]; exact (below_size (beu HB.out)) : w.heap.size ≤ gb109)); clear HB; rename_i HB BK109 GW109 GE109; clear hb hbox hg; obtain ⟨_, _, _⟩ := cells3 BK109.out; obtain ⟨_, _, _⟩ := frozens3 BK109.out) | ((with_reducible refine gate_callee (f := 37) rfl ?_); refine goesL_ (some 5) rfl rfl Tryd.func37 (by kernel_rfl) rfl #[.string a0_0] rfl ap1 ?_; (with_reducible refine (label_Right.calls a0_0 true _ ?side1 A2.out).mono ?_); (case side1 => first | (with_reducible exact HT.out) | exact Tabs.below HT.out (beu HB.out)); rintro e w13 ⟨rfl, hb⟩; refine ⟨_, rfl, ?_⟩; have _ := am (blk_below (bu BK109.out) hb); have _ := am (below_step (beu HB.out) hb); clear BK109 HB; rename_i BK109 HB; (try clear hb); obtain ⟨hcz14_0, hcz14_1, hcz14_2⟩ := cells3 BK109.out; obtain ⟨hfz14_0, hfz14_1, hfz14_2⟩ := frozens3 BK109.out))
          go_ret
          exact ⟨ap4, beu HB.out⟩
      · rw [if_neg c5] at H
        have c5b0 : decide (a0_1 ≤ 1000) = false := decide_eq_false c5; clear c5; obtain rfl := Option.some.inj H; simp only [Option.some.injEq, Prod.mk.injEq] at H; obtain ⟨rfl⟩ := H
        go_enter Tryd.func24, Tryd.ntmps24
        go_wp2_with (first | ((with_reducible refine gate_dst (N := 1) rfl ?_); refine box_event ?hg (N := 1) ?hd (cs := #[.string a0_0, .int .i64 a0_1, .int .i64 a0_2]) (t := 37) ?hr ?_; (case hd => rfl); (case hg => rfl); (case hr => first | (go_simp; done) | (go_simp; rfl)); intro gb109 hg w15 hbox hb; have _ := am (below_step (beu HB.out) hb); have _ := am (hbox); have _ := am ((by rw [hg]; exact (below_size (beu HB.out)) : w.heap.size ≤ gb109)); have _ := am ((by rw [hg]; exact (below_size (beu HB.out)) : w.heap.size ≤ gb109)); clear HB; rename_i HB BK109 GW109 GE109; clear hb hbox hg; obtain ⟨_, _, _⟩ := cells3 BK109.out; obtain ⟨_, _, _⟩ := frozens3 BK109.out) | ((with_reducible refine gate_callee (f := 37) rfl ?_); refine goesL_ (some 5) rfl rfl Tryd.func37 (by kernel_rfl) rfl #[.string a0_0] rfl ap1 ?_; (with_reducible refine (label_Right.calls a0_0 true _ ?side1 A2.out).mono ?_); (case side1 => first | (with_reducible exact HT.out) | exact Tabs.below HT.out (beu HB.out)); rintro e w17 ⟨rfl, hb⟩; refine ⟨_, rfl, ?_⟩; have _ := am (blk_below (bu BK109.out) hb); have _ := am (below_step (beu HB.out) hb); clear BK109 HB; rename_i BK109 HB; (try clear hb); obtain ⟨_, _, _⟩ := cells3 BK109.out; obtain ⟨_, _, _⟩ := frozens3 BK109.out))
        go_ret
        exact ⟨ap4, beu HB.out⟩
    · rw [if_neg c4] at H
      have c4b0 : decide (1 ≤ a0_1) = false := decide_eq_false c4; clear c4; obtain rfl := Option.some.inj H; simp only [Option.some.injEq, Prod.mk.injEq] at H; obtain ⟨rfl⟩ := H
      go_enter Tryd.func24, Tryd.ntmps24
      go_wp2_with (first | ((with_reducible refine gate_dst (N := 1) rfl ?_); refine box_event ?hg (N := 1) ?hd (cs := #[.string a0_0, .int .i64 a0_1, .int .i64 a0_2]) (t := 37) ?hr ?_; (case hd => rfl); (case hg => rfl); (case hr => first | (go_simp; done) | (go_simp; rfl)); intro gb109 hg w19 hbox hb; have _ := am (below_step (beu HB.out) hb); have _ := am (hbox); have _ := am ((by rw [hg]; exact (below_size (beu HB.out)) : w.heap.size ≤ gb109)); have _ := am ((by rw [hg]; exact (below_size (beu HB.out)) : w.heap.size ≤ gb109)); clear HB; rename_i HB BK109 GW109 GE109; clear hb hbox hg; obtain ⟨hcz20_0, hcz20_1, hcz20_2⟩ := cells3 BK109.out; obtain ⟨hfz20_0, hfz20_1, hfz20_2⟩ := frozens3 BK109.out) | ((with_reducible refine gate_callee (f := 37) rfl ?_); refine goesL_ (some 5) rfl rfl Tryd.func37 (by kernel_rfl) rfl #[.string a0_0] rfl ap1 ?_; (with_reducible refine (label_Right.calls a0_0 true _ ?side1 A2.out).mono ?_); (case side1 => first | (with_reducible exact HT.out) | exact Tabs.below HT.out (beu HB.out)); rintro e w21 ⟨rfl, hb⟩; refine ⟨_, rfl, ?_⟩; have _ := am (blk_below (bu BK109.out) hb); have _ := am (below_step (beu HB.out) hb); clear BK109 HB; rename_i BK109 HB; (try clear hb); obtain ⟨_, _, _⟩ := cells3 BK109.out; obtain ⟨_, _, _⟩ := frozens3 BK109.out))
      go_ret
      exact ⟨ap4, beu HB.out⟩
  · replace c3 := Bool.eq_false_iff.mpr c3
    subst c3
    have H1 : (some false) = some r := by rw [if_neg (show ¬ (false = true) by decide)] at H; exact H
    clear H; have H := H1; clear H1; obtain rfl := Option.some.inj H; simp only [Option.some.injEq, Prod.mk.injEq] at H; obtain ⟨rfl⟩ := H
    go_enter Tryd.func24, Tryd.ntmps24
    go_wp2_with (first | ((with_reducible refine gate_dst (N := 1) rfl ?_); refine box_event ?hg (N := 1) ?hd (cs := #[.string a0_0, .int .i64 a0_1, .int .i64 a0_2]) (t := 37) ?hr ?_; (case hd => rfl); (case hg => rfl); (case hr => first | (go_simp; done) | (go_simp; rfl)); intro gb109 hg w23 hbox hb; have _ := am (below_step (beu HB.out) hb); have _ := am (hbox); have _ := am ((by rw [hg]; exact (below_size (beu HB.out)) : w.heap.size ≤ gb109)); have _ := am ((by rw [hg]; exact (below_size (beu HB.out)) : w.heap.size ≤ gb109)); clear HB; rename_i HB BK109 GW109 GE109; clear hb hbox hg; obtain ⟨_, _, _⟩ := cells3 BK109.out; obtain ⟨_, _, _⟩ := frozens3 BK109.out) | ((with_reducible refine gate_callee (f := 37) rfl ?_); refine goesL_ (some 5) rfl rfl Tryd.func37 (by kernel_rfl) rfl #[.string a0_0] rfl ap1 ?_; (with_reducible refine (label_Right.calls a0_0 false _ ?side1 A2.out).mono ?_); (case side1 => first | (with_reducible exact HT.out) | exact Tabs.below HT.out (beu HB.out)); rintro e w25 ⟨rfl, hb⟩; refine ⟨_, rfl, ?_⟩; have _ := am (blk_below (bu BK109.out) hb); have _ := am (below_step (beu HB.out) hb); clear BK109 HB; rename_i BK109 HB; (try clear hb)))
    go_ret
    exact ⟨ap4, beu HB.out⟩
def strings_Compare.f (a0 : ByteArray) (a1 : ByteArray) : Option (Int) := some (Lib.compareBytes a0.data.toList a1.data.toList)
theorem strings_Compare.calls (a0 : ByteArray) (a1 : ByteArray) (r : Int) (w : World) (h : strings_Compare.f a0 a1 = some r) :
    Calls Tryd.prog 43 #[.string a0, .string a1] w fun e w' => e = .returned (.int .i64 r) ∧ Drawn0 w w' := by
  obtain rfl := Option.some.inj h
  exact (Any.strings_Compare Tryd.laysCompare a0 a1 w).mono fun e w' ⟨he, hw⟩ => ⟨he, hw ▸ ⟨0, rfl⟩⟩
def label_Compare.f (a0 : ByteArray) (a1 : ByteArray) : Option (Int) := (strings_Compare.f a0 a1).bind fun t111 => (some t111)
set_option maxHeartbeats 8000000 in
set_option maxRecDepth 100000 in
theorem label_Compare.calls (a0 : ByteArray) (a1 : ByteArray) (r : Int) (w : World) (h : label_Compare.f a0 a1 = some r) :
    Calls Tryd.prog 38 #[.string a0, .string a1] w fun e w' => e = .returned (.int .i64 r) ∧ Drawn0 w w' := by
  have H : ((strings_Compare.f a0 a1).bind fun t111 => (some t111)) = some r := h; clear h; replace H := obm H; obtain ⟨t111, A30, H⟩ := H; replace H : (some t111) = some r := H; have A3 := am A30; clear A30; obtain rfl := Option.some.inj H; simp only [Option.some.injEq, Prod.mk.injEq] at H; obtain ⟨rfl⟩ := H
  go_enter Tryd.func38, Tryd.ntmps38
  go_wp2_with (first | ((with_reducible refine gate_callee (f := 43) rfl ?_); refine goesL_ (some 7) rfl rfl Tryd.func43 (by kernel_rfl) rfl #[.string a0, .string a1] rfl ap1 ?_; (with_reducible refine (strings_Compare.calls a0 a1 t111 _ A3.out).mono ?_); rintro e w' ⟨rfl, ⟨nd, rfl⟩⟩; refine ⟨_, rfl, ?_⟩))
  go_ret
  exact ⟨ap3, ap5⟩
def lines_bySku.f (a0_0 : ByteArray) (a0_1 : Int) (a0_2 : Int) (a1_0 : ByteArray) (a1_1 : Int) (a1_2 : Int) : Option (Int) := (label_Compare.f a0_0 a1_0).bind fun t114 => (some t114)
set_option maxHeartbeats 8000000 in
set_option maxRecDepth 100000 in
theorem lines_bySku.calls (a0_0 : ByteArray) (a0_1 : Int) (a0_2 : Int) (a1_0 : ByteArray) (a1_1 : Int) (a1_2 : Int) (r : Int) (w : World) (h : lines_bySku.f a0_0 a0_1 a0_2 a1_0 a1_1 a1_2 = some r) :
    Calls Tryd.prog 26 #[.agg #[.string a0_0, .int .i64 a0_1, .int .i64 a0_2], .agg #[.string a1_0, .int .i64 a1_1, .int .i64 a1_2]] w fun e w' => e = .returned (.int .i64 r) ∧ Below w.heap.size w w' := by
  have hu37 := Tryd.underlying37; have HB := am (Below.refl w.heap.size w); have H : ((label_Compare.f a0_0 a1_0).bind fun t114 => (some t114)) = some r := h; clear h; replace H := obm H; obtain ⟨t114, A30, H⟩ := H; replace H : (some t114) = some r := H; have A3 := am A30; clear A30; obtain rfl := Option.some.inj H; simp only [Option.some.injEq, Prod.mk.injEq] at H; obtain ⟨rfl⟩ := H
  go_enter Tryd.func26, Tryd.ntmps26
  go_wp2_with (first | ((with_reducible refine gate_dst (N := 2) rfl ?_); refine box_event ?hg (N := 2) ?hd (cs := #[.string a0_0, .int .i64 a0_1, .int .i64 a0_2]) (t := 37) ?hr ?_; (case hd => rfl); (case hg => rfl); (case hr => first | (go_simp; done) | (go_simp; rfl)); intro gb112 hg w4 hbox hb; have _ := am (below_step (beu HB.out) hb); have _ := am (hbox); have _ := am ((by rw [hg]; exact (below_size (beu HB.out)) : w.heap.size ≤ gb112)); have _ := am ((by rw [hg]; exact (below_size (beu HB.out)) : w.heap.size ≤ gb112)); clear HB; rename_i HB BK112 GW112 GE112; clear hb hbox hg) | ((with_reducible refine gate_dst (N := 3) rfl ?_); refine box_event ?hg (N := 3) ?hd (cs := #[.string a1_0, .int .i64 a1_1, .int .i64 a1_2]) (t := 37) ?hr ?_; (case hd => rfl); (case hg => rfl); (case hr => first | (go_simp; done) | (go_simp; rfl)); intro gb113 hg w5 hbox hb; have _ := am (blk_below (bu BK112.out) hb); have _ := am (below_step (beu HB.out) hb); have _ := am (hbox); have _ := am ((by rw [hg]; exact (below_size (beu HB.out)) : w.heap.size ≤ gb113)); have _ := am ((by rw [hg]; exact (below_size (beu HB.out)) : w.heap.size ≤ gb113)); have _ := am (nb1 hg BK112.out : gb112 ≠ gb113); have _ := am (nb2 hg BK112.out : gb113 ≠ gb112); clear BK112 HB; rename_i BK112 HB BK113 GW113 GE113 NB112_113 NB113_112; clear hb hbox hg; have := NB112_113.out; have := NB113_112.out; obtain ⟨_, _, _⟩ := cells3 BK112.out; obtain ⟨_, _, _⟩ := frozens3 BK112.out; obtain ⟨hcz8_0, hcz8_1, hcz8_2⟩ := cells3 BK113.out; obtain ⟨hfz8_0, hfz8_1, hfz8_2⟩ := frozens3 BK113.out) | ((with_reducible refine gate_callee (f := 38) rfl ?_); refine goesL_ (some 9) rfl rfl Tryd.func38 (by kernel_rfl) rfl #[.string a0_0, .string a1_0] rfl ap1 ?_; (with_reducible refine (label_Compare.calls a0_0 a1_0 t114 _ A3.out).mono ?_); rintro e w' ⟨rfl, ⟨nd, rfl⟩⟩; refine ⟨_, rfl, ?_⟩))
  go_ret
  exact ⟨ap4, beu HB.out⟩
def lines_Right.l0 : Nat → List (S37) → List (S37) → Int → Int → Option (Bool)
  | 0, _, _, _, _ => none
  | k + 1, x0, x5, x6, x7 => if x7 < x6 then (if 0 ≤ x7 then (if x7 < (x5.length : Int) then ((lines_one.f ((rd_T37 x5 x7).f0) ((rd_T37 x5 x7).f1) ((rd_T37 x5 x7).f2)).bind fun t117 => (if t117 = true then (if x7 > 0 then (if 0 ≤ (wrap64 (x7 - 1)) then (if (wrap64 (x7 - 1)) < (x0.length : Int) then ((lines_bySku.f ((rd_T37 x0 (wrap64 (x7 - 1))).f0) ((rd_T37 x0 (wrap64 (x7 - 1))).f1) ((rd_T37 x0 (wrap64 (x7 - 1))).f2) ((rd_T37 x5 x7).f0) ((rd_T37 x5 x7).f1) ((rd_T37 x5 x7).f2)).bind fun t119 => (if t119 ≥ 0 then (some false) else (lines_Right.l0 k x0 x5 x6 (wrap64 (x7 + 1))))) else (none)) else (none)) else (lines_Right.l0 k x0 x5 x6 (wrap64 (x7 + 1)))) else (some false))) else (none)) else (none)) else (if (x0.length : Int) ≥ 1 then (some (decide ((x0.length : Int) ≤ 8))) else (some false))
def lines_Right.f (k : Nat) (l0 : List (S37)) : Option (Bool) := lines_Right.l0 k l0 l0 (l0.length : Int) 0
theorem lines_Right.mono_l : ∀ k, (∀ y0 y1 y2 y3, LeO (lines_Right.l0 k y0 y1 y2 y3) (lines_Right.l0 (k + 1) y0 y1 y2 y3))
  | 0 => fun _ _ _ _ r h => by simp [lines_Right.l0] at h
  | k + 1 => by
    have ih0 := lines_Right.mono_l k
    · intro y0 y1 y2 y3
      unfold lines_Right.l0
      repeat' first
      | (with_reducible exact ih0 _ _ _ _)
      | (with_reducible exact LeO.refl _)
      | (with_reducible exact LeO.none _)
      | (with_reducible refine LeO.ite ?_ ?_)
      | (with_reducible refine LeO.bind ?_ (fun _ => ?_))
      | exact ih0 _ _ _ _
      | exact LeO.none _
      | refine LeO.ite ?_ ?_
      | refine LeO.bind ?_ (fun _ => ?_)
theorem lines_Right.mono : ∀ a0 k, LeO (lines_Right.f k a0) (lines_Right.f (k + 1) a0) := by
  intro a0 k; have ih0 := lines_Right.mono_l k
  unfold lines_Right.f
  repeat' first
      | (with_reducible exact ih0 _ _ _ _)
      | (with_reducible exact LeO.refl _)
      | (with_reducible exact LeO.none _)
      | (with_reducible refine LeO.ite ?_ ?_)
      | (with_reducible refine LeO.bind ?_ (fun _ => ?_))
      | exact ih0 _ _ _ _
      | exact LeO.none _
      | refine LeO.ite ?_ ?_
      | refine LeO.bind ?_ (fun _ => ?_)
def lines_Right.T4 : Bool × List (List Nat × List Nat) := (true, [([], []), ([0], [0]), ([1], [1]), ([2, 1], [2]), ([3], [3]), ([4, 3], [3, 4]), ([5, 3, 3], [3, 5]), ([6], [6]), ([6], [6]), ([8, 6], [6, 8]), ([7, 9, 6], [6, 7, 9]), ([10, 6], [6, 10]), ([6], [6]), ([11, 12, 6, 6], [6, 11, 12]), ([13, 6], [6, 13]), ([6, 14, 3], [3, 6, 14]), ([3, 15], [3, 15])])
def lines_Right.B4 : List Nat := [0, 1, 3, 7, 15, 31, 63, 127, 127, 383, 1023, 2047, 127, 8191, 16383, 32767, 65535]
theorem lines_Right.tab4 : rtab .any (opsOf Tryd.f14 4) = lines_Right.T4 := by kernel_rfl
theorem lines_Right.bits4 : waitsOk lines_Right.T4.2 lines_Right.B4 = true := by kernel_rfl
set_option maxHeartbeats 8000000 in
set_option maxRecDepth 100000 in
theorem lines_Right.calls (k : Nat) (A0 : Option Addr) (c0 : Nat) (l0 : List (S37)) (r : Bool) (w : World) (hr0 : Kd.C k37 w A0 l0.length l0) (hc0 : l0.length ≤ c0) (hT : Tabs w) (h : lines_Right.f k l0 = some r) :
    Calls Tryd.prog 14 #[.slice A0 l0.length c0] w fun e w' => e = .returned (.bool r) ∧ Below w.heap.size w w' := by
  have hu37 := Tryd.underlying37; have HR0 := am hr0; have HC0 := am hc0; clear hr0 hc0; have HT := am hT; clear hT; have HB := am (Below.refl w.heap.size w); have H : (lines_Right.l0 k l0 l0 (l0.length : Int) 0) = some r := h; clear h; have H' := am H; clear H
  go_enter Tryd.func14, Tryd.ntmps14
  go_wp2
  go_loopg [7] k (fun kq v7 w' => ∃ (x7_1 : Int), v7 = .int .i64 x7_1 ∧ Aside0 (lines_Right.l0 kq l0 l0 (l0.length : Int) x7_1 = some r) ∧ Aside0 (kq ≤ k) ∧ Aside0 (Below w.heap.size w w'))
  case atStart => exact ⟨(0), ap3, H', ⟨Nat.le_refl _⟩, ⟨beu HB.out⟩⟩
  case round =>
    clear H'; (try clear c1); obtain ⟨x7_1, rfl, HA, HK1, HB⟩ := hrel
    cases gk with
    | zero => exact absurd HA.out (by simp [lines_Right.l0])
    | succ k1 =>
      have H := HA.out; clear HA; simp only [lines_Right.l0] at H
      by_cases c2 : x7_1 < (l0.length : Int)
      · rw [if_pos c2] at H
        have c2b0 : decide (x7_1 < (l0.length : Int)) = true := decide_eq_true c2; clear c2
        by_cases c3 : 0 ≤ x7_1
        · rw [if_pos c3] at H
          have c3b0 : decide (0 ≤ x7_1) = true := decide_eq_true c3; clear c3
          by_cases c4 : x7_1 < (l0.length : Int)
          · rw [if_pos c4] at H
            have c4b0 : decide (x7_1 < (l0.length : Int)) = true := decide_eq_true c4; clear c4; replace H := obm H; obtain ⟨t117, A50, H⟩ := H; replace H : (if t117 = true then (if x7_1 > 0 then (if 0 ≤ (wrap64 (x7_1 - 1)) then (if (wrap64 (x7_1 - 1)) < (l0.length : Int) then ((lines_bySku.f ((rd_T37 l0 (wrap64 (x7_1 - 1))).f0) ((rd_T37 l0 (wrap64 (x7_1 - 1))).f1) ((rd_T37 l0 (wrap64 (x7_1 - 1))).f2) ((rd_T37 l0 x7_1).f0) ((rd_T37 l0 x7_1).f1) ((rd_T37 l0 x7_1).f2)).bind fun t119 => (if t119 ≥ 0 then (some false) else (lines_Right.l0 k1 l0 l0 (l0.length : Int) (wrap64 (x7_1 + 1))))) else (none)) else (none)) else (lines_Right.l0 k1 l0 l0 (l0.length : Int) (wrap64 (x7_1 + 1)))) else (some false)) = some r := H; have A5 := am A50; clear A50
            by_cases c6 : t117 = true
            · subst c6
              have H1 : (if x7_1 > 0 then (if 0 ≤ (wrap64 (x7_1 - 1)) then (if (wrap64 (x7_1 - 1)) < (l0.length : Int) then ((lines_bySku.f ((rd_T37 l0 (wrap64 (x7_1 - 1))).f0) ((rd_T37 l0 (wrap64 (x7_1 - 1))).f1) ((rd_T37 l0 (wrap64 (x7_1 - 1))).f2) ((rd_T37 l0 x7_1).f0) ((rd_T37 l0 x7_1).f1) ((rd_T37 l0 x7_1).f2)).bind fun t119 => (if t119 ≥ 0 then (some false) else (lines_Right.l0 k1 l0 l0 (l0.length : Int) (wrap64 (x7_1 + 1))))) else (none)) else (none)) else (lines_Right.l0 k1 l0 l0 (l0.length : Int) (wrap64 (x7_1 + 1)))) = some r := by rw [if_pos rfl] at H; exact H
              clear H; have H := H1; clear H1
              by_cases c7 : x7_1 > 0
              · rw [if_pos c7] at H
                have c7b0 : decide (0 < x7_1) = true := decide_eq_true c7; clear c7; obtain ⟨ji8, hji8⟩ : ∃ j_ : Int, (wrap64 (x7_1 - 1)) = j_ := ⟨_, rfl⟩
                replace H : (if 0 ≤ (ji8) then (if (ji8) < (l0.length : Int) then ((lines_bySku.f ((rd_T37 l0 (ji8)).f0) ((rd_T37 l0 (ji8)).f1) ((rd_T37 l0 (ji8)).f2) ((rd_T37 l0 x7_1).f0) ((rd_T37 l0 x7_1).f1) ((rd_T37 l0 x7_1).f2)).bind fun t119 => (if t119 ≥ 0 then (some false) else (lines_Right.l0 k1 l0 l0 (l0.length : Int) (wrap64 (x7_1 + 1))))) else (none)) else (none)) = some r := by first | (rw [hji8] at H; exact H) | (simp only [hji8] at H ⊢; exact H)
                (try rw [hji8] at A5)
                have hji8w : (IntKind.i64.wrap (x7_1 - 1)) = ji8 := (i64_w _).trans hji8
                by_cases c9 : 0 ≤ (ji8)
                · rw [if_pos c9] at H
                  have c9b0 : decide (0 ≤ (ji8)) = true := decide_eq_true c9; clear c9
                  by_cases c10 : (ji8) < (l0.length : Int)
                  · rw [if_pos c10] at H
                    have c10b0 : decide ((ji8) < (l0.length : Int)) = true := decide_eq_true c10; clear c10; replace H := obm H; obtain ⟨t119, A110, H⟩ := H; replace H : (if t119 ≥ 0 then (some false) else (lines_Right.l0 k1 l0 l0 (l0.length : Int) (wrap64 (x7_1 + 1)))) = some r := H; have A11 := am A110; clear A110
                    by_cases c12 : t119 ≥ 0
                    · rw [if_pos c12] at H
                      have c12b0 : decide (0 ≤ t119) = true := decide_eq_true c12; clear c12; obtain rfl := Option.some.inj H; simp only [Option.some.injEq, Prod.mk.injEq] at H; obtain ⟨rfl⟩ := H; have p115 : 0 ≤ (x7_1 : Int) := of_decide_eq_true ap2; have q115 : x7_1 < (l0.length : Int) := of_decide_eq_true ap2; obtain ⟨ad115, e115, hx115_0, hx115_1, hx115_2⟩ := at_T37 HR0.out x7_1 p115 q115
                      cases e115
                      replace hx115_0 := (HB.out.cell (World.block_lt_of_cell? w _ hx115_0)).trans hx115_0; replace hx115_1 := (HB.out.cell (World.block_lt_of_cell? w _ hx115_1)).trans hx115_1; replace hx115_2 := (HB.out.cell (World.block_lt_of_cell? w _ hx115_2)).trans hx115_2; replace p115 := eq_true p115; replace q115 := eq_true q115
                      try go_wp2_with (first | ((with_reducible refine gate_dst (N := 4) rfl ?_); (try (refine gate_guard (by rfl) ?_; dsimp only)); refine box_event ?hg (N := 4) ?hd (cs := #[.string ⟨#[]⟩, .int .i64 0, .int .i64 0]) (t := 37) ?hr ?_; (case hd => rfl); (case hg => rfl); (case hr => first | (go_simp; done) | (go_simp; rfl)); intro gb116 hg w13 hbox hb; have _ := am (below_step (beu HB.out) hb); have _ := am (hbox); have _ := am ((by rw [hg]; exact (below_size (beu HB.out)) : w.heap.size ≤ gb116)); have _ := am ((by rw [hg]; exact (below_size (beu HB.out)) : w.heap.size ≤ gb116)); clear HB; rename_i HB BK116 GW116 GE116; clear hb hbox hg; obtain ⟨hcz14_0, hcz14_1, hcz14_2⟩ := cells3 BK116.out; obtain ⟨hfz14_0, hfz14_1, hfz14_2⟩ := frozens3 BK116.out))
                      have n0_ : Aside0 ((((w13.setCell ⟨gb116, 0, none⟩ (.string ((rd_T37 l0 x7_1).f0))).setCell ⟨gb116, 1, none⟩ (.int .i64 ((rd_T37 l0 x7_1).f1))).setCell ⟨gb116, 2, none⟩ (.int .i64 ((rd_T37 l0 x7_1).f2))).heap[gb116]? = some (.cells #[.string ((rd_T37 l0 x7_1).f0), .int .i64 ((rd_T37 l0 x7_1).f1), .int .i64 ((rd_T37 l0 x7_1).f2)] 37 (0, 0))) := ⟨by refine bu ?_; refine blk_put (cs := #[.string ((rd_T37 l0 x7_1).f0), .int .i64 ((rd_T37 l0 x7_1).f1), .int .i64 0]) ?_ 2 _ rfl; refine bu ?_; refine blk_put (cs := #[.string ((rd_T37 l0 x7_1).f0), .int .i64 0, .int .i64 0]) ?_ 1 _ rfl; refine bu ?_; refine blk_put (cs := #[.string ⟨#[]⟩, .int .i64 0, .int .i64 0]) ?_ 0 _ rfl; refine bu ?_; exact BK116.out⟩; have n1_ : Aside0 (Below w.heap.size w (((w13.setCell ⟨gb116, 0, none⟩ (.string ((rd_T37 l0 x7_1).f0))).setCell ⟨gb116, 1, none⟩ (.int .i64 ((rd_T37 l0 x7_1).f1))).setCell ⟨gb116, 2, none⟩ (.int .i64 ((rd_T37 l0 x7_1).f2)))) := ⟨beu HB.out⟩
                      (try clear BK116)
                      (try clear HB)
                      generalize (((w13.setCell ⟨gb116, 0, none⟩ (.string ((rd_T37 l0 x7_1).f0))).setCell ⟨gb116, 1, none⟩ (.int .i64 ((rd_T37 l0 x7_1).f1))).setCell ⟨gb116, 2, none⟩ (.int .i64 ((rd_T37 l0 x7_1).f2))) = w15 at n0_ n1_ ⊢; have BK116 := n0_; have HB := n1_; clear n0_ n1_
                      (try (rw [drewN_self w15]; generalize hq_ : World.drewN w15 _ = w15; have _ := am (blk_at hq_ BK116.out); have _ := am (below_at hq_ HB.out); clear hq_ BK116 HB; rename_i BK116 HB))
                      have n0_ := am (blk_drew BK116.out); have n1_ := am (below_drew1 HB.out); clear BK116 HB; have BK116 := n0_; have HB := n1_; clear n0_ n1_; have p118 : 0 ≤ ((ji8) : Int) := of_decide_eq_true ap2; have q118 : (ji8) < (l0.length : Int) := of_decide_eq_true ap2; obtain ⟨ad118, e118, hx118_0, hx118_1, hx118_2⟩ := at_T37 HR0.out (ji8) p118 q118; have hw118_2 := hx118_2; have hw118_1 := hx118_1; have hw118_0 := hx118_0; obtain rfl : ad115 = ad118 := (by injection e118); replace hx118_0 := (HB.out.cell (World.block_lt_of_cell? w _ hx118_0)).trans hx118_0; replace hx118_1 := (HB.out.cell (World.block_lt_of_cell? w _ hx118_1)).trans hx118_1; replace hx118_2 := (HB.out.cell (World.block_lt_of_cell? w _ hx118_2)).trans hx118_2; replace p118 := eq_true p118; replace q118 := eq_true q118
                      refine start_ (n := 17) (S := fun w' => w'.cell? ⟨gb116, 0, none⟩ = some (.string ((rd_T37 l0 x7_1).f0)) ∧ w'.cell? ⟨gb116, 1, none⟩ = some (.int .i64 ((rd_T37 l0 x7_1).f1)) ∧ w'.cell? ⟨gb116, 2, none⟩ = some (.int .i64 ((rd_T37 l0 x7_1).f2)) ∧ w'.cell? (ad115.add (((ji8)).toNat * 3)) = some (.string ((rd_T37 l0 (ji8)).f0)) ∧ w'.cell? ⟨(ad115.add (((ji8)).toNat * 3)).block, (ad115.add (((ji8)).toNat * 3)).off + 1, none⟩ = some (.int .i64 ((rd_T37 l0 (ji8)).f1)) ∧ w'.cell? ⟨(ad115.add (((ji8)).toNat * 3)).block, (ad115.add (((ji8)).toNat * 3)).off + 2, none⟩ = some (.int .i64 ((rd_T37 l0 (ji8)).f2))) (ds := []) #[false, false, false, false, false, false, false, false, false, false, false, false, false, false, false, false, false] (by kernel_rfl) rfl rfl ⟨(blk_cell BK116.out 0).trans rfl, (blk_cell BK116.out 1).trans rfl, (blk_cell BK116.out 2).trans rfl, ((HB.out.cell (World.block_lt_of_cell? w _ hw118_0)).trans hw118_0), ((HB.out.cell (World.block_lt_of_cell? w _ hw118_1)).trans hw118_1), ((HB.out.cell (World.block_lt_of_cell? w _ hw118_2)).trans hw118_2)⟩ (fun hHeld => ?_); refine with_tabW lines_Right.tab4 lines_Right.bits4 (fun HT_ HW_ => ?_)
                      generalize w15.drew = w16 at BK116 HB hx118_0 hx118_1 hx118_2 hHeld ⊢; refine take_ (i := 0) (N := some 12) (v := ?_) (a' := ?_) (bs 17 1) rfl rfl (take_ofW HT_.out HW_.out (by kernel_rfl)) (fun _ _ _ h => h) (Or.inl ⟨by rfl, ?_⟩) hHeld ?_ ?_; rotate_left
                      · rintro w' ⟨s0, s1, s2, s3, s4, s5⟩
                        go_simp
                        with_reducible rfl
                      rotate_left
                      · simp only [Act.put, sA, sB, sC, i64_w, i32_w]
                        rfl
                      refine one_ (i := 1) (N := some 13) (bs 17 3) rfl rfl (one_of HT_.out (by kernel_rfl)) (by decide) (fun K hK => ?_); refine goes_ Tryd.func24 (by kernel_rfl) rfl #[.agg #[.string ((rd_T37 l0 x7_1).f0), .int .i64 ((rd_T37 l0 x7_1).f1), .int .i64 ((rd_T37 l0 x7_1).f2)]] (by rfl) rfl rfl ap1 ?_; with_reducible refine (lines_one.calls ((rd_T37 l0 x7_1).f0) ((rd_T37 l0 x7_1).f1) ((rd_T37 l0 x7_1).f2) true _ ?side1 A5.out).mono ?_
                      (case side1 => first | (with_reducible exact HT.out) | exact Tabs.below HT.out (beu HB.out))
                      rintro e w17 ⟨rfl, hb⟩; refine ⟨_, rfl, ?_⟩; have n0_ := am (blk_below (bu BK116.out) hb); have n1_ := am (below_step (beu HB.out) hb); clear BK116 HB; have BK116 := n0_; have HB := n1_; clear n0_ n1_
                      (try clear hb)
                      (try clear hb2)
                      (try clear hk)
                      (try clear hi)
                      refine hK.out _ _ ⟨(blk_cell BK116.out 0).trans rfl, (blk_cell BK116.out 1).trans rfl, (blk_cell BK116.out 2).trans rfl, ((HB.out.cell (World.block_lt_of_cell? w _ hw118_0)).trans hw118_0), ((HB.out.cell (World.block_lt_of_cell? w _ hw118_1)).trans hw118_1), ((HB.out.cell (World.block_lt_of_cell? w _ hw118_2)).trans hw118_2)⟩ (fun hHeld => ?_); clear hK K; refine norm_ (a' := ?_) ?_ ?_; rotate_left
                      · show Act.put _ (some 13) _ = _
                        simp only [Act.put, sA, sB, sC, i64_w, i32_w]
                        rfl
                      refine pure_ (i := 2) (N := some 14) (v := ?_) (a' := ?_) (bs 17 7) rfl rfl (ak HT_.out) (fun _ _ _ h => h) (Or.inl ⟨by rfl, ?_⟩) ?_ ?_; rotate_left
                      · intro w'
                        go_simp
                        with_reducible rfl
                      rotate_left
                      · simp only [Act.put, sA, sB, sC, i64_w, i32_w]
                        rfl
                      refine pure_ (i := 3) (N := some 15) (v := ?_) (a' := ?_) (bs 17 15) rfl rfl (ak HT_.out) (fun _ _ _ h => h) (Or.inl ⟨by rfl, ?_⟩) ?_ ?_; rotate_left
                      · intro w'
                        go_simp
                        with_reducible rfl
                      rotate_left
                      · simp only [Act.put, sA, sB, sC, i64_w, i32_w]
                        rfl
                      refine pure_ (i := 4) (N := some 16) (v := ?_) (a' := ?_) (bs 17 31) rfl rfl (ak HT_.out) (fun _ _ _ h => h) (Or.inl ⟨by rfl, ?_⟩) ?_ ?_; rotate_left
                      · intro w'
                        go_simp
                        with_reducible rfl
                      rotate_left
                      · simp only [Act.put, sA, sB, sC, i64_w, i32_w]
                        rfl
                      refine pure_ (i := 5) (N := some 17) (v := ?_) (a' := ?_) (bs 17 63) rfl rfl (ak HT_.out) (fun _ _ _ h => h) (Or.inl ⟨by rfl, ?_⟩) ?_ ?_; rotate_left
                      · intro w'
                        go_simp
                        with_reducible rfl
                      rotate_left
                      · simp only [Act.put, sA, sB, sC, i64_w, i32_w]
                        rfl
                      refine pure_ (i := 6) (N := some 18) (v := ?_) (a' := ?_) (bs 17 127) rfl rfl (ak HT_.out) (fun _ _ _ h => h) (Or.inl ⟨by rfl, ?_⟩) ?_ ?_; rotate_left
                      · intro w'
                        go_simp
                        with_reducible rfl
                      rotate_left
                      · simp only [Act.put, sA, sB, sC, i64_w, i32_w]
                        rfl
                      refine pure_ (i := 7) (N := some 19) (v := ?_) (a' := ?_) (bs 17 255) rfl rfl (ak HT_.out) (fun _ _ _ h => h) (Or.inl ⟨by rfl, ?_⟩) ?_ ?_; rotate_left
                      · intro w'
                        go_simp
                        with_reducible rfl
                      rotate_left
                      · simp only [Act.put, sA, sB, sC, i64_w, i32_w]
                        rfl
                      refine pure_ (i := 8) (N := some 20) (v := ?_) (a' := ?_) (bs 17 511) rfl rfl (ak HT_.out) (fun _ _ _ h => h) (Or.inl ⟨by rfl, ?_⟩) ?_ ?_; rotate_left
                      · intro w'
                        go_simp
                        with_reducible rfl
                      rotate_left
                      · simp only [Act.put, sA, sB, sC, i64_w, i32_w]
                        rfl
                      refine pure_ (i := 9) (N := some 21) (v := ?_) (a' := ?_) (bs 17 1023) rfl rfl (ak HT_.out) (fun _ _ _ h => h) (Or.inl ⟨by rfl, ?_⟩) ?_ ?_; rotate_left
                      · intro w'
                        go_simp
                        with_reducible rfl
                      rotate_left
                      · simp only [Act.put, sA, sB, sC, i64_w, i32_w]
                        rfl
                      refine pure_ (i := 10) (N := some 22) (v := ?_) (a' := ?_) (bs 17 2047) rfl rfl (ak HT_.out) (fun _ _ _ h => h) (Or.inl ⟨by rfl, ?_⟩) ?_ ?_; rotate_left
                      · intro w'
                        go_simp
                        with_reducible rfl
                      rotate_left
                      · simp only [Act.put, sA, sB, sC, i64_w, i32_w]
                        rfl
                      refine take_ (i := 11) (N := some 23) (v := ?_) (a' := ?_) (bs 17 4095) rfl rfl (take_ofW HT_.out HW_.out (by kernel_rfl)) (fun _ _ _ h => h) (Or.inl ⟨by rfl, ?_⟩) hHeld ?_ ?_; rotate_left
                      · rintro w' ⟨s0, s1, s2, s3, s4, s5⟩
                        go_simp
                        with_reducible rfl
                      rotate_left
                      · simp only [Act.put, sA, sB, sC, i64_w, i32_w]
                        rfl
                      refine take_ (i := 12) (N := some 24) (v := ?_) (a' := ?_) (bs 17 8191) rfl rfl (take_ofW HT_.out HW_.out (by kernel_rfl)) (fun _ _ _ h => h) (Or.inl ⟨by rfl, ?_⟩) hHeld ?_ ?_; rotate_left
                      · rintro w' ⟨s0, s1, s2, s3, s4, s5⟩
                        go_simp
                        with_reducible rfl
                      rotate_left
                      · simp only [Act.put, sA, sB, sC, i64_w, i32_w]
                        rfl
                      refine one_ (i := 13) (N := some 25) (bs 17 16383) rfl rfl (one_of HT_.out (by kernel_rfl)) (by decide) (fun K hK => ?_); refine goes_ Tryd.func26 (by kernel_rfl) rfl #[.agg #[.string ((rd_T37 l0 (ji8)).f0), .int .i64 ((rd_T37 l0 (ji8)).f1), .int .i64 ((rd_T37 l0 (ji8)).f2)], .agg #[.string ((rd_T37 l0 x7_1).f0), .int .i64 ((rd_T37 l0 x7_1).f1), .int .i64 ((rd_T37 l0 x7_1).f2)]] (by rfl) rfl rfl (by (try simp only [List.map_toArray, List.map_cons, List.map_nil]); first | done | (simp only [hji8]; rfl) | rfl | (simp only [List.length_drop, List.length_take]; rfl)) ?_; with_reducible refine (lines_bySku.calls ((rd_T37 l0 (ji8)).f0) ((rd_T37 l0 (ji8)).f1) ((rd_T37 l0 (ji8)).f2) ((rd_T37 l0 x7_1).f0) ((rd_T37 l0 x7_1).f1) ((rd_T37 l0 x7_1).f2) t119 _ A11.out).mono ?_; rintro e w18 ⟨rfl, hb⟩; refine ⟨_, rfl, ?_⟩; have n0_ := am (blk_below (bu BK116.out) hb); have n1_ := am (below_step (beu HB.out) hb); clear BK116 HB; have BK116 := n0_; have HB := n1_; clear n0_ n1_
                      (try clear hb)
                      (try clear hb2)
                      (try clear hk)
                      (try clear hi)
                      refine hK.out _ _ ⟨(blk_cell BK116.out 0).trans rfl, (blk_cell BK116.out 1).trans rfl, (blk_cell BK116.out 2).trans rfl, ((HB.out.cell (World.block_lt_of_cell? w _ hw118_0)).trans hw118_0), ((HB.out.cell (World.block_lt_of_cell? w _ hw118_1)).trans hw118_1), ((HB.out.cell (World.block_lt_of_cell? w _ hw118_2)).trans hw118_2)⟩ (fun hHeld => ?_); clear hK K; refine norm_ (a' := ?_) ?_ ?_; rotate_left
                      · show Act.put _ (some 25) _ = _
                        simp only [Act.put, sA, sB, sC, i64_w, i32_w]
                        rfl
                      refine pure_ (i := 14) (N := some 26) (v := ?_) (a' := ?_) (bs 17 32767) rfl rfl (ak HT_.out) (fun _ _ _ h => h) (Or.inl ⟨by rfl, ?_⟩) ?_ ?_; rotate_left
                      · intro w'
                        go_simp
                        with_reducible rfl
                      rotate_left
                      · simp only [Act.put, sA, sB, sC, i64_w, i32_w]
                        rfl
                      refine pure_ (i := 15) (N := some 27) (v := ?_) (a' := ?_) (bs 17 65535) rfl rfl (ak HT_.out) (fun _ _ _ h => h) (Or.inl ⟨by rfl, ?_⟩) ?_ ?_; rotate_left
                      · intro w'
                        go_simp
                        with_reducible rfl
                      rotate_left
                      · simp only [Act.put, sA, sB, sC, i64_w, i32_w]
                        rfl
                      refine pure_ (i := 16) (N := some 28) (v := ?_) (a' := ?_) (bs 17 131071) rfl rfl (ak HT_.out) (fun _ _ _ h => h) (Or.inl ⟨by rfl, ?_⟩) ?_ ?_; rotate_left
                      · intro w'
                        go_simp
                        with_reducible rfl
                      rotate_left
                      · simp only [Act.put, sA, sB, sC, i64_w, i32_w]
                        rfl
                      refine done_ (done_of HT_.out (by kernel_rfl)) ?_
                      try go_wp2
                      go_ret
                      exact ⟨by first | rfl | (simp [errW_none, errW_some] <;> rfl) | (simp only [← hji8]; first | rfl | (simp [errW_none, errW_some] <;> rfl)) | (simp [*, errW_none, errW_some] <;> rfl), beu HB.out⟩
                    · rw [if_neg c12] at H
                      have c12b0 : decide (0 ≤ t119) = false := decide_eq_false c12; clear c12; have H' := am H; clear H; have p115 : 0 ≤ (x7_1 : Int) := of_decide_eq_true ap2; have q115 : x7_1 < (l0.length : Int) := of_decide_eq_true ap2; obtain ⟨ad115, e115, hx115_0, hx115_1, hx115_2⟩ := at_T37 HR0.out x7_1 p115 q115
                      cases e115
                      replace hx115_0 := (HB.out.cell (World.block_lt_of_cell? w _ hx115_0)).trans hx115_0; replace hx115_1 := (HB.out.cell (World.block_lt_of_cell? w _ hx115_1)).trans hx115_1; replace hx115_2 := (HB.out.cell (World.block_lt_of_cell? w _ hx115_2)).trans hx115_2; replace p115 := eq_true p115; replace q115 := eq_true q115
                      try go_wp2_with (first | ((with_reducible refine gate_dst (N := 4) rfl ?_); (try (refine gate_guard (by rfl) ?_; dsimp only)); refine box_event ?hg (N := 4) ?hd (cs := #[.string ⟨#[]⟩, .int .i64 0, .int .i64 0]) (t := 37) ?hr ?_; (case hd => rfl); (case hg => rfl); (case hr => first | (go_simp; done) | (go_simp; rfl)); intro gb116 hg w19 hbox hb; have _ := am (below_step (beu HB.out) hb); have _ := am (hbox); have _ := am ((by rw [hg]; exact (below_size (beu HB.out)) : w.heap.size ≤ gb116)); have _ := am ((by rw [hg]; exact (below_size (beu HB.out)) : w.heap.size ≤ gb116)); clear HB; rename_i HB BK116 GW116 GE116; clear hb hbox hg; obtain ⟨hcz20_0, hcz20_1, hcz20_2⟩ := cells3 BK116.out; obtain ⟨hfz20_0, hfz20_1, hfz20_2⟩ := frozens3 BK116.out))
                      have n0_ : Aside0 ((((w19.setCell ⟨gb116, 0, none⟩ (.string ((rd_T37 l0 x7_1).f0))).setCell ⟨gb116, 1, none⟩ (.int .i64 ((rd_T37 l0 x7_1).f1))).setCell ⟨gb116, 2, none⟩ (.int .i64 ((rd_T37 l0 x7_1).f2))).heap[gb116]? = some (.cells #[.string ((rd_T37 l0 x7_1).f0), .int .i64 ((rd_T37 l0 x7_1).f1), .int .i64 ((rd_T37 l0 x7_1).f2)] 37 (0, 0))) := ⟨by refine bu ?_; refine blk_put (cs := #[.string ((rd_T37 l0 x7_1).f0), .int .i64 ((rd_T37 l0 x7_1).f1), .int .i64 0]) ?_ 2 _ rfl; refine bu ?_; refine blk_put (cs := #[.string ((rd_T37 l0 x7_1).f0), .int .i64 0, .int .i64 0]) ?_ 1 _ rfl; refine bu ?_; refine blk_put (cs := #[.string ⟨#[]⟩, .int .i64 0, .int .i64 0]) ?_ 0 _ rfl; refine bu ?_; exact BK116.out⟩; have n1_ : Aside0 (Below w.heap.size w (((w19.setCell ⟨gb116, 0, none⟩ (.string ((rd_T37 l0 x7_1).f0))).setCell ⟨gb116, 1, none⟩ (.int .i64 ((rd_T37 l0 x7_1).f1))).setCell ⟨gb116, 2, none⟩ (.int .i64 ((rd_T37 l0 x7_1).f2)))) := ⟨beu HB.out⟩
                      (try clear BK116)
                      (try clear HB)
                      generalize (((w19.setCell ⟨gb116, 0, none⟩ (.string ((rd_T37 l0 x7_1).f0))).setCell ⟨gb116, 1, none⟩ (.int .i64 ((rd_T37 l0 x7_1).f1))).setCell ⟨gb116, 2, none⟩ (.int .i64 ((rd_T37 l0 x7_1).f2))) = w21 at n0_ n1_ ⊢; have BK116 := n0_; have HB := n1_; clear n0_ n1_
                      (try (rw [drewN_self w21]; generalize hq_ : World.drewN w21 _ = w21; have _ := am (blk_at hq_ BK116.out); have _ := am (below_at hq_ HB.out); clear hq_ BK116 HB; rename_i BK116 HB))
                      have n0_ := am (blk_drew BK116.out); have n1_ := am (below_drew1 HB.out); clear BK116 HB; have BK116 := n0_; have HB := n1_; clear n0_ n1_; have p118 : 0 ≤ ((ji8) : Int) := of_decide_eq_true ap2; have q118 : (ji8) < (l0.length : Int) := of_decide_eq_true ap2; obtain ⟨ad118, e118, hx118_0, hx118_1, hx118_2⟩ := at_T37 HR0.out (ji8) p118 q118; have hw118_2 := hx118_2; have hw118_1 := hx118_1; have hw118_0 := hx118_0; obtain rfl : ad115 = ad118 := (by injection e118); replace hx118_0 := (HB.out.cell (World.block_lt_of_cell? w _ hx118_0)).trans hx118_0; replace hx118_1 := (HB.out.cell (World.block_lt_of_cell? w _ hx118_1)).trans hx118_1; replace hx118_2 := (HB.out.cell (World.block_lt_of_cell? w _ hx118_2)).trans hx118_2; replace p118 := eq_true p118; replace q118 := eq_true q118
                      refine start_ (n := 17) (S := fun w' => w'.cell? ⟨gb116, 0, none⟩ = some (.string ((rd_T37 l0 x7_1).f0)) ∧ w'.cell? ⟨gb116, 1, none⟩ = some (.int .i64 ((rd_T37 l0 x7_1).f1)) ∧ w'.cell? ⟨gb116, 2, none⟩ = some (.int .i64 ((rd_T37 l0 x7_1).f2)) ∧ w'.cell? (ad115.add (((ji8)).toNat * 3)) = some (.string ((rd_T37 l0 (ji8)).f0)) ∧ w'.cell? ⟨(ad115.add (((ji8)).toNat * 3)).block, (ad115.add (((ji8)).toNat * 3)).off + 1, none⟩ = some (.int .i64 ((rd_T37 l0 (ji8)).f1)) ∧ w'.cell? ⟨(ad115.add (((ji8)).toNat * 3)).block, (ad115.add (((ji8)).toNat * 3)).off + 2, none⟩ = some (.int .i64 ((rd_T37 l0 (ji8)).f2))) (ds := []) #[false, false, false, false, false, false, false, false, false, false, false, false, false, false, false, false, false] (by kernel_rfl) rfl rfl ⟨(blk_cell BK116.out 0).trans rfl, (blk_cell BK116.out 1).trans rfl, (blk_cell BK116.out 2).trans rfl, ((HB.out.cell (World.block_lt_of_cell? w _ hw118_0)).trans hw118_0), ((HB.out.cell (World.block_lt_of_cell? w _ hw118_1)).trans hw118_1), ((HB.out.cell (World.block_lt_of_cell? w _ hw118_2)).trans hw118_2)⟩ (fun hHeld => ?_); refine with_tabW lines_Right.tab4 lines_Right.bits4 (fun HT_ HW_ => ?_)
                      generalize w21.drew = w22 at BK116 HB hx118_0 hx118_1 hx118_2 hHeld ⊢; refine take_ (i := 0) (N := some 12) (v := ?_) (a' := ?_) (bs 17 1) rfl rfl (take_ofW HT_.out HW_.out (by kernel_rfl)) (fun _ _ _ h => h) (Or.inl ⟨by rfl, ?_⟩) hHeld ?_ ?_; rotate_left
                      · rintro w' ⟨s0, s1, s2, s3, s4, s5⟩
                        go_simp
                        with_reducible rfl
                      rotate_left
                      · simp only [Act.put, sA, sB, sC, i64_w, i32_w]
                        rfl
                      refine one_ (i := 1) (N := some 13) (bs 17 3) rfl rfl (one_of HT_.out (by kernel_rfl)) (by decide) (fun K hK => ?_); refine goes_ Tryd.func24 (by kernel_rfl) rfl #[.agg #[.string ((rd_T37 l0 x7_1).f0), .int .i64 ((rd_T37 l0 x7_1).f1), .int .i64 ((rd_T37 l0 x7_1).f2)]] (by rfl) rfl rfl ap1 ?_; with_reducible refine (lines_one.calls ((rd_T37 l0 x7_1).f0) ((rd_T37 l0 x7_1).f1) ((rd_T37 l0 x7_1).f2) true _ ?side1 A5.out).mono ?_
                      (case side1 => first | (with_reducible exact HT.out) | exact Tabs.below HT.out (beu HB.out))
                      rintro e w23 ⟨rfl, hb⟩; refine ⟨_, rfl, ?_⟩; have n0_ := am (blk_below (bu BK116.out) hb); have n1_ := am (below_step (beu HB.out) hb); clear BK116 HB; have BK116 := n0_; have HB := n1_; clear n0_ n1_
                      (try clear hb)
                      (try clear hb2)
                      (try clear hk)
                      (try clear hi)
                      refine hK.out _ _ ⟨(blk_cell BK116.out 0).trans rfl, (blk_cell BK116.out 1).trans rfl, (blk_cell BK116.out 2).trans rfl, ((HB.out.cell (World.block_lt_of_cell? w _ hw118_0)).trans hw118_0), ((HB.out.cell (World.block_lt_of_cell? w _ hw118_1)).trans hw118_1), ((HB.out.cell (World.block_lt_of_cell? w _ hw118_2)).trans hw118_2)⟩ (fun hHeld => ?_); clear hK K; refine norm_ (a' := ?_) ?_ ?_; rotate_left
                      · show Act.put _ (some 13) _ = _
                        simp only [Act.put, sA, sB, sC, i64_w, i32_w]
                        rfl
                      refine pure_ (i := 2) (N := some 14) (v := ?_) (a' := ?_) (bs 17 7) rfl rfl (ak HT_.out) (fun _ _ _ h => h) (Or.inl ⟨by rfl, ?_⟩) ?_ ?_; rotate_left
                      · intro w'
                        go_simp
                        with_reducible rfl
                      rotate_left
                      · simp only [Act.put, sA, sB, sC, i64_w, i32_w]
                        rfl
                      refine pure_ (i := 3) (N := some 15) (v := ?_) (a' := ?_) (bs 17 15) rfl rfl (ak HT_.out) (fun _ _ _ h => h) (Or.inl ⟨by rfl, ?_⟩) ?_ ?_; rotate_left
                      · intro w'
                        go_simp
                        with_reducible rfl
                      rotate_left
                      · simp only [Act.put, sA, sB, sC, i64_w, i32_w]
                        rfl
                      refine pure_ (i := 4) (N := some 16) (v := ?_) (a' := ?_) (bs 17 31) rfl rfl (ak HT_.out) (fun _ _ _ h => h) (Or.inl ⟨by rfl, ?_⟩) ?_ ?_; rotate_left
                      · intro w'
                        go_simp
                        with_reducible rfl
                      rotate_left
                      · simp only [Act.put, sA, sB, sC, i64_w, i32_w]
                        rfl
                      refine pure_ (i := 5) (N := some 17) (v := ?_) (a' := ?_) (bs 17 63) rfl rfl (ak HT_.out) (fun _ _ _ h => h) (Or.inl ⟨by rfl, ?_⟩) ?_ ?_; rotate_left
                      · intro w'
                        go_simp
                        with_reducible rfl
                      rotate_left
                      · simp only [Act.put, sA, sB, sC, i64_w, i32_w]
                        rfl
                      refine pure_ (i := 6) (N := some 18) (v := ?_) (a' := ?_) (bs 17 127) rfl rfl (ak HT_.out) (fun _ _ _ h => h) (Or.inl ⟨by rfl, ?_⟩) ?_ ?_; rotate_left
                      · intro w'
                        go_simp
                        with_reducible rfl
                      rotate_left
                      · simp only [Act.put, sA, sB, sC, i64_w, i32_w]
                        rfl
                      refine pure_ (i := 7) (N := some 19) (v := ?_) (a' := ?_) (bs 17 255) rfl rfl (ak HT_.out) (fun _ _ _ h => h) (Or.inl ⟨by rfl, ?_⟩) ?_ ?_; rotate_left
                      · intro w'
                        go_simp
                        with_reducible rfl
                      rotate_left
                      · simp only [Act.put, sA, sB, sC, i64_w, i32_w]
                        rfl
                      refine pure_ (i := 8) (N := some 20) (v := ?_) (a' := ?_) (bs 17 511) rfl rfl (ak HT_.out) (fun _ _ _ h => h) (Or.inl ⟨by rfl, ?_⟩) ?_ ?_; rotate_left
                      · intro w'
                        go_simp
                        with_reducible rfl
                      rotate_left
                      · simp only [Act.put, sA, sB, sC, i64_w, i32_w]
                        rfl
                      refine pure_ (i := 9) (N := some 21) (v := ?_) (a' := ?_) (bs 17 1023) rfl rfl (ak HT_.out) (fun _ _ _ h => h) (Or.inl ⟨by rfl, ?_⟩) ?_ ?_; rotate_left
                      · intro w'
                        go_simp
                        with_reducible rfl
                      rotate_left
                      · simp only [Act.put, sA, sB, sC, i64_w, i32_w]
                        rfl
                      refine pure_ (i := 10) (N := some 22) (v := ?_) (a' := ?_) (bs 17 2047) rfl rfl (ak HT_.out) (fun _ _ _ h => h) (Or.inl ⟨by rfl, ?_⟩) ?_ ?_; rotate_left
                      · intro w'
                        go_simp
                        with_reducible rfl
                      rotate_left
                      · simp only [Act.put, sA, sB, sC, i64_w, i32_w]
                        rfl
                      refine take_ (i := 11) (N := some 23) (v := ?_) (a' := ?_) (bs 17 4095) rfl rfl (take_ofW HT_.out HW_.out (by kernel_rfl)) (fun _ _ _ h => h) (Or.inl ⟨by rfl, ?_⟩) hHeld ?_ ?_; rotate_left
                      · rintro w' ⟨s0, s1, s2, s3, s4, s5⟩
                        go_simp
                        with_reducible rfl
                      rotate_left
                      · simp only [Act.put, sA, sB, sC, i64_w, i32_w]
                        rfl
                      refine take_ (i := 12) (N := some 24) (v := ?_) (a' := ?_) (bs 17 8191) rfl rfl (take_ofW HT_.out HW_.out (by kernel_rfl)) (fun _ _ _ h => h) (Or.inl ⟨by rfl, ?_⟩) hHeld ?_ ?_; rotate_left
                      · rintro w' ⟨s0, s1, s2, s3, s4, s5⟩
                        go_simp
                        with_reducible rfl
                      rotate_left
                      · simp only [Act.put, sA, sB, sC, i64_w, i32_w]
                        rfl
                      refine one_ (i := 13) (N := some 25) (bs 17 16383) rfl rfl (one_of HT_.out (by kernel_rfl)) (by decide) (fun K hK => ?_); refine goes_ Tryd.func26 (by kernel_rfl) rfl #[.agg #[.string ((rd_T37 l0 (ji8)).f0), .int .i64 ((rd_T37 l0 (ji8)).f1), .int .i64 ((rd_T37 l0 (ji8)).f2)], .agg #[.string ((rd_T37 l0 x7_1).f0), .int .i64 ((rd_T37 l0 x7_1).f1), .int .i64 ((rd_T37 l0 x7_1).f2)]] (by rfl) rfl rfl (by (try simp only [List.map_toArray, List.map_cons, List.map_nil]); first | done | (simp only [hji8]; rfl) | rfl | (simp only [List.length_drop, List.length_take]; rfl)) ?_; with_reducible refine (lines_bySku.calls ((rd_T37 l0 (ji8)).f0) ((rd_T37 l0 (ji8)).f1) ((rd_T37 l0 (ji8)).f2) ((rd_T37 l0 x7_1).f0) ((rd_T37 l0 x7_1).f1) ((rd_T37 l0 x7_1).f2) t119 _ A11.out).mono ?_; rintro e w24 ⟨rfl, hb⟩; refine ⟨_, rfl, ?_⟩; have n0_ := am (blk_below (bu BK116.out) hb); have n1_ := am (below_step (beu HB.out) hb); clear BK116 HB; have BK116 := n0_; have HB := n1_; clear n0_ n1_
                      (try clear hb)
                      (try clear hb2)
                      (try clear hk)
                      (try clear hi)
                      refine hK.out _ _ ⟨(blk_cell BK116.out 0).trans rfl, (blk_cell BK116.out 1).trans rfl, (blk_cell BK116.out 2).trans rfl, ((HB.out.cell (World.block_lt_of_cell? w _ hw118_0)).trans hw118_0), ((HB.out.cell (World.block_lt_of_cell? w _ hw118_1)).trans hw118_1), ((HB.out.cell (World.block_lt_of_cell? w _ hw118_2)).trans hw118_2)⟩ (fun hHeld => ?_); clear hK K; refine norm_ (a' := ?_) ?_ ?_; rotate_left
                      · show Act.put _ (some 25) _ = _
                        simp only [Act.put, sA, sB, sC, i64_w, i32_w]
                        rfl
                      refine pure_ (i := 14) (N := some 26) (v := ?_) (a' := ?_) (bs 17 32767) rfl rfl (ak HT_.out) (fun _ _ _ h => h) (Or.inl ⟨by rfl, ?_⟩) ?_ ?_; rotate_left
                      · intro w'
                        go_simp
                        with_reducible rfl
                      rotate_left
                      · simp only [Act.put, sA, sB, sC, i64_w, i32_w]
                        rfl
                      refine pure_ (i := 15) (N := some 27) (v := ?_) (a' := ?_) (bs 17 65535) rfl rfl (ak HT_.out) (fun _ _ _ h => h) (Or.inl ⟨by rfl, ?_⟩) ?_ ?_; rotate_left
                      · intro w'
                        go_simp
                        with_reducible rfl
                      rotate_left
                      · simp only [Act.put, sA, sB, sC, i64_w, i32_w]
                        rfl
                      refine pure_ (i := 16) (N := some 28) (v := ?_) (a' := ?_) (bs 17 131071) rfl rfl (ak HT_.out) (fun _ _ _ h => h) (Or.inl ⟨by rfl, ?_⟩) ?_ ?_; rotate_left
                      · intro w'
                        go_simp
                        with_reducible rfl
                      rotate_left
                      · simp only [Act.put, sA, sB, sC, i64_w, i32_w]
                        rfl
                      refine done_ (done_of HT_.out (by kernel_rfl)) ?_
                      try go_wp2
                      go_roundg k1
                      case measure => have := HK1.out; omega
                      case rel => exact ⟨(wrap64 (x7_1 + 1)), ap3, H', ⟨by have := HK1.out; omega⟩, ⟨beu HB.out⟩⟩
                  · rw [if_neg c10] at H
                    exact absurd H (by simp)
                · rw [if_neg c9] at H
                  exact absurd H (by simp)
              · rw [if_neg c7] at H
                have c7b0 : decide (0 < x7_1) = false := decide_eq_false c7; clear c7; have H' := am H; clear H; have p115 : 0 ≤ (x7_1 : Int) := of_decide_eq_true ap2; have q115 : x7_1 < (l0.length : Int) := of_decide_eq_true ap2; obtain ⟨ad115, e115, hx115_0, hx115_1, hx115_2⟩ := at_T37 HR0.out x7_1 p115 q115
                cases e115
                replace hx115_0 := (HB.out.cell (World.block_lt_of_cell? w _ hx115_0)).trans hx115_0; replace hx115_1 := (HB.out.cell (World.block_lt_of_cell? w _ hx115_1)).trans hx115_1; replace hx115_2 := (HB.out.cell (World.block_lt_of_cell? w _ hx115_2)).trans hx115_2; replace p115 := eq_true p115; replace q115 := eq_true q115
                try go_wp2_with (first | ((with_reducible refine gate_dst (N := 4) rfl ?_); (try (refine gate_guard (by rfl) ?_; dsimp only)); refine box_event ?hg (N := 4) ?hd (cs := #[.string ⟨#[]⟩, .int .i64 0, .int .i64 0]) (t := 37) ?hr ?_; (case hd => rfl); (case hg => rfl); (case hr => first | (go_simp; done) | (go_simp; rfl)); intro gb116 hg w25 hbox hb; have _ := am (below_step (beu HB.out) hb); have _ := am (hbox); have _ := am ((by rw [hg]; exact (below_size (beu HB.out)) : w.heap.size ≤ gb116)); have _ := am ((by rw [hg]; exact (below_size (beu HB.out)) : w.heap.size ≤ gb116)); clear HB; rename_i HB BK116 GW116 GE116; clear hb hbox hg; obtain ⟨_, _, _⟩ := cells3 BK116.out; obtain ⟨_, _, _⟩ := frozens3 BK116.out))
                have n0_ : Aside0 ((((w25.setCell ⟨gb116, 0, none⟩ (.string ((rd_T37 l0 x7_1).f0))).setCell ⟨gb116, 1, none⟩ (.int .i64 ((rd_T37 l0 x7_1).f1))).setCell ⟨gb116, 2, none⟩ (.int .i64 ((rd_T37 l0 x7_1).f2))).heap[gb116]? = some (.cells #[.string ((rd_T37 l0 x7_1).f0), .int .i64 ((rd_T37 l0 x7_1).f1), .int .i64 ((rd_T37 l0 x7_1).f2)] 37 (0, 0))) := ⟨by refine bu ?_; refine blk_put (cs := #[.string ((rd_T37 l0 x7_1).f0), .int .i64 ((rd_T37 l0 x7_1).f1), .int .i64 0]) ?_ 2 _ rfl; refine bu ?_; refine blk_put (cs := #[.string ((rd_T37 l0 x7_1).f0), .int .i64 0, .int .i64 0]) ?_ 1 _ rfl; refine bu ?_; refine blk_put (cs := #[.string ⟨#[]⟩, .int .i64 0, .int .i64 0]) ?_ 0 _ rfl; refine bu ?_; exact BK116.out⟩; have n1_ : Aside0 (Below w.heap.size w (((w25.setCell ⟨gb116, 0, none⟩ (.string ((rd_T37 l0 x7_1).f0))).setCell ⟨gb116, 1, none⟩ (.int .i64 ((rd_T37 l0 x7_1).f1))).setCell ⟨gb116, 2, none⟩ (.int .i64 ((rd_T37 l0 x7_1).f2)))) := ⟨beu HB.out⟩
                (try clear BK116)
                (try clear HB)
                generalize (((w25.setCell ⟨gb116, 0, none⟩ (.string ((rd_T37 l0 x7_1).f0))).setCell ⟨gb116, 1, none⟩ (.int .i64 ((rd_T37 l0 x7_1).f1))).setCell ⟨gb116, 2, none⟩ (.int .i64 ((rd_T37 l0 x7_1).f2))) = w27 at n0_ n1_ ⊢; have BK116 := n0_; have HB := n1_; clear n0_ n1_
                (try (rw [drewN_self w27]; generalize hq_ : World.drewN w27 _ = w27; have _ := am (blk_at hq_ BK116.out); have _ := am (below_at hq_ HB.out); clear hq_ BK116 HB; rename_i BK116 HB))
                have n0_ := am (blk_drew BK116.out); have n1_ := am (below_drew1 HB.out); clear BK116 HB; have BK116 := n0_; have HB := n1_; clear n0_ n1_
                refine start_ (n := 17) (S := fun w' => w'.cell? ⟨gb116, 0, none⟩ = some (.string ((rd_T37 l0 x7_1).f0)) ∧ w'.cell? ⟨gb116, 1, none⟩ = some (.int .i64 ((rd_T37 l0 x7_1).f1)) ∧ w'.cell? ⟨gb116, 2, none⟩ = some (.int .i64 ((rd_T37 l0 x7_1).f2))) (ds := []) #[false, false, false, false, false, false, false, false, false, false, false, false, false, false, false, false, false] (by kernel_rfl) rfl rfl ⟨(blk_cell BK116.out 0).trans rfl, (blk_cell BK116.out 1).trans rfl, (blk_cell BK116.out 2).trans rfl⟩ (fun hHeld => ?_); refine with_tabW lines_Right.tab4 lines_Right.bits4 (fun HT_ HW_ => ?_)
                generalize w27.drew = w28 at BK116 HB hHeld ⊢; refine take_ (i := 0) (N := some 12) (v := ?_) (a' := ?_) (bs 17 1) rfl rfl (take_ofW HT_.out HW_.out (by kernel_rfl)) (fun _ _ _ h => h) (Or.inl ⟨by rfl, ?_⟩) hHeld ?_ ?_; rotate_left
                · rintro w' ⟨s0, s1, s2⟩
                  go_simp
                  with_reducible rfl
                rotate_left
                · simp only [Act.put, sA, sB, sC, i64_w, i32_w]
                  rfl
                refine one_ (i := 1) (N := some 13) (bs 17 3) rfl rfl (one_of HT_.out (by kernel_rfl)) (by decide) (fun K hK => ?_); refine goes_ Tryd.func24 (by kernel_rfl) rfl #[.agg #[.string ((rd_T37 l0 x7_1).f0), .int .i64 ((rd_T37 l0 x7_1).f1), .int .i64 ((rd_T37 l0 x7_1).f2)]] (by rfl) rfl rfl ap1 ?_; with_reducible refine (lines_one.calls ((rd_T37 l0 x7_1).f0) ((rd_T37 l0 x7_1).f1) ((rd_T37 l0 x7_1).f2) true _ ?side1 A5.out).mono ?_
                (case side1 => first | (with_reducible exact HT.out) | exact Tabs.below HT.out (beu HB.out))
                rintro e w29 ⟨rfl, hb⟩; refine ⟨_, rfl, ?_⟩; have n0_ := am (blk_below (bu BK116.out) hb); have n1_ := am (below_step (beu HB.out) hb); clear BK116 HB; have BK116 := n0_; have HB := n1_; clear n0_ n1_
                (try clear hb)
                (try clear hb2)
                (try clear hk)
                (try clear hi)
                refine hK.out _ _ ⟨(blk_cell BK116.out 0).trans rfl, (blk_cell BK116.out 1).trans rfl, (blk_cell BK116.out 2).trans rfl⟩ (fun hHeld => ?_); clear hK K; refine norm_ (a' := ?_) ?_ ?_; rotate_left
                · show Act.put _ (some 13) _ = _
                  simp only [Act.put, sA, sB, sC, i64_w, i32_w]
                  rfl
                refine pure_ (i := 2) (N := some 14) (v := ?_) (a' := ?_) (bs 17 7) rfl rfl (ak HT_.out) (fun _ _ _ h => h) (Or.inl ⟨by rfl, ?_⟩) ?_ ?_; rotate_left
                · intro w'
                  go_simp
                  with_reducible rfl
                rotate_left
                · simp only [Act.put, sA, sB, sC, i64_w, i32_w]
                  rfl
                refine pure_ (i := 3) (N := some 15) (v := ?_) (a' := ?_) (bs 17 15) rfl rfl (ak HT_.out) (fun _ _ _ h => h) (Or.inl ⟨by rfl, ?_⟩) ?_ ?_; rotate_left
                · intro w'
                  go_simp
                  with_reducible rfl
                rotate_left
                · simp only [Act.put, sA, sB, sC, i64_w, i32_w]
                  rfl
                refine pure_ (i := 4) (N := some 16) (v := ?_) (a' := ?_) (bs 17 31) rfl rfl (ak HT_.out) (fun _ _ _ h => h) (Or.inl ⟨by rfl, ?_⟩) ?_ ?_; rotate_left
                · intro w'
                  go_simp
                  with_reducible rfl
                rotate_left
                · simp only [Act.put, sA, sB, sC, i64_w, i32_w]
                  rfl
                refine pure_ (i := 5) (N := some 17) (v := ?_) (a' := ?_) (bs 17 63) rfl rfl (ak HT_.out) (fun _ _ _ h => h) (Or.inl ⟨by rfl, ?_⟩) ?_ ?_; rotate_left
                · intro w'
                  go_simp
                  with_reducible rfl
                rotate_left
                · simp only [Act.put, sA, sB, sC, i64_w, i32_w]
                  rfl
                refine pure_ (i := 6) (N := some 18) (v := ?_) (a' := ?_) (bs 17 127) rfl rfl (ak HT_.out) (fun _ _ _ h => h) (Or.inl ⟨by rfl, ?_⟩) ?_ ?_; rotate_left
                · intro w'
                  go_simp
                  with_reducible rfl
                rotate_left
                · simp only [Act.put, sA, sB, sC, i64_w, i32_w]
                  rfl
                refine pure_ (i := 7) (N := some 19) (v := undef) (a' := ?_) (bs 17 255) rfl rfl (ak HT_.out) (fun _ _ _ h => h) (Or.inr ⟨by rfl, rfl⟩) ?_ ?_; rotate_left
                · simp only [Act.put, sA, sB, sC, i64_w, i32_w]
                  rfl
                refine pure_ (i := 8) (N := some 20) (v := undef) (a' := ?_) (bs 17 511) rfl rfl (ak HT_.out) (fun _ _ _ h => h) (Or.inr ⟨by rfl, rfl⟩) ?_ ?_; rotate_left
                · simp only [Act.put, sA, sB, sC, i64_w, i32_w]
                  rfl
                refine pure_ (i := 9) (N := some 21) (v := undef) (a' := ?_) (bs 17 1023) rfl rfl (ak HT_.out) (fun _ _ _ h => h) (Or.inr ⟨by rfl, rfl⟩) ?_ ?_; rotate_left
                · simp only [Act.put, sA, sB, sC, i64_w, i32_w]
                  rfl
                refine pure_ (i := 10) (N := some 22) (v := undef) (a' := ?_) (bs 17 2047) rfl rfl (ak HT_.out) (fun _ _ _ h => h) (Or.inr ⟨by rfl, rfl⟩) ?_ ?_; rotate_left
                · simp only [Act.put, sA, sB, sC, i64_w, i32_w]
                  rfl
                refine pure_ (i := 11) (N := some 23) (v := undef) (a' := ?_) (bs 17 4095) rfl rfl (ak HT_.out) (fun _ _ _ h => h) (Or.inr ⟨by rfl, rfl⟩) ?_ ?_; rotate_left
                · simp only [Act.put, sA, sB, sC, i64_w, i32_w]
                  rfl
                refine pure_ (i := 12) (N := some 24) (v := undef) (a' := ?_) (bs 17 8191) rfl rfl (ak HT_.out) (fun _ _ _ h => h) (Or.inr ⟨by rfl, rfl⟩) ?_ ?_; rotate_left
                · simp only [Act.put, sA, sB, sC, i64_w, i32_w]
                  rfl
                refine pure_ (i := 13) (N := some 25) (v := undef) (a' := ?_) (bs 17 16383) rfl rfl (ak HT_.out) (fun _ _ _ h => h) (Or.inr ⟨by rfl, rfl⟩) ?_ ?_; rotate_left
                · simp only [Act.put, sA, sB, sC, i64_w, i32_w]
                  rfl
                refine pure_ (i := 14) (N := some 26) (v := undef) (a' := ?_) (bs 17 32767) rfl rfl (ak HT_.out) (fun _ _ _ h => h) (Or.inr ⟨by rfl, rfl⟩) ?_ ?_; rotate_left
                · simp only [Act.put, sA, sB, sC, i64_w, i32_w]
                  rfl
                refine pure_ (i := 15) (N := some 27) (v := ?_) (a' := ?_) (bs 17 65535) rfl rfl (ak HT_.out) (fun _ _ _ h => h) (Or.inl ⟨by rfl, ?_⟩) ?_ ?_; rotate_left
                · intro w'
                  go_simp
                  with_reducible rfl
                rotate_left
                · simp only [Act.put, sA, sB, sC, i64_w, i32_w]
                  rfl
                refine pure_ (i := 16) (N := some 28) (v := ?_) (a' := ?_) (bs 17 131071) rfl rfl (ak HT_.out) (fun _ _ _ h => h) (Or.inl ⟨by rfl, ?_⟩) ?_ ?_; rotate_left
                · intro w'
                  go_simp
                  with_reducible rfl
                rotate_left
                · simp only [Act.put, sA, sB, sC, i64_w, i32_w]
                  rfl
                refine done_ (done_of HT_.out (by kernel_rfl)) ?_
                try go_wp2
                go_roundg k1
                case measure => have := HK1.out; omega
                case rel => exact ⟨(wrap64 (x7_1 + 1)), ap3, H', ⟨by have := HK1.out; omega⟩, ⟨beu HB.out⟩⟩
            · replace c6 := Bool.eq_false_iff.mpr c6
              subst c6
              have H1 : (some false) = some r := by rw [if_neg (show ¬ (false = true) by decide)] at H; exact H
              clear H; have H := H1; clear H1; obtain rfl := Option.some.inj H; simp only [Option.some.injEq, Prod.mk.injEq] at H; obtain ⟨rfl⟩ := H; have p115 : 0 ≤ (x7_1 : Int) := of_decide_eq_true ap2; have q115 : x7_1 < (l0.length : Int) := of_decide_eq_true ap2; obtain ⟨ad115, e115, hx115_0, hx115_1, hx115_2⟩ := at_T37 HR0.out x7_1 p115 q115
              cases e115
              replace hx115_0 := (HB.out.cell (World.block_lt_of_cell? w _ hx115_0)).trans hx115_0; replace hx115_1 := (HB.out.cell (World.block_lt_of_cell? w _ hx115_1)).trans hx115_1; replace hx115_2 := (HB.out.cell (World.block_lt_of_cell? w _ hx115_2)).trans hx115_2; replace p115 := eq_true p115; replace q115 := eq_true q115
              try go_wp2_with (first | ((with_reducible refine gate_dst (N := 4) rfl ?_); (try (refine gate_guard (by rfl) ?_; dsimp only)); refine box_event ?hg (N := 4) ?hd (cs := #[.string ⟨#[]⟩, .int .i64 0, .int .i64 0]) (t := 37) ?hr ?_; (case hd => rfl); (case hg => rfl); (case hr => first | (go_simp; done) | (go_simp; rfl)); intro gb116 hg w30 hbox hb; have _ := am (below_step (beu HB.out) hb); have _ := am (hbox); have _ := am ((by rw [hg]; exact (below_size (beu HB.out)) : w.heap.size ≤ gb116)); have _ := am ((by rw [hg]; exact (below_size (beu HB.out)) : w.heap.size ≤ gb116)); clear HB; rename_i HB BK116 GW116 GE116; clear hb hbox hg; obtain ⟨_, _, _⟩ := cells3 BK116.out; obtain ⟨_, _, _⟩ := frozens3 BK116.out))
              have n0_ : Aside0 ((((w30.setCell ⟨gb116, 0, none⟩ (.string ((rd_T37 l0 x7_1).f0))).setCell ⟨gb116, 1, none⟩ (.int .i64 ((rd_T37 l0 x7_1).f1))).setCell ⟨gb116, 2, none⟩ (.int .i64 ((rd_T37 l0 x7_1).f2))).heap[gb116]? = some (.cells #[.string ((rd_T37 l0 x7_1).f0), .int .i64 ((rd_T37 l0 x7_1).f1), .int .i64 ((rd_T37 l0 x7_1).f2)] 37 (0, 0))) := ⟨by refine bu ?_; refine blk_put (cs := #[.string ((rd_T37 l0 x7_1).f0), .int .i64 ((rd_T37 l0 x7_1).f1), .int .i64 0]) ?_ 2 _ rfl; refine bu ?_; refine blk_put (cs := #[.string ((rd_T37 l0 x7_1).f0), .int .i64 0, .int .i64 0]) ?_ 1 _ rfl; refine bu ?_; refine blk_put (cs := #[.string ⟨#[]⟩, .int .i64 0, .int .i64 0]) ?_ 0 _ rfl; refine bu ?_; exact BK116.out⟩; have n1_ : Aside0 (Below w.heap.size w (((w30.setCell ⟨gb116, 0, none⟩ (.string ((rd_T37 l0 x7_1).f0))).setCell ⟨gb116, 1, none⟩ (.int .i64 ((rd_T37 l0 x7_1).f1))).setCell ⟨gb116, 2, none⟩ (.int .i64 ((rd_T37 l0 x7_1).f2)))) := ⟨beu HB.out⟩
              (try clear BK116)
              (try clear HB)
              generalize (((w30.setCell ⟨gb116, 0, none⟩ (.string ((rd_T37 l0 x7_1).f0))).setCell ⟨gb116, 1, none⟩ (.int .i64 ((rd_T37 l0 x7_1).f1))).setCell ⟨gb116, 2, none⟩ (.int .i64 ((rd_T37 l0 x7_1).f2))) = w32 at n0_ n1_ ⊢; have BK116 := n0_; have HB := n1_; clear n0_ n1_
              (try (rw [drewN_self w32]; generalize hq_ : World.drewN w32 _ = w32; have _ := am (blk_at hq_ BK116.out); have _ := am (below_at hq_ HB.out); clear hq_ BK116 HB; rename_i BK116 HB))
              have n0_ := am (blk_drew BK116.out); have n1_ := am (below_drew1 HB.out); clear BK116 HB; have BK116 := n0_; have HB := n1_; clear n0_ n1_
              refine start_ (n := 17) (S := fun w' => w'.cell? ⟨gb116, 0, none⟩ = some (.string ((rd_T37 l0 x7_1).f0)) ∧ w'.cell? ⟨gb116, 1, none⟩ = some (.int .i64 ((rd_T37 l0 x7_1).f1)) ∧ w'.cell? ⟨gb116, 2, none⟩ = some (.int .i64 ((rd_T37 l0 x7_1).f2))) (ds := []) #[false, false, false, false, false, false, false, false, false, false, false, false, false, false, false, false, false] (by kernel_rfl) rfl rfl ⟨(blk_cell BK116.out 0).trans rfl, (blk_cell BK116.out 1).trans rfl, (blk_cell BK116.out 2).trans rfl⟩ (fun hHeld => ?_); refine with_tabW lines_Right.tab4 lines_Right.bits4 (fun HT_ HW_ => ?_)
              generalize w32.drew = w33 at BK116 HB hHeld ⊢; refine take_ (i := 0) (N := some 12) (v := ?_) (a' := ?_) (bs 17 1) rfl rfl (take_ofW HT_.out HW_.out (by kernel_rfl)) (fun _ _ _ h => h) (Or.inl ⟨by rfl, ?_⟩) hHeld ?_ ?_; rotate_left
              · rintro w' ⟨s0, s1, s2⟩
                go_simp
                with_reducible rfl
              rotate_left
              · simp only [Act.put, sA, sB, sC, i64_w, i32_w]
                rfl
              refine one_ (i := 1) (N := some 13) (bs 17 3) rfl rfl (one_of HT_.out (by kernel_rfl)) (by decide) (fun K hK => ?_); refine goes_ Tryd.func24 (by kernel_rfl) rfl #[.agg #[.string ((rd_T37 l0 x7_1).f0), .int .i64 ((rd_T37 l0 x7_1).f1), .int .i64 ((rd_T37 l0 x7_1).f2)]] (by rfl) rfl rfl ap1 ?_; with_reducible refine (lines_one.calls ((rd_T37 l0 x7_1).f0) ((rd_T37 l0 x7_1).f1) ((rd_T37 l0 x7_1).f2) false _ ?side1 A5.out).mono ?_
              (case side1 => first | (with_reducible exact HT.out) | exact Tabs.below HT.out (beu HB.out))
              rintro e w34 ⟨rfl, hb⟩; refine ⟨_, rfl, ?_⟩; have n0_ := am (blk_below (bu BK116.out) hb); have n1_ := am (below_step (beu HB.out) hb); clear BK116 HB; have BK116 := n0_; have HB := n1_; clear n0_ n1_
              (try clear hb)
              (try clear hb2)
              (try clear hk)
              (try clear hi)
              refine hK.out _ _ ⟨(blk_cell BK116.out 0).trans rfl, (blk_cell BK116.out 1).trans rfl, (blk_cell BK116.out 2).trans rfl⟩ (fun hHeld => ?_); clear hK K; refine norm_ (a' := ?_) ?_ ?_; rotate_left
              · show Act.put _ (some 13) _ = _
                simp only [Act.put, sA, sB, sC, i64_w, i32_w]
                rfl
              refine pure_ (i := 2) (N := some 14) (v := ?_) (a' := ?_) (bs 17 7) rfl rfl (ak HT_.out) (fun _ _ _ h => h) (Or.inl ⟨by rfl, ?_⟩) ?_ ?_; rotate_left
              · intro w'
                go_simp
                with_reducible rfl
              rotate_left
              · simp only [Act.put, sA, sB, sC, i64_w, i32_w]
                rfl
              refine pure_ (i := 3) (N := some 15) (v := ?_) (a' := ?_) (bs 17 15) rfl rfl (ak HT_.out) (fun _ _ _ h => h) (Or.inl ⟨by rfl, ?_⟩) ?_ ?_; rotate_left
              · intro w'
                go_simp
                with_reducible rfl
              rotate_left
              · simp only [Act.put, sA, sB, sC, i64_w, i32_w]
                rfl
              refine pure_ (i := 4) (N := some 16) (v := undef) (a' := ?_) (bs 17 31) rfl rfl (ak HT_.out) (fun _ _ _ h => h) (Or.inr ⟨by rfl, rfl⟩) ?_ ?_; rotate_left
              · simp only [Act.put, sA, sB, sC, i64_w, i32_w]
                rfl
              refine pure_ (i := 5) (N := some 17) (v := undef) (a' := ?_) (bs 17 63) rfl rfl (ak HT_.out) (fun _ _ _ h => h) (Or.inr ⟨by rfl, rfl⟩) ?_ ?_; rotate_left
              · simp only [Act.put, sA, sB, sC, i64_w, i32_w]
                rfl
              refine pure_ (i := 6) (N := some 18) (v := undef) (a' := ?_) (bs 17 127) rfl rfl (ak HT_.out) (fun _ _ _ h => h) (Or.inr ⟨by rfl, rfl⟩) ?_ ?_; rotate_left
              · simp only [Act.put, sA, sB, sC, i64_w, i32_w]
                rfl
              refine pure_ (i := 7) (N := some 19) (v := undef) (a' := ?_) (bs 17 255) rfl rfl (ak HT_.out) (fun _ _ _ h => h) (Or.inr ⟨by rfl, rfl⟩) ?_ ?_; rotate_left
              · simp only [Act.put, sA, sB, sC, i64_w, i32_w]
                rfl
              refine pure_ (i := 8) (N := some 20) (v := undef) (a' := ?_) (bs 17 511) rfl rfl (ak HT_.out) (fun _ _ _ h => h) (Or.inr ⟨by rfl, rfl⟩) ?_ ?_; rotate_left
              · simp only [Act.put, sA, sB, sC, i64_w, i32_w]
                rfl
              refine pure_ (i := 9) (N := some 21) (v := undef) (a' := ?_) (bs 17 1023) rfl rfl (ak HT_.out) (fun _ _ _ h => h) (Or.inr ⟨by rfl, rfl⟩) ?_ ?_; rotate_left
              · simp only [Act.put, sA, sB, sC, i64_w, i32_w]
                rfl
              refine pure_ (i := 10) (N := some 22) (v := undef) (a' := ?_) (bs 17 2047) rfl rfl (ak HT_.out) (fun _ _ _ h => h) (Or.inr ⟨by rfl, rfl⟩) ?_ ?_; rotate_left
              · simp only [Act.put, sA, sB, sC, i64_w, i32_w]
                rfl
              refine pure_ (i := 11) (N := some 23) (v := undef) (a' := ?_) (bs 17 4095) rfl rfl (ak HT_.out) (fun _ _ _ h => h) (Or.inr ⟨by rfl, rfl⟩) ?_ ?_; rotate_left
              · simp only [Act.put, sA, sB, sC, i64_w, i32_w]
                rfl
              refine pure_ (i := 12) (N := some 24) (v := undef) (a' := ?_) (bs 17 8191) rfl rfl (ak HT_.out) (fun _ _ _ h => h) (Or.inr ⟨by rfl, rfl⟩) ?_ ?_; rotate_left
              · simp only [Act.put, sA, sB, sC, i64_w, i32_w]
                rfl
              refine pure_ (i := 13) (N := some 25) (v := undef) (a' := ?_) (bs 17 16383) rfl rfl (ak HT_.out) (fun _ _ _ h => h) (Or.inr ⟨by rfl, rfl⟩) ?_ ?_; rotate_left
              · simp only [Act.put, sA, sB, sC, i64_w, i32_w]
                rfl
              refine pure_ (i := 14) (N := some 26) (v := undef) (a' := ?_) (bs 17 32767) rfl rfl (ak HT_.out) (fun _ _ _ h => h) (Or.inr ⟨by rfl, rfl⟩) ?_ ?_; rotate_left
              · simp only [Act.put, sA, sB, sC, i64_w, i32_w]
                rfl
              refine pure_ (i := 15) (N := some 27) (v := undef) (a' := ?_) (bs 17 65535) rfl rfl (ak HT_.out) (fun _ _ _ h => h) (Or.inr ⟨by rfl, rfl⟩) ?_ ?_; rotate_left
              · simp only [Act.put, sA, sB, sC, i64_w, i32_w]
                rfl
              refine pure_ (i := 16) (N := some 28) (v := ?_) (a' := ?_) (bs 17 131071) rfl rfl (ak HT_.out) (fun _ _ _ h => h) (Or.inl ⟨by rfl, ?_⟩) ?_ ?_; rotate_left
              · intro w'
                go_simp
                with_reducible rfl
              rotate_left
              · simp only [Act.put, sA, sB, sC, i64_w, i32_w]
                rfl
              refine done_ (done_of HT_.out (by kernel_rfl)) ?_
              try go_wp2
              go_ret
              exact ⟨ap4, beu HB.out⟩
          · rw [if_neg c4] at H
            exact absurd H (by simp)
        · rw [if_neg c3] at H
          exact absurd H (by simp)
      · rw [if_neg c2] at H
        have c2b0 : decide (x7_1 < (l0.length : Int)) = false := decide_eq_false c2; clear c2
        by_cases c35 : (l0.length : Int) ≥ 1
        · rw [if_pos c35] at H
          have c35b0 : decide (1 ≤ (l0.length : Int)) = true := decide_eq_true c35; have c35b1 : decide (1 ≤ l0.length) = true := decide_eq_true (by omega); clear c35; obtain rfl := Option.some.inj H; simp only [Option.some.injEq, Prod.mk.injEq] at H; obtain ⟨rfl⟩ := H
          go_wp2
          go_ret
          exact ⟨ap4, beu HB.out⟩
        · rw [if_neg c35] at H
          have c35b0 : decide (1 ≤ (l0.length : Int)) = false := decide_eq_false c35; have c35b1 : decide (1 ≤ l0.length) = false := decide_eq_false (by omega); clear c35; obtain rfl := Option.some.inj H; simp only [Option.some.injEq, Prod.mk.injEq] at H; obtain ⟨rfl⟩ := H
          go_wp2
          go_ret
          exact ⟨ap4, beu HB.out⟩
def lines_Merge_1.f (a0_0 : ByteArray) (a0_1 : Int) (a0_2 : Int) : Option (Bool) := (lines_one.f a0_0 a0_1 a0_2).bind fun t121 => (some (!t121))
set_option maxHeartbeats 8000000 in
set_option maxRecDepth 100000 in
theorem lines_Merge_1.calls (a0_0 : ByteArray) (a0_1 : Int) (a0_2 : Int) (r : Bool) (w : World) (hT : Tabs w) (h : lines_Merge_1.f a0_0 a0_1 a0_2 = some r) :
    Calls Tryd.prog 23 #[.agg #[.string a0_0, .int .i64 a0_1, .int .i64 a0_2]] w fun e w' => e = .returned (.bool r) ∧ Below w.heap.size w w' := by
  have hu37 := Tryd.underlying37; have HT := am hT; clear hT; have HB := am (Below.refl w.heap.size w); have H : ((lines_one.f a0_0 a0_1 a0_2).bind fun t121 => (some (!t121))) = some r := h; clear h; replace H := obm H; obtain ⟨t121, A20, H⟩ := H; replace H : (some (!t121)) = some r := H; have A2 := am A20; clear A20; obtain rfl := Option.some.inj H; simp only [Option.some.injEq, Prod.mk.injEq] at H; obtain ⟨rfl⟩ := H
  go_enter Tryd.func23, Tryd.ntmps23
  go_wp2_with (first | ((with_reducible refine gate_dst (N := 1) rfl ?_); refine box_event ?hg (N := 1) ?hd (cs := #[.string a0_0, .int .i64 a0_1, .int .i64 a0_2]) (t := 37) ?hr ?_; (case hd => rfl); (case hg => rfl); (case hr => first | (go_simp; done) | (go_simp; rfl)); intro gb120 hg w3 hbox hb; have _ := am (below_step (beu HB.out) hb); have _ := am (hbox); have _ := am ((by rw [hg]; exact (below_size (beu HB.out)) : w.heap.size ≤ gb120)); have _ := am ((by rw [hg]; exact (below_size (beu HB.out)) : w.heap.size ≤ gb120)); clear HB; rename_i HB BK120 GW120 GE120; clear hb hbox hg; obtain ⟨_, _, _⟩ := cells3 BK120.out; obtain ⟨_, _, _⟩ := frozens3 BK120.out) | ((with_reducible refine gate_callee (f := 24) rfl ?_); refine goesL_ (some 4) rfl rfl Tryd.func24 (by kernel_rfl) rfl #[.agg #[.string a0_0, .int .i64 a0_1, .int .i64 a0_2]] rfl ap1 ?_; (with_reducible refine (lines_one.calls a0_0 a0_1 a0_2 t121 _ ?side1 A2.out).mono ?_); (case side1 => first | (with_reducible exact HT.out) | exact Tabs.below HT.out (beu HB.out)); rintro e w5 ⟨rfl, hb⟩; refine ⟨_, rfl, ?_⟩; have _ := am (blk_below (bu BK120.out) hb); have _ := am (below_step (beu HB.out) hb); clear BK120 HB; rename_i BK120 HB; (try clear hb)))
  go_ret
  exact ⟨ap4, beu HB.out⟩
def api_Line_33.l0 : Nat → List (S37) → Int → Int → Option (Int)
  | 0, _, _, _ => none
  | k + 1, x0, x7, x8 => if x8 < x7 then (if 0 ≤ x8 then (if x8 < (x0.length : Int) then ((lines_Merge_1.f ((rd_T37 x0 x8).f0) ((rd_T37 x0 x8).f1) ((rd_T37 x0 x8).f2)).bind fun t123 => (if t123 = true then (some x8) else (api_Line_33.l0 k x0 x7 (wrap64 (x8 + 1))))) else (none)) else (none)) else (some (-1))
def api_Line_33.f (k : Nat) (l0 : List (S37)) (a1 : Int) : Option (Int) := api_Line_33.l0 k l0 (l0.length : Int) 0
theorem api_Line_33.mono_l : ∀ k, (∀ y0 y1 y2, LeO (api_Line_33.l0 k y0 y1 y2) (api_Line_33.l0 (k + 1) y0 y1 y2))
  | 0 => fun _ _ _ r h => by simp [api_Line_33.l0] at h
  | k + 1 => by
    have ih0 := api_Line_33.mono_l k
    · intro y0 y1 y2
      unfold api_Line_33.l0
      repeat' first
      | (with_reducible exact ih0 _ _ _)
      | (with_reducible exact LeO.refl _)
      | (with_reducible exact LeO.none _)
      | (with_reducible refine LeO.ite ?_ ?_)
      | (with_reducible refine LeO.bind ?_ (fun _ => ?_))
      | exact ih0 _ _ _
      | exact LeO.none _
      | refine LeO.ite ?_ ?_
      | refine LeO.bind ?_ (fun _ => ?_)
theorem api_Line_33.mono : ∀ a0 a1 k, LeO (api_Line_33.f k a0 a1) (api_Line_33.f (k + 1) a0 a1) := by
  intro a0 a1 k; have ih0 := api_Line_33.mono_l k
  unfold api_Line_33.f
  repeat' first
      | (with_reducible exact ih0 _ _ _)
      | (with_reducible exact LeO.refl _)
      | (with_reducible exact LeO.none _)
      | (with_reducible refine LeO.ite ?_ ?_)
      | (with_reducible refine LeO.bind ?_ (fun _ => ?_))
      | exact ih0 _ _ _
      | exact LeO.none _
      | refine LeO.ite ?_ ?_
      | refine LeO.bind ?_ (fun _ => ?_)
set_option maxHeartbeats 8000000 in
set_option maxRecDepth 100000 in
theorem api_Line_33.calls (k : Nat) (A0 : Option Addr) (c0 : Nat) (l0 : List (S37)) (a1 : Int) (r : Int) (w : World) (hr0 : Kd.C k37 w A0 l0.length l0) (hc0 : l0.length ≤ c0) (hT : Tabs w) (h : api_Line_33.f k l0 a1 = some r) :
    Calls Tryd.prog 33 #[.slice A0 l0.length c0, (.func (.func 23) #[] #[])] w fun e w' => e = .returned (.int .i64 r) ∧ Below w.heap.size w w' := by
  have hu37 := Tryd.underlying37; have HR0 := am hr0; have HC0 := am hc0; clear hr0 hc0; have HT := am hT; clear hT; have HB := am (Below.refl w.heap.size w); have H : (api_Line_33.l0 k l0 (l0.length : Int) 0) = some r := h; clear h; have H' := am H; clear H
  go_enter Tryd.func33, Tryd.ntmps33
  go_wp2
  go_loopg [8] k (fun kq v8 w' => ∃ (x8_1 : Int), v8 = .int .i64 x8_1 ∧ Aside0 (api_Line_33.l0 kq l0 (l0.length : Int) x8_1 = some r) ∧ Aside0 (kq ≤ k) ∧ Aside0 (Below w.heap.size w w'))
  case atStart => exact ⟨(0), ap3, H', ⟨Nat.le_refl _⟩, ⟨beu HB.out⟩⟩
  case round =>
    clear H'; (try clear p2); obtain ⟨x8_1, rfl, HA, HK1, HB⟩ := hrel
    cases gk with
    | zero => exact absurd HA.out (by simp [api_Line_33.l0])
    | succ k1 =>
      have H := HA.out; clear HA; simp only [api_Line_33.l0] at H
      by_cases c3 : x8_1 < (l0.length : Int)
      · rw [if_pos c3] at H
        have c3b0 : decide (x8_1 < (l0.length : Int)) = true := decide_eq_true c3; clear c3
        by_cases c4 : 0 ≤ x8_1
        · rw [if_pos c4] at H
          have c4b0 : decide (0 ≤ x8_1) = true := decide_eq_true c4; clear c4
          by_cases c5 : x8_1 < (l0.length : Int)
          · rw [if_pos c5] at H
            have c5b0 : decide (x8_1 < (l0.length : Int)) = true := decide_eq_true c5; clear c5; replace H := obm H; obtain ⟨t123, A60, H⟩ := H; replace H : (if t123 = true then (some x8_1) else (api_Line_33.l0 k1 l0 (l0.length : Int) (wrap64 (x8_1 + 1)))) = some r := H; have A6 := am A60; clear A60
            by_cases c7 : t123 = true
            · subst c7
              have H1 : (some x8_1) = some r := by rw [if_pos rfl] at H; exact H
              clear H; have H := H1; clear H1; obtain rfl := Option.some.inj H; simp only [Option.some.injEq, Prod.mk.injEq] at H; obtain ⟨rfl⟩ := H; have p122 : 0 ≤ (x8_1 : Int) := of_decide_eq_true ap2; have q122 : x8_1 < (l0.length : Int) := of_decide_eq_true ap2; obtain ⟨ad122, e122, hx122_0, hx122_1, hx122_2⟩ := at_T37 HR0.out x8_1 p122 q122
              cases e122
              replace hx122_0 := (HB.out.cell (World.block_lt_of_cell? w _ hx122_0)).trans hx122_0; replace hx122_1 := (HB.out.cell (World.block_lt_of_cell? w _ hx122_1)).trans hx122_1; replace hx122_2 := (HB.out.cell (World.block_lt_of_cell? w _ hx122_2)).trans hx122_2; replace p122 := eq_true p122; replace q122 := eq_true q122
              go_wp2_with (first | ((with_reducible refine gate_dyn (x := .tmp 11) rfl ?_); refine goesD_ (some 16) (.tmp 11) rfl rfl rfl Tryd.func23 (by kernel_rfl) rfl #[.agg #[.string ((rd_T37 l0 x8_1).f0), .int .i64 ((rd_T37 l0 x8_1).f1), .int .i64 ((rd_T37 l0 x8_1).f2)]] rfl ap1 ?_; (with_reducible refine (lines_Merge_1.calls ((rd_T37 l0 x8_1).f0) ((rd_T37 l0 x8_1).f1) ((rd_T37 l0 x8_1).f2) true _ ?side1 A6.out).mono ?_); (case side1 => first | (with_reducible exact HT.out) | exact Tabs.below HT.out (beu HB.out)); rintro e w8 ⟨rfl, hb⟩; refine ⟨_, rfl, ?_⟩; have _ := am (below_step (beu HB.out) hb); clear HB; rename_i HB; (try clear hb)))
              go_ret
              exact ⟨ap4, beu HB.out⟩
            · replace c7 := Bool.eq_false_iff.mpr c7
              subst c7
              have H1 : (api_Line_33.l0 k1 l0 (l0.length : Int) (wrap64 (x8_1 + 1))) = some r := by rw [if_neg (show ¬ (false = true) by decide)] at H; exact H
              clear H; have H := H1; clear H1; have H' := am H; clear H; have p122 : 0 ≤ (x8_1 : Int) := of_decide_eq_true ap2; have q122 : x8_1 < (l0.length : Int) := of_decide_eq_true ap2; obtain ⟨ad122, e122, hx122_0, hx122_1, hx122_2⟩ := at_T37 HR0.out x8_1 p122 q122
              cases e122
              replace hx122_0 := (HB.out.cell (World.block_lt_of_cell? w _ hx122_0)).trans hx122_0; replace hx122_1 := (HB.out.cell (World.block_lt_of_cell? w _ hx122_1)).trans hx122_1; replace hx122_2 := (HB.out.cell (World.block_lt_of_cell? w _ hx122_2)).trans hx122_2; replace p122 := eq_true p122; replace q122 := eq_true q122
              go_wp2_with (first | ((with_reducible refine gate_dyn (x := .tmp 11) rfl ?_); refine goesD_ (some 16) (.tmp 11) rfl rfl rfl Tryd.func23 (by kernel_rfl) rfl #[.agg #[.string ((rd_T37 l0 x8_1).f0), .int .i64 ((rd_T37 l0 x8_1).f1), .int .i64 ((rd_T37 l0 x8_1).f2)]] rfl ap1 ?_; (with_reducible refine (lines_Merge_1.calls ((rd_T37 l0 x8_1).f0) ((rd_T37 l0 x8_1).f1) ((rd_T37 l0 x8_1).f2) false _ ?side1 A6.out).mono ?_); (case side1 => first | (with_reducible exact HT.out) | exact Tabs.below HT.out (beu HB.out)); rintro e w9 ⟨rfl, hb⟩; refine ⟨_, rfl, ?_⟩; have _ := am (below_step (beu HB.out) hb); clear HB; rename_i HB; (try clear hb)))
              go_roundg k1
              case measure => have := HK1.out; omega
              case rel => exact ⟨(wrap64 (x8_1 + 1)), ap3, H', ⟨by have := HK1.out; omega⟩, ⟨beu HB.out⟩⟩
          · rw [if_neg c5] at H
            exact absurd H (by simp)
        · rw [if_neg c4] at H
          exact absurd H (by simp)
      · rw [if_neg c3] at H
        have c3b0 : decide (x8_1 < (l0.length : Int)) = false := decide_eq_false c3; clear c3; obtain rfl := Option.some.inj H; simp only [Option.some.injEq, Prod.mk.injEq] at H; obtain ⟨rfl⟩ := H
        go_wp2
        go_ret
        exact ⟨ap4, beu HB.out⟩
def api_Line_22.f (k : Nat) (l0 : List (S37)) (a1 : Int) : Option (Bool) := (api_Line_33.f k l0 a1).bind fun t124 => (some (decide (t124 ≥ 0)))
theorem api_Line_22.mono : ∀ a0 a1 k, LeO (api_Line_22.f k a0 a1) (api_Line_22.f (k + 1) a0 a1) := by
  intro a0 a1 k
  unfold api_Line_22.f
  repeat' first
      | (with_reducible exact api_Line_33.mono _ _ _)
      | (with_reducible exact LeO.refl _)
      | (with_reducible exact LeO.none _)
      | (with_reducible refine LeO.ite ?_ ?_)
      | (with_reducible refine LeO.bind ?_ (fun _ => ?_))
      | exact api_Line_33.mono _ _ _
      | exact LeO.none _
      | refine LeO.ite ?_ ?_
      | refine LeO.bind ?_ (fun _ => ?_)
set_option maxHeartbeats 8000000 in
set_option maxRecDepth 100000 in
theorem api_Line_22.calls (k : Nat) (A0 : Option Addr) (c0 : Nat) (l0 : List (S37)) (a1 : Int) (r : Bool) (w : World) (hr0 : Kd.C k37 w A0 l0.length l0) (hc0 : l0.length ≤ c0) (hT : Tabs w) (h : api_Line_22.f k l0 a1 = some r) :
    Calls Tryd.prog 22 #[.slice A0 l0.length c0, (.func (.func 23) #[] #[])] w fun e w' => e = .returned (.bool r) ∧ Below w.heap.size w w' := by
  have HR0 := am hr0; have HC0 := am hc0; clear hr0 hc0; have HT := am hT; clear hT; have HB := am (Below.refl w.heap.size w); have H : ((api_Line_33.f k l0 a1).bind fun t124 => (some (decide (t124 ≥ 0)))) = some r := h; clear h; replace H := obm H; obtain ⟨t124, A30, H⟩ := H; replace H : (some (decide (t124 ≥ 0))) = some r := H; have A3 := am A30; clear A30; obtain rfl := Option.some.inj H; simp only [Option.some.injEq, Prod.mk.injEq] at H; obtain ⟨rfl⟩ := H
  go_enter Tryd.func22, Tryd.ntmps22
  go_wp2_with (first | ((with_reducible refine gate_callee (f := 33) rfl ?_); refine goesL_ (some 7) rfl rfl Tryd.func33 (by kernel_rfl) rfl #[.slice A0 l0.length c0, (.func (.func 23) #[] #[])] rfl ap1 ?_; (with_reducible refine (api_Line_33.calls k _ _ l0 a1 t124 _ ?side1 ?side2 ?side3 A3.out).mono ?_); (case side1 => repeat (first | exact HR0.out | (with_reducible refine Kd.C_alloc ?_ _) | (with_reducible refine Kd.C_drewN ?_ _) | (with_reducible refine Kd.C_drew ?_))); (case side2 => exact HC0.out); (case side3 => first | (with_reducible exact HT.out) | exact Tabs.below HT.out (beu HB.out)); rintro e w4 ⟨rfl, hb⟩; refine ⟨_, rfl, ?_⟩; have _ := am (below_step (beu HB.out) hb); clear HB; rename_i HB; (try clear hb)))
  go_ret
  exact ⟨ap4, beu HB.out⟩
def api_Line_25.l0 : Nat → List (S37) → Int → Int → Int → ByteArray → Int → Int → Option (Int × Bool)
  | 0, _, _, _, _, _, _, _ => none
  | k + 1, x0, x8, x9, x10, X0, X1, X2 => if x9 < x10 then (if 0 ≤ (wrap64 ((IntKind.u64.wrap (wrap64 (x9 + x10))) / 2)) then (if (wrap64 ((IntKind.u64.wrap (wrap64 (x9 + x10))) / 2)) < (x0.length : Int) then ((lines_bySku.f ((rd_T37 x0 (wrap64 ((IntKind.u64.wrap (wrap64 (x9 + x10))) / 2))).f0) ((rd_T37 x0 (wrap64 ((IntKind.u64.wrap (wrap64 (x9 + x10))) / 2))).f1) ((rd_T37 x0 (wrap64 ((IntKind.u64.wrap (wrap64 (x9 + x10))) / 2))).f2) X0 X1 X2).bind fun t127 => (if t127 < 0 then (api_Line_25.l0 k x0 x8 (wrap64 ((wrap64 ((IntKind.u64.wrap (wrap64 (x9 + x10))) / 2)) + 1)) x10 X0 X1 X2) else (api_Line_25.l0 k x0 x8 x9 (wrap64 ((IntKind.u64.wrap (wrap64 (x9 + x10))) / 2)) X0 X1 X2))) else (none)) else (none)) else (if x9 < x8 then (if 0 ≤ x9 then (if x9 < (x0.length : Int) then ((lines_bySku.f ((rd_T37 x0 x9).f0) ((rd_T37 x0 x9).f1) ((rd_T37 x0 x9).f2) X0 X1 X2).bind fun t129 => (some (x9, (t129 == 0)))) else (none)) else (none)) else (some (x9, false)))
def api_Line_25.f (k : Nat) (l0 : List (S37)) (a1_0 : ByteArray) (a1_1 : Int) (a1_2 : Int) (a2 : Int) : Option (Int × Bool) := api_Line_25.l0 k l0 (l0.length : Int) 0 (l0.length : Int) a1_0 a1_1 a1_2
theorem api_Line_25.mono_l : ∀ k, (∀ y0 y1 y2 y3 y4 y5 y6, LeO (api_Line_25.l0 k y0 y1 y2 y3 y4 y5 y6) (api_Line_25.l0 (k + 1) y0 y1 y2 y3 y4 y5 y6))
  | 0 => fun _ _ _ _ _ _ _ r h => by simp [api_Line_25.l0] at h
  | k + 1 => by
    have ih0 := api_Line_25.mono_l k
    · intro y0 y1 y2 y3 y4 y5 y6
      unfold api_Line_25.l0
      repeat' first
      | (with_reducible exact ih0 _ _ _ _ _ _ _)
      | (with_reducible exact LeO.refl _)
      | (with_reducible exact LeO.none _)
      | (with_reducible refine LeO.ite ?_ ?_)
      | (with_reducible refine LeO.bind ?_ (fun _ => ?_))
      | exact ih0 _ _ _ _ _ _ _
      | exact LeO.none _
      | refine LeO.ite ?_ ?_
      | refine LeO.bind ?_ (fun _ => ?_)
theorem api_Line_25.mono : ∀ a0 a1 a2 a3 a4 k, LeO (api_Line_25.f k a0 a1 a2 a3 a4) (api_Line_25.f (k + 1) a0 a1 a2 a3 a4) := by
  intro a0 a1 a2 a3 a4 k; have ih0 := api_Line_25.mono_l k
  unfold api_Line_25.f
  repeat' first
      | (with_reducible exact ih0 _ _ _ _ _ _ _)
      | (with_reducible exact LeO.refl _)
      | (with_reducible exact LeO.none _)
      | (with_reducible refine LeO.ite ?_ ?_)
      | (with_reducible refine LeO.bind ?_ (fun _ => ?_))
      | exact ih0 _ _ _ _ _ _ _
      | exact LeO.none _
      | refine LeO.ite ?_ ?_
      | refine LeO.bind ?_ (fun _ => ?_)
def api_Line_25.T5 : Bool × List (List Nat × List Nat) := (true, [([], []), ([], []), ([], []), ([1, 2], [1, 2]), ([3], [3]), ([], []), ([0, 4, 5], [0, 4, 5]), ([6], [6])])
def api_Line_25.B5 : List Nat := [0, 0, 0, 6, 14, 0, 63, 127]
theorem api_Line_25.tab5 : rtab .any (opsOf Tryd.f25 5) = api_Line_25.T5 := by kernel_rfl
theorem api_Line_25.bits5 : waitsOk api_Line_25.T5.2 api_Line_25.B5 = true := by kernel_rfl
def api_Line_25.T8 : Bool × List (List Nat × List Nat) := (true, [([], []), ([], []), ([], []), ([1, 2], [1, 2]), ([3], [3]), ([4], [4]), ([4], [4]), ([4], [4]), ([6, 7, 4], [4, 6, 7]), ([8, 4], [4, 8]), ([4], [4]), ([5, 9, 10, 4, 4], [4, 5, 9, 10]), ([11, 4], [4, 11]), ([4, 12], [4, 12]), ([0, 11, 0], [0]), ([13, 14, 0, 1, 2, 3, 4, 5, 6, 7, 8, 9, 10, 11, 12, 13, 14], [13])])
def api_Line_25.B8 : List Nat := [0, 0, 0, 6, 14, 30, 30, 30, 222, 478, 30, 2046, 4094, 8190, 4095, 32767]
theorem api_Line_25.tab8 : rtab .any (opsOf Tryd.f25 8) = api_Line_25.T8 := by kernel_rfl
theorem api_Line_25.bits8 : waitsOk api_Line_25.T8.2 api_Line_25.B8 = true := by kernel_rfl
set_option maxHeartbeats 8000000 in
set_option maxRecDepth 100000 in
theorem api_Line_25.calls (k : Nat) (A0 : Option Addr) (c0 : Nat) (l0 : List (S37)) (a1_0 : ByteArray) (a1_1 : Int) (a1_2 : Int) (a2 : Int) (r1 : Int) (r2 : Bool) (w : World) (hr0 : Kd.C k37 w A0 l0.length l0) (hc0 : l0.length ≤ c0) (h : api_Line_25.f k l0 a1_0 a1_1 a1_2 a2 = some (r1, r2)) :
    Calls Tryd.prog 25 #[.slice A0 l0.length c0, .agg #[.string a1_0, .int .i64 a1_1, .int .i64 a1_2], (.func (.func 26) #[] #[])] w fun e w' => e = .returned (.tuple #[.int .i64 r1, .bool r2]) ∧ Below w.heap.size w w' := by
  have hu37 := Tryd.underlying37; have HR0 := am hr0; have HC0 := am hc0; clear hr0 hc0; have HB := am (Below.refl w.heap.size w); have H : (api_Line_25.l0 k l0 (l0.length : Int) 0 (l0.length : Int) a1_0 a1_1 a1_2) = some (r1, r2) := h; clear h; have H' := am H; clear H
  go_enter Tryd.func25, Tryd.ntmps25
  go_wp2_with (first | ((with_reducible refine gate_dst (N := 4) rfl ?_); refine box_event ?hg (N := 4) ?hd (cs := #[.string a1_0, .int .i64 a1_1, .int .i64 a1_2]) (t := 37) ?hr ?_; (case hd => rfl); (case hg => rfl); (case hr => first | (go_simp; done) | (go_simp; rfl)); intro gb125 hg w4 hbox hb; have _ := am (below_step (beu HB.out) hb); have _ := am (hbox); have _ := am ((by rw [hg]; exact (below_size (beu HB.out)) : w.heap.size ≤ gb125)); have _ := am ((by rw [hg]; exact (below_size (beu HB.out)) : w.heap.size ≤ gb125)); clear HB; rename_i HB BK125 GW125 GE125; clear hb hbox hg))
  go_loopg [9, 10] k (fun kq v9 v10 w' => ∃ (x9_1 : Int) (x10_1 : Int), v9 = .int .i64 x9_1 ∧ v10 = .int .i64 x10_1 ∧ Aside0 (api_Line_25.l0 kq l0 (l0.length : Int) x9_1 x10_1 a1_0 a1_1 a1_2 = some (r1, r2)) ∧ Aside0 (kq ≤ k) ∧ Aside0 (w'.heap[gb125]? = some (.cells #[.string a1_0, .int .i64 a1_1, .int .i64 a1_2] 37 (0, 0))) ∧ Aside0 (Below w.heap.size w w'))
  case atStart => exact ⟨(0), ((l0.length : Int)), ap3, ap3, H', ⟨Nat.le_refl _⟩, ⟨by refine bu ?_; exact BK125.out⟩, ⟨beu HB.out⟩⟩
  case round =>
    clear H'; (try clear c2); (try clear p2); obtain ⟨x9_1, x10_1, rfl, rfl, HA, HK1, BK125, HB⟩ := hrel
    cases gk with
    | zero => exact absurd HA.out (by simp [api_Line_25.l0])
    | succ k1 =>
      have H := HA.out; clear HA; simp only [api_Line_25.l0] at H
      by_cases c5 : x9_1 < x10_1
      · rw [if_pos c5] at H
        have c5b0 : decide (x9_1 < x10_1) = true := decide_eq_true c5; clear c5; obtain ⟨ji6, hji6⟩ : ∃ j_ : Int, (wrap64 ((IntKind.u64.wrap (wrap64 (x9_1 + x10_1))) / 2)) = j_ := ⟨_, rfl⟩
        replace H : (if 0 ≤ (ji6) then (if (ji6) < (l0.length : Int) then ((lines_bySku.f ((rd_T37 l0 (ji6)).f0) ((rd_T37 l0 (ji6)).f1) ((rd_T37 l0 (ji6)).f2) a1_0 a1_1 a1_2).bind fun t127 => (if t127 < 0 then (api_Line_25.l0 k1 l0 (l0.length : Int) (wrap64 ((ji6) + 1)) x10_1 a1_0 a1_1 a1_2) else (api_Line_25.l0 k1 l0 (l0.length : Int) x9_1 ji6 a1_0 a1_1 a1_2))) else (none)) else (none)) = some (r1, r2) := by first | (rw [hji6] at H; exact H) | (simp only [hji6] at H ⊢; exact H)
        have hji6w : (IntKind.i64.wrap ((IntKind.u64.wrap (wrap64 (x9_1 + x10_1))) / 2)) = ji6 := (i64_w _).trans hji6
        by_cases c7 : 0 ≤ (ji6)
        · rw [if_pos c7] at H
          have c7b0 : decide (0 ≤ (ji6)) = true := decide_eq_true c7; clear c7
          by_cases c8 : (ji6) < (l0.length : Int)
          · rw [if_pos c8] at H
            have c8b0 : decide ((ji6) < (l0.length : Int)) = true := decide_eq_true c8; clear c8; replace H := obm H; obtain ⟨t127, A90, H⟩ := H; replace H : (if t127 < 0 then (api_Line_25.l0 k1 l0 (l0.length : Int) (wrap64 ((ji6) + 1)) x10_1 a1_0 a1_1 a1_2) else (api_Line_25.l0 k1 l0 (l0.length : Int) x9_1 ji6 a1_0 a1_1 a1_2)) = some (r1, r2) := H; have A9 := am A90; clear A90
            by_cases c10 : t127 < 0
            · rw [if_pos c10] at H
              have c10b0 : decide (t127 < 0) = true := decide_eq_true c10; clear c10; have H' := am H; clear H
              try go_wp2
              (try (rw [drewN_self wr]; generalize hq_ : World.drewN wr _ = wr; have _ := am (blk_at hq_ BK125.out); have _ := am (below_at hq_ HB.out); clear hq_ BK125 HB; rename_i BK125 HB))
              have n0_ := am (blk_drew BK125.out); have n1_ := am (below_drew1 HB.out); clear BK125 HB; have BK125 := n0_; have HB := n1_; clear n0_ n1_; have p126 : 0 ≤ ((ji6) : Int) := of_decide_eq_true ap2; have q126 : (ji6) < (l0.length : Int) := of_decide_eq_true ap2; obtain ⟨ad126, e126, hx126_0, hx126_1, hx126_2⟩ := at_T37 HR0.out (ji6) p126 q126; have hw126_2 := hx126_2; have hw126_1 := hx126_1; have hw126_0 := hx126_0
              cases e126
              replace hx126_0 := (HB.out.cell (World.block_lt_of_cell? w _ hx126_0)).trans hx126_0; replace hx126_1 := (HB.out.cell (World.block_lt_of_cell? w _ hx126_1)).trans hx126_1; replace hx126_2 := (HB.out.cell (World.block_lt_of_cell? w _ hx126_2)).trans hx126_2; replace p126 := eq_true p126; replace q126 := eq_true q126
              refine start_ (n := 8) (S := fun w' => w'.cell? ⟨gb125, 0, none⟩ = some (.string a1_0) ∧ w'.cell? ⟨gb125, 1, none⟩ = some (.int .i64 a1_1) ∧ w'.cell? ⟨gb125, 2, none⟩ = some (.int .i64 a1_2) ∧ w'.cell? (ad126.add (((ji6)).toNat * 3)) = some (.string ((rd_T37 l0 (ji6)).f0)) ∧ w'.cell? ⟨(ad126.add (((ji6)).toNat * 3)).block, (ad126.add (((ji6)).toNat * 3)).off + 1, none⟩ = some (.int .i64 ((rd_T37 l0 (ji6)).f1)) ∧ w'.cell? ⟨(ad126.add (((ji6)).toNat * 3)).block, (ad126.add (((ji6)).toNat * 3)).off + 2, none⟩ = some (.int .i64 ((rd_T37 l0 (ji6)).f2))) (ds := []) #[false, false, false, false, false, false, false, false] (by kernel_rfl) rfl rfl ⟨(blk_cell BK125.out 0).trans rfl, (blk_cell BK125.out 1).trans rfl, (blk_cell BK125.out 2).trans rfl, ((HB.out.cell (World.block_lt_of_cell? w _ hw126_0)).trans hw126_0), ((HB.out.cell (World.block_lt_of_cell? w _ hw126_1)).trans hw126_1), ((HB.out.cell (World.block_lt_of_cell? w _ hw126_2)).trans hw126_2)⟩ (fun hHeld => ?_); refine with_tabW api_Line_25.tab5 api_Line_25.bits5 (fun HT_ HW_ => ?_)
              generalize wr.drew = w11 at BK125 HB hx126_0 hx126_1 hx126_2 hHeld ⊢; refine pure_ (i := 0) (N := some 24) (v := ?_) (a' := ?_) (bs 8 1) rfl rfl (ak HT_.out) (fun _ _ _ h => h) (Or.inl ⟨by rfl, ?_⟩) ?_ ?_; rotate_left
              · intro w'
                go_simp
                with_reducible rfl
              rotate_left
              · simp only [Act.put, sA, sB, sC, i64_w, i32_w]
                rfl
              refine pure_ (i := 1) (N := some 25) (v := ?_) (a' := ?_) (bs 8 3) rfl rfl (ak HT_.out) (fun _ _ _ h => h) (Or.inl ⟨by rfl, ?_⟩) ?_ ?_; rotate_left
              · intro w'
                go_simp
                with_reducible rfl
              rotate_left
              · simp only [Act.put, sA, sB, sC, i64_w, i32_w]
                rfl
              refine pure_ (i := 2) (N := some 26) (v := ?_) (a' := ?_) (bs 8 7) rfl rfl (ak HT_.out) (fun _ _ _ h => h) (Or.inl ⟨by rfl, ?_⟩) ?_ ?_; rotate_left
              · intro w'
                go_simp
                with_reducible rfl
              rotate_left
              · simp only [Act.put, sA, sB, sC, i64_w, i32_w]
                rfl
              refine pure_ (i := 3) (N := some 27) (v := ?_) (a' := ?_) (bs 8 15) rfl rfl (ak HT_.out) (fun _ _ _ h => h) (Or.inl ⟨by rfl, ?_⟩) ?_ ?_; rotate_left
              · intro w'
                go_simp
                with_reducible rfl
              rotate_left
              · simp only [Act.put, sA, sB, sC, i64_w, i32_w]
                rfl
              refine take_ (i := 4) (N := some 28) (v := ?_) (a' := ?_) (bs 8 31) rfl rfl (take_ofW HT_.out HW_.out (by kernel_rfl)) (fun _ _ _ h => h) (Or.inl ⟨by rfl, ?_⟩) hHeld ?_ ?_; rotate_left
              · rintro w' ⟨s0, s1, s2, s3, s4, s5⟩
                go_simp
                with_reducible rfl
              rotate_left
              · simp only [Act.put, sA, sB, sC, i64_w, i32_w]
                rfl
              refine take_ (i := 5) (N := some 29) (v := ?_) (a' := ?_) (bs 8 63) rfl rfl (take_ofW HT_.out HW_.out (by kernel_rfl)) (fun _ _ _ h => h) (Or.inl ⟨by rfl, ?_⟩) hHeld ?_ ?_; rotate_left
              · rintro w' ⟨s0, s1, s2, s3, s4, s5⟩
                go_simp
                with_reducible rfl
              rotate_left
              · simp only [Act.put, sA, sB, sC, i64_w, i32_w]
                rfl
              refine one_ (i := 6) (N := some 30) (bs 8 127) rfl rfl (one_of HT_.out (by kernel_rfl)) (by decide) (fun K hK => ?_); refine goesRd_ (.tmp 24) (by first | rfl | (simp [Act.eval, Act.put])) Tryd.func26 (by kernel_rfl) rfl #[.agg #[.string ((rd_T37 l0 (ji6)).f0), .int .i64 ((rd_T37 l0 (ji6)).f1), .int .i64 ((rd_T37 l0 (ji6)).f2)], .agg #[.string a1_0, .int .i64 a1_1, .int .i64 a1_2]] (by rfl) rfl rfl (by (try simp only [List.map_toArray, List.map_cons, List.map_nil]); first | done | (simp only [hji6]; rfl) | rfl | (simp only [List.length_drop, List.length_take]; rfl)) ?_; with_reducible refine (lines_bySku.calls ((rd_T37 l0 (ji6)).f0) ((rd_T37 l0 (ji6)).f1) ((rd_T37 l0 (ji6)).f2) a1_0 a1_1 a1_2 t127 _ A9.out).mono ?_; rintro e w12 ⟨rfl, hb⟩; refine ⟨_, rfl, ?_⟩; have n0_ := am (blk_below (bu BK125.out) hb); have n1_ := am (below_step (beu HB.out) hb); clear BK125 HB; have BK125 := n0_; have HB := n1_; clear n0_ n1_
              (try clear hb)
              (try clear hb2)
              (try clear hk)
              (try clear hi)
              refine hK.out _ _ ⟨(blk_cell BK125.out 0).trans rfl, (blk_cell BK125.out 1).trans rfl, (blk_cell BK125.out 2).trans rfl, ((HB.out.cell (World.block_lt_of_cell? w _ hw126_0)).trans hw126_0), ((HB.out.cell (World.block_lt_of_cell? w _ hw126_1)).trans hw126_1), ((HB.out.cell (World.block_lt_of_cell? w _ hw126_2)).trans hw126_2)⟩ (fun hHeld => ?_); clear hK K; refine norm_ (a' := ?_) ?_ ?_; rotate_left
              · show Act.put _ (some 30) _ = _
                simp only [Act.put, sA, sB, sC, i64_w, i32_w]
                rfl
              refine pure_ (i := 7) (N := some 31) (v := ?_) (a' := ?_) (bs 8 255) rfl rfl (ak HT_.out) (fun _ _ _ h => h) (Or.inl ⟨by rfl, ?_⟩) ?_ ?_; rotate_left
              · intro w'
                go_simp
                with_reducible rfl
              rotate_left
              · simp only [Act.put, sA, sB, sC, i64_w, i32_w]
                rfl
              refine done_ (done_of HT_.out (by kernel_rfl)) ?_
              try go_wp2
              go_roundg k1
              case measure => have := HK1.out; omega
              case rel => exact ⟨(wrap64 ((ji6) + 1)), (x10_1), (by first | rfl | (simp; done) | (simp only [← hji6] <;> (first | rfl | simp)) | (simp [*]; done)), ap3, H', ⟨by have := HK1.out; omega⟩, ⟨by refine bu ?_; exact BK125.out⟩, ⟨beu HB.out⟩⟩
            · rw [if_neg c10] at H
              have c10b0 : decide (t127 < 0) = false := decide_eq_false c10; clear c10; have H' := am H; clear H
              try go_wp2
              (try (rw [drewN_self wr]; generalize hq_ : World.drewN wr _ = wr; have _ := am (blk_at hq_ BK125.out); have _ := am (below_at hq_ HB.out); clear hq_ BK125 HB; rename_i BK125 HB))
              have n0_ := am (blk_drew BK125.out); have n1_ := am (below_drew1 HB.out); clear BK125 HB; have BK125 := n0_; have HB := n1_; clear n0_ n1_; have p126 : 0 ≤ ((ji6) : Int) := of_decide_eq_true ap2; have q126 : (ji6) < (l0.length : Int) := of_decide_eq_true ap2; obtain ⟨ad126, e126, hx126_0, hx126_1, hx126_2⟩ := at_T37 HR0.out (ji6) p126 q126; have hw126_2 := hx126_2; have hw126_1 := hx126_1; have hw126_0 := hx126_0
              cases e126
              replace hx126_0 := (HB.out.cell (World.block_lt_of_cell? w _ hx126_0)).trans hx126_0; replace hx126_1 := (HB.out.cell (World.block_lt_of_cell? w _ hx126_1)).trans hx126_1; replace hx126_2 := (HB.out.cell (World.block_lt_of_cell? w _ hx126_2)).trans hx126_2; replace p126 := eq_true p126; replace q126 := eq_true q126
              refine start_ (n := 8) (S := fun w' => w'.cell? ⟨gb125, 0, none⟩ = some (.string a1_0) ∧ w'.cell? ⟨gb125, 1, none⟩ = some (.int .i64 a1_1) ∧ w'.cell? ⟨gb125, 2, none⟩ = some (.int .i64 a1_2) ∧ w'.cell? (ad126.add (((ji6)).toNat * 3)) = some (.string ((rd_T37 l0 (ji6)).f0)) ∧ w'.cell? ⟨(ad126.add (((ji6)).toNat * 3)).block, (ad126.add (((ji6)).toNat * 3)).off + 1, none⟩ = some (.int .i64 ((rd_T37 l0 (ji6)).f1)) ∧ w'.cell? ⟨(ad126.add (((ji6)).toNat * 3)).block, (ad126.add (((ji6)).toNat * 3)).off + 2, none⟩ = some (.int .i64 ((rd_T37 l0 (ji6)).f2))) (ds := []) #[false, false, false, false, false, false, false, false] (by kernel_rfl) rfl rfl ⟨(blk_cell BK125.out 0).trans rfl, (blk_cell BK125.out 1).trans rfl, (blk_cell BK125.out 2).trans rfl, ((HB.out.cell (World.block_lt_of_cell? w _ hw126_0)).trans hw126_0), ((HB.out.cell (World.block_lt_of_cell? w _ hw126_1)).trans hw126_1), ((HB.out.cell (World.block_lt_of_cell? w _ hw126_2)).trans hw126_2)⟩ (fun hHeld => ?_); refine with_tabW api_Line_25.tab5 api_Line_25.bits5 (fun HT_ HW_ => ?_)
              generalize wr.drew = w13 at BK125 HB hx126_0 hx126_1 hx126_2 hHeld ⊢; refine pure_ (i := 0) (N := some 24) (v := ?_) (a' := ?_) (bs 8 1) rfl rfl (ak HT_.out) (fun _ _ _ h => h) (Or.inl ⟨by rfl, ?_⟩) ?_ ?_; rotate_left
              · intro w'
                go_simp
                with_reducible rfl
              rotate_left
              · simp only [Act.put, sA, sB, sC, i64_w, i32_w]
                rfl
              refine pure_ (i := 1) (N := some 25) (v := ?_) (a' := ?_) (bs 8 3) rfl rfl (ak HT_.out) (fun _ _ _ h => h) (Or.inl ⟨by rfl, ?_⟩) ?_ ?_; rotate_left
              · intro w'
                go_simp
                with_reducible rfl
              rotate_left
              · simp only [Act.put, sA, sB, sC, i64_w, i32_w]
                rfl
              refine pure_ (i := 2) (N := some 26) (v := ?_) (a' := ?_) (bs 8 7) rfl rfl (ak HT_.out) (fun _ _ _ h => h) (Or.inl ⟨by rfl, ?_⟩) ?_ ?_; rotate_left
              · intro w'
                go_simp
                with_reducible rfl
              rotate_left
              · simp only [Act.put, sA, sB, sC, i64_w, i32_w]
                rfl
              refine pure_ (i := 3) (N := some 27) (v := ?_) (a' := ?_) (bs 8 15) rfl rfl (ak HT_.out) (fun _ _ _ h => h) (Or.inl ⟨by rfl, ?_⟩) ?_ ?_; rotate_left
              · intro w'
                go_simp
                with_reducible rfl
              rotate_left
              · simp only [Act.put, sA, sB, sC, i64_w, i32_w]
                rfl
              refine take_ (i := 4) (N := some 28) (v := ?_) (a' := ?_) (bs 8 31) rfl rfl (take_ofW HT_.out HW_.out (by kernel_rfl)) (fun _ _ _ h => h) (Or.inl ⟨by rfl, ?_⟩) hHeld ?_ ?_; rotate_left
              · rintro w' ⟨s0, s1, s2, s3, s4, s5⟩
                go_simp
                with_reducible rfl
              rotate_left
              · simp only [Act.put, sA, sB, sC, i64_w, i32_w]
                rfl
              refine take_ (i := 5) (N := some 29) (v := ?_) (a' := ?_) (bs 8 63) rfl rfl (take_ofW HT_.out HW_.out (by kernel_rfl)) (fun _ _ _ h => h) (Or.inl ⟨by rfl, ?_⟩) hHeld ?_ ?_; rotate_left
              · rintro w' ⟨s0, s1, s2, s3, s4, s5⟩
                go_simp
                with_reducible rfl
              rotate_left
              · simp only [Act.put, sA, sB, sC, i64_w, i32_w]
                rfl
              refine one_ (i := 6) (N := some 30) (bs 8 127) rfl rfl (one_of HT_.out (by kernel_rfl)) (by decide) (fun K hK => ?_); refine goesRd_ (.tmp 24) (by first | rfl | (simp [Act.eval, Act.put])) Tryd.func26 (by kernel_rfl) rfl #[.agg #[.string ((rd_T37 l0 (ji6)).f0), .int .i64 ((rd_T37 l0 (ji6)).f1), .int .i64 ((rd_T37 l0 (ji6)).f2)], .agg #[.string a1_0, .int .i64 a1_1, .int .i64 a1_2]] (by rfl) rfl rfl (by (try simp only [List.map_toArray, List.map_cons, List.map_nil]); first | done | (simp only [hji6]; rfl) | rfl | (simp only [List.length_drop, List.length_take]; rfl)) ?_; with_reducible refine (lines_bySku.calls ((rd_T37 l0 (ji6)).f0) ((rd_T37 l0 (ji6)).f1) ((rd_T37 l0 (ji6)).f2) a1_0 a1_1 a1_2 t127 _ A9.out).mono ?_; rintro e w14 ⟨rfl, hb⟩; refine ⟨_, rfl, ?_⟩; have n0_ := am (blk_below (bu BK125.out) hb); have n1_ := am (below_step (beu HB.out) hb); clear BK125 HB; have BK125 := n0_; have HB := n1_; clear n0_ n1_
              (try clear hb)
              (try clear hb2)
              (try clear hk)
              (try clear hi)
              refine hK.out _ _ ⟨(blk_cell BK125.out 0).trans rfl, (blk_cell BK125.out 1).trans rfl, (blk_cell BK125.out 2).trans rfl, ((HB.out.cell (World.block_lt_of_cell? w _ hw126_0)).trans hw126_0), ((HB.out.cell (World.block_lt_of_cell? w _ hw126_1)).trans hw126_1), ((HB.out.cell (World.block_lt_of_cell? w _ hw126_2)).trans hw126_2)⟩ (fun hHeld => ?_); clear hK K; refine norm_ (a' := ?_) ?_ ?_; rotate_left
              · show Act.put _ (some 30) _ = _
                simp only [Act.put, sA, sB, sC, i64_w, i32_w]
                rfl
              refine pure_ (i := 7) (N := some 31) (v := ?_) (a' := ?_) (bs 8 255) rfl rfl (ak HT_.out) (fun _ _ _ h => h) (Or.inl ⟨by rfl, ?_⟩) ?_ ?_; rotate_left
              · intro w'
                go_simp
                with_reducible rfl
              rotate_left
              · simp only [Act.put, sA, sB, sC, i64_w, i32_w]
                rfl
              refine done_ (done_of HT_.out (by kernel_rfl)) ?_
              try go_wp2
              go_roundg k1
              case measure => have := HK1.out; omega
              case rel => exact ⟨(x9_1), (ji6), ap3, (by first | rfl | (simp; done) | (simp only [← hji6] <;> (first | rfl | simp)) | (simp [*]; done)), H', ⟨by have := HK1.out; omega⟩, ⟨by refine bu ?_; exact BK125.out⟩, ⟨beu HB.out⟩⟩
          · rw [if_neg c8] at H
            exact absurd H (by simp)
        · rw [if_neg c7] at H
          exact absurd H (by simp)
      · rw [if_neg c5] at H
        have c5b0 : decide (x9_1 < x10_1) = false := decide_eq_false c5; clear c5
        by_cases c15 : x9_1 < (l0.length : Int)
        · rw [if_pos c15] at H
          have c15b0 : decide (x9_1 < (l0.length : Int)) = true := decide_eq_true c15; clear c15
          by_cases c16 : 0 ≤ x9_1
          · rw [if_pos c16] at H
            have c16b0 : decide (0 ≤ x9_1) = true := decide_eq_true c16; clear c16
            by_cases c17 : x9_1 < (l0.length : Int)
            · rw [if_pos c17] at H
              have c17b0 : decide (x9_1 < (l0.length : Int)) = true := decide_eq_true c17; clear c17; replace H := obm H; obtain ⟨t129, A180, H⟩ := H; replace H : (some (x9_1, (t129 == 0))) = some (r1, r2) := H; have A18 := am A180; clear A180; simp only [Option.some.injEq, Prod.mk.injEq] at H; obtain ⟨rfl, rfl⟩ := H
              try go_wp2
              (try (rw [drewN_self wr]; generalize hq_ : World.drewN wr _ = wr; have _ := am (blk_at hq_ BK125.out); have _ := am (below_at hq_ HB.out); clear hq_ BK125 HB; rename_i BK125 HB))
              have n0_ := am (blk_drew BK125.out); have n1_ := am (below_drew1 HB.out); clear BK125 HB; have BK125 := n0_; have HB := n1_; clear n0_ n1_; have p128 : 0 ≤ (x9_1 : Int) := of_decide_eq_true ap2; have q128 : x9_1 < (l0.length : Int) := of_decide_eq_true ap2; obtain ⟨ad128, e128, hx128_0, hx128_1, hx128_2⟩ := at_T37 HR0.out x9_1 p128 q128; have hw128_2 := hx128_2; have hw128_1 := hx128_1; have hw128_0 := hx128_0
              cases e128
              replace hx128_0 := (HB.out.cell (World.block_lt_of_cell? w _ hx128_0)).trans hx128_0; replace hx128_1 := (HB.out.cell (World.block_lt_of_cell? w _ hx128_1)).trans hx128_1; replace hx128_2 := (HB.out.cell (World.block_lt_of_cell? w _ hx128_2)).trans hx128_2; replace p128 := eq_true p128; replace q128 := eq_true q128
              refine start_ (n := 16) (S := fun w' => w'.cell? ⟨gb125, 0, none⟩ = some (.string a1_0) ∧ w'.cell? ⟨gb125, 1, none⟩ = some (.int .i64 a1_1) ∧ w'.cell? ⟨gb125, 2, none⟩ = some (.int .i64 a1_2) ∧ w'.cell? (ad128.add ((x9_1).toNat * 3)) = some (.string ((rd_T37 l0 x9_1).f0)) ∧ w'.cell? ⟨(ad128.add ((x9_1).toNat * 3)).block, (ad128.add ((x9_1).toNat * 3)).off + 1, none⟩ = some (.int .i64 ((rd_T37 l0 x9_1).f1)) ∧ w'.cell? ⟨(ad128.add ((x9_1).toNat * 3)).block, (ad128.add ((x9_1).toNat * 3)).off + 2, none⟩ = some (.int .i64 ((rd_T37 l0 x9_1).f2))) (ds := []) #[false, false, false, false, false, false, false, false, false, false, false, false, false, false, false, false] (by kernel_rfl) rfl rfl ⟨(blk_cell BK125.out 0).trans rfl, (blk_cell BK125.out 1).trans rfl, (blk_cell BK125.out 2).trans rfl, ((HB.out.cell (World.block_lt_of_cell? w _ hw128_0)).trans hw128_0), ((HB.out.cell (World.block_lt_of_cell? w _ hw128_1)).trans hw128_1), ((HB.out.cell (World.block_lt_of_cell? w _ hw128_2)).trans hw128_2)⟩ (fun hHeld => ?_); refine with_tabW api_Line_25.tab8 api_Line_25.bits8 (fun HT_ HW_ => ?_)
              generalize wr.drew = w19 at BK125 HB hx128_0 hx128_1 hx128_2 hHeld ⊢; refine pure_ (i := 0) (N := some 35) (v := ?_) (a' := ?_) (bs 16 1) rfl rfl (ak HT_.out) (fun _ _ _ h => h) (Or.inl ⟨by rfl, ?_⟩) ?_ ?_; rotate_left
              · intro w'
                go_simp
                with_reducible rfl
              rotate_left
              · simp only [Act.put, sA, sB, sC, i64_w, i32_w]
                rfl
              refine pure_ (i := 1) (N := some 36) (v := ?_) (a' := ?_) (bs 16 3) rfl rfl (ak HT_.out) (fun _ _ _ h => h) (Or.inl ⟨by rfl, ?_⟩) ?_ ?_; rotate_left
              · intro w'
                go_simp
                with_reducible rfl
              rotate_left
              · simp only [Act.put, sA, sB, sC, i64_w, i32_w]
                rfl
              refine pure_ (i := 2) (N := some 37) (v := ?_) (a' := ?_) (bs 16 7) rfl rfl (ak HT_.out) (fun _ _ _ h => h) (Or.inl ⟨by rfl, ?_⟩) ?_ ?_; rotate_left
              · intro w'
                go_simp
                with_reducible rfl
              rotate_left
              · simp only [Act.put, sA, sB, sC, i64_w, i32_w]
                rfl
              refine pure_ (i := 3) (N := some 38) (v := ?_) (a' := ?_) (bs 16 15) rfl rfl (ak HT_.out) (fun _ _ _ h => h) (Or.inl ⟨by rfl, ?_⟩) ?_ ?_; rotate_left
              · intro w'
                go_simp
                with_reducible rfl
              rotate_left
              · simp only [Act.put, sA, sB, sC, i64_w, i32_w]
                rfl
              refine pure_ (i := 4) (N := some 39) (v := ?_) (a' := ?_) (bs 16 31) rfl rfl (ak HT_.out) (fun _ _ _ h => h) (Or.inl ⟨by rfl, ?_⟩) ?_ ?_; rotate_left
              · intro w'
                go_simp
                with_reducible rfl
              rotate_left
              · simp only [Act.put, sA, sB, sC, i64_w, i32_w]
                rfl
              refine pure_ (i := 5) (N := some 40) (v := ?_) (a' := ?_) (bs 16 63) rfl rfl (ak HT_.out) (fun _ _ _ h => h) (Or.inl ⟨by rfl, ?_⟩) ?_ ?_; rotate_left
              · intro w'
                go_simp
                with_reducible rfl
              rotate_left
              · simp only [Act.put, sA, sB, sC, i64_w, i32_w]
                rfl
              refine pure_ (i := 6) (N := some 41) (v := ?_) (a' := ?_) (bs 16 127) rfl rfl (ak HT_.out) (fun _ _ _ h => h) (Or.inl ⟨by rfl, ?_⟩) ?_ ?_; rotate_left
              · intro w'
                go_simp
                with_reducible rfl
              rotate_left
              · simp only [Act.put, sA, sB, sC, i64_w, i32_w]
                rfl
              refine pure_ (i := 7) (N := some 42) (v := ?_) (a' := ?_) (bs 16 255) rfl rfl (ak HT_.out) (fun _ _ _ h => h) (Or.inl ⟨by rfl, ?_⟩) ?_ ?_; rotate_left
              · intro w'
                go_simp
                with_reducible rfl
              rotate_left
              · simp only [Act.put, sA, sB, sC, i64_w, i32_w]
                rfl
              refine pure_ (i := 8) (N := some 43) (v := ?_) (a' := ?_) (bs 16 511) rfl rfl (ak HT_.out) (fun _ _ _ h => h) (Or.inl ⟨by rfl, ?_⟩) ?_ ?_; rotate_left
              · intro w'
                go_simp
                with_reducible rfl
              rotate_left
              · simp only [Act.put, sA, sB, sC, i64_w, i32_w]
                rfl
              refine take_ (i := 9) (N := some 44) (v := ?_) (a' := ?_) (bs 16 1023) rfl rfl (take_ofW HT_.out HW_.out (by kernel_rfl)) (fun _ _ _ h => h) (Or.inl ⟨by rfl, ?_⟩) hHeld ?_ ?_; rotate_left
              · rintro w' ⟨s0, s1, s2, s3, s4, s5⟩
                go_simp
                with_reducible rfl
              rotate_left
              · simp only [Act.put, sA, sB, sC, i64_w, i32_w]
                rfl
              refine take_ (i := 10) (N := some 45) (v := ?_) (a' := ?_) (bs 16 2047) rfl rfl (take_ofW HT_.out HW_.out (by kernel_rfl)) (fun _ _ _ h => h) (Or.inl ⟨by rfl, ?_⟩) hHeld ?_ ?_; rotate_left
              · rintro w' ⟨s0, s1, s2, s3, s4, s5⟩
                go_simp
                with_reducible rfl
              rotate_left
              · simp only [Act.put, sA, sB, sC, i64_w, i32_w]
                rfl
              refine one_ (i := 11) (N := some 46) (bs 16 4095) rfl rfl (one_of HT_.out (by kernel_rfl)) (by decide) (fun K hK => ?_); refine goesRd_ (.tmp 40) (by first | rfl | (simp [Act.eval, Act.put])) Tryd.func26 (by kernel_rfl) rfl #[.agg #[.string ((rd_T37 l0 x9_1).f0), .int .i64 ((rd_T37 l0 x9_1).f1), .int .i64 ((rd_T37 l0 x9_1).f2)], .agg #[.string a1_0, .int .i64 a1_1, .int .i64 a1_2]] (by rfl) rfl rfl ap1 ?_; with_reducible refine (lines_bySku.calls ((rd_T37 l0 x9_1).f0) ((rd_T37 l0 x9_1).f1) ((rd_T37 l0 x9_1).f2) a1_0 a1_1 a1_2 t129 _ A18.out).mono ?_; rintro e w20 ⟨rfl, hb⟩; refine ⟨_, rfl, ?_⟩; have n0_ := am (blk_below (bu BK125.out) hb); have n1_ := am (below_step (beu HB.out) hb); clear BK125 HB; have BK125 := n0_; have HB := n1_; clear n0_ n1_
              (try clear hb)
              (try clear hb2)
              (try clear hk)
              (try clear hi)
              refine hK.out _ _ ⟨(blk_cell BK125.out 0).trans rfl, (blk_cell BK125.out 1).trans rfl, (blk_cell BK125.out 2).trans rfl, ((HB.out.cell (World.block_lt_of_cell? w _ hw128_0)).trans hw128_0), ((HB.out.cell (World.block_lt_of_cell? w _ hw128_1)).trans hw128_1), ((HB.out.cell (World.block_lt_of_cell? w _ hw128_2)).trans hw128_2)⟩ (fun hHeld => ?_); clear hK K; refine norm_ (a' := ?_) ?_ ?_; rotate_left
              · show Act.put _ (some 46) _ = _
                simp only [Act.put, sA, sB, sC, i64_w, i32_w]
                rfl
              refine pure_ (i := 12) (N := some 47) (v := ?_) (a' := ?_) (bs 16 8191) rfl rfl (ak HT_.out) (fun _ _ _ h => h) (Or.inl ⟨by rfl, ?_⟩) ?_ ?_; rotate_left
              · intro w'
                go_simp
                with_reducible rfl
              rotate_left
              · simp only [Act.put, sA, sB, sC, i64_w, i32_w]
                rfl
              refine pure_ (i := 13) (N := some 48) (v := ?_) (a' := ?_) (bs 16 16383) rfl rfl (ak HT_.out) (fun _ _ _ h => h) (Or.inl ⟨by rfl, ?_⟩) ?_ ?_; rotate_left
              · intro w'
                go_simp
                with_reducible rfl
              rotate_left
              · simp only [Act.put, sA, sB, sC, i64_w, i32_w]
                rfl
              refine pure_ (i := 14) (N := some 6) (v := ?_) (a' := ?_) (bs 16 32767) rfl rfl (ak HT_.out) (fun _ _ _ h => h) (Or.inl ⟨by rfl, ?_⟩) ?_ ?_; rotate_left
              · intro w'
                go_simp
                with_reducible rfl
              rotate_left
              · simp only [Act.put, sA, sB, sC, i64_w, i32_w]
                rfl
              refine pure_ (i := 15) (N := some 7) (v := ?_) (a' := ?_) (bs 16 65535) rfl rfl (ak HT_.out) (fun _ _ _ h => h) (Or.inl ⟨by rfl, ?_⟩) ?_ ?_; rotate_left
              · intro w'
                go_simp
                with_reducible rfl
              rotate_left
              · simp only [Act.put, sA, sB, sC, i64_w, i32_w]
                rfl
              refine done_ (done_of HT_.out (by kernel_rfl)) ?_
              try go_wp2
              go_ret2
              exact ⟨ap4, beu HB.out⟩
            · rw [if_neg c17] at H
              exact absurd H (by simp)
          · rw [if_neg c16] at H
            exact absurd H (by simp)
        · rw [if_neg c15] at H
          have c15b0 : decide (x9_1 < (l0.length : Int)) = false := decide_eq_false c15; clear c15; simp only [Option.some.injEq, Prod.mk.injEq] at H; obtain ⟨rfl, rfl⟩ := H
          try go_wp2
          (try (rw [drewN_self wr]; generalize hq_ : World.drewN wr _ = wr; have _ := am (blk_at hq_ BK125.out); have _ := am (below_at hq_ HB.out); clear hq_ BK125 HB; rename_i BK125 HB))
          have n0_ := am (blk_drew BK125.out); have n1_ := am (below_drew1 HB.out); clear BK125 HB; have BK125 := n0_; have HB := n1_; clear n0_ n1_
          refine start_ (n := 16) (S := fun w' => True) (ds := []) #[false, false, false, false, false, false, false, false, false, false, false, false, false, false, false, false] (by kernel_rfl) rfl rfl trivial (fun hHeld => ?_); refine with_tabW api_Line_25.tab8 api_Line_25.bits8 (fun HT_ HW_ => ?_)
          generalize wr.drew = w21 at BK125 HB hHeld ⊢; refine pure_ (i := 0) (N := some 35) (v := ?_) (a' := ?_) (bs 16 1) rfl rfl (ak HT_.out) (fun _ _ _ h => h) (Or.inl ⟨by rfl, ?_⟩) ?_ ?_; rotate_left
          · intro w'
            go_simp
            with_reducible rfl
          rotate_left
          · simp only [Act.put, sA, sB, sC, i64_w, i32_w]
            rfl
          refine pure_ (i := 1) (N := some 36) (v := ?_) (a' := ?_) (bs 16 3) rfl rfl (ak HT_.out) (fun _ _ _ h => h) (Or.inl ⟨by rfl, ?_⟩) ?_ ?_; rotate_left
          · intro w'
            go_simp
            with_reducible rfl
          rotate_left
          · simp only [Act.put, sA, sB, sC, i64_w, i32_w]
            rfl
          refine pure_ (i := 2) (N := some 37) (v := ?_) (a' := ?_) (bs 16 7) rfl rfl (ak HT_.out) (fun _ _ _ h => h) (Or.inl ⟨by rfl, ?_⟩) ?_ ?_; rotate_left
          · intro w'
            go_simp
            with_reducible rfl
          rotate_left
          · simp only [Act.put, sA, sB, sC, i64_w, i32_w]
            rfl
          refine pure_ (i := 3) (N := some 38) (v := ?_) (a' := ?_) (bs 16 15) rfl rfl (ak HT_.out) (fun _ _ _ h => h) (Or.inl ⟨by rfl, ?_⟩) ?_ ?_; rotate_left
          · intro w'
            go_simp
            with_reducible rfl
          rotate_left
          · simp only [Act.put, sA, sB, sC, i64_w, i32_w]
            rfl
          refine pure_ (i := 4) (N := some 39) (v := ?_) (a' := ?_) (bs 16 31) rfl rfl (ak HT_.out) (fun _ _ _ h => h) (Or.inl ⟨by rfl, ?_⟩) ?_ ?_; rotate_left
          · intro w'
            go_simp
            with_reducible rfl
          rotate_left
          · simp only [Act.put, sA, sB, sC, i64_w, i32_w]
            rfl
          refine pure_ (i := 5) (N := some 40) (v := undef) (a' := ?_) (bs 16 63) rfl rfl (ak HT_.out) (fun _ _ _ h => h) (Or.inr ⟨by rfl, rfl⟩) ?_ ?_; rotate_left
          · simp only [Act.put, sA, sB, sC, i64_w, i32_w]
            rfl
          refine pure_ (i := 6) (N := some 41) (v := undef) (a' := ?_) (bs 16 127) rfl rfl (ak HT_.out) (fun _ _ _ h => h) (Or.inr ⟨by rfl, rfl⟩) ?_ ?_; rotate_left
          · simp only [Act.put, sA, sB, sC, i64_w, i32_w]
            rfl
          refine pure_ (i := 7) (N := some 42) (v := undef) (a' := ?_) (bs 16 255) rfl rfl (ak HT_.out) (fun _ _ _ h => h) (Or.inr ⟨by rfl, rfl⟩) ?_ ?_; rotate_left
          · simp only [Act.put, sA, sB, sC, i64_w, i32_w]
            rfl
          refine pure_ (i := 8) (N := some 43) (v := undef) (a' := ?_) (bs 16 511) rfl rfl (ak HT_.out) (fun _ _ _ h => h) (Or.inr ⟨by rfl, rfl⟩) ?_ ?_; rotate_left
          · simp only [Act.put, sA, sB, sC, i64_w, i32_w]
            rfl
          refine pure_ (i := 9) (N := some 44) (v := undef) (a' := ?_) (bs 16 1023) rfl rfl (ak HT_.out) (fun _ _ _ h => h) (Or.inr ⟨by rfl, rfl⟩) ?_ ?_; rotate_left
          · simp only [Act.put, sA, sB, sC, i64_w, i32_w]
            rfl
          refine pure_ (i := 10) (N := some 45) (v := undef) (a' := ?_) (bs 16 2047) rfl rfl (ak HT_.out) (fun _ _ _ h => h) (Or.inr ⟨by rfl, rfl⟩) ?_ ?_; rotate_left
          · simp only [Act.put, sA, sB, sC, i64_w, i32_w]
            rfl
          refine pure_ (i := 11) (N := some 46) (v := undef) (a' := ?_) (bs 16 4095) rfl rfl (ak HT_.out) (fun _ _ _ h => h) (Or.inr ⟨by rfl, rfl⟩) ?_ ?_; rotate_left
          · simp only [Act.put, sA, sB, sC, i64_w, i32_w]
            rfl
          refine pure_ (i := 12) (N := some 47) (v := undef) (a' := ?_) (bs 16 8191) rfl rfl (ak HT_.out) (fun _ _ _ h => h) (Or.inr ⟨by rfl, rfl⟩) ?_ ?_; rotate_left
          · simp only [Act.put, sA, sB, sC, i64_w, i32_w]
            rfl
          refine pure_ (i := 13) (N := some 48) (v := ?_) (a' := ?_) (bs 16 16383) rfl rfl (ak HT_.out) (fun _ _ _ h => h) (Or.inl ⟨by rfl, ?_⟩) ?_ ?_; rotate_left
          · intro w'
            go_simp
            with_reducible rfl
          rotate_left
          · simp only [Act.put, sA, sB, sC, i64_w, i32_w]
            rfl
          refine pure_ (i := 14) (N := some 6) (v := ?_) (a' := ?_) (bs 16 32767) rfl rfl (ak HT_.out) (fun _ _ _ h => h) (Or.inl ⟨by rfl, ?_⟩) ?_ ?_; rotate_left
          · intro w'
            go_simp
            with_reducible rfl
          rotate_left
          · simp only [Act.put, sA, sB, sC, i64_w, i32_w]
            rfl
          refine pure_ (i := 15) (N := some 7) (v := ?_) (a' := ?_) (bs 16 65535) rfl rfl (ak HT_.out) (fun _ _ _ h => h) (Or.inl ⟨by rfl, ?_⟩) ?_ ?_; rotate_left
          · intro w'
            go_simp
            with_reducible rfl
          rotate_left
          · simp only [Act.put, sA, sB, sC, i64_w, i32_w]
            rfl
          refine done_ (done_of HT_.out (by kernel_rfl)) ?_
          try go_wp2
          go_ret2
          exact ⟨ap4, beu HB.out⟩
end Go.Proofs.YtalcopjlofbfaaaDoor.PAll
