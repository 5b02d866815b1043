
import Derived.Test.YtmcdbjcbfjnfoaaDoorQOrderTakesPAllx0
namespace Go.Proofs.YtmcdbjcbfjnfoaaDoor.PAll
open Go.RowKit Go.Proofs.YtmcdbjcbfjnfoaaDoorW.PrintWords Go.Proofs.YtmcdbjcbfjnfoaaDoorW.PrintLast Go.Proofs.YtmcdbjcbfjnfoaaDoorW.PrintMore
attribute [local go_sem] max2_int max_two
set_option linter.unusedVariables false
set_option linter.unusedSimpArgs false
def label_letter.f (a0 : Int) : Option (Bool) := if 97 ≤ a0 then (if a0 ≤ 122 then (some true) else (if 945 ≤ a0 then (some (decide (a0 ≤ 969))) else (some false))) else (if 945 ≤ a0 then (some (decide (a0 ≤ 969))) else (some false))
set_option maxHeartbeats 8000000 in
set_option maxRecDepth 100000 in
theorem label_letter.calls (a0 : Int) (r : Bool) (w : World) (h : label_letter.f a0 = some r) :
    Calls Tryd.prog 56 #[.int .i32 a0] w fun e w' => e = .returned (.bool r) ∧ Drawn0 w w' := by
  have H : (if 97 ≤ a0 then (if a0 ≤ 122 then (some true) else (if 945 ≤ a0 then (some (decide (a0 ≤ 969))) else (some false))) else (if 945 ≤ a0 then (some (decide (a0 ≤ 969))) else (some false))) = some r := h; clear h
  by_cases c2 : 97 ≤ a0
  · rw [if_pos c2] at H
    have c2b0 : decide (97 ≤ a0) = true := decide_eq_true c2; clear c2
    by_cases c3 : a0 ≤ 122
    · rw [if_pos c3] at H
      have c3b0 : decide (a0 ≤ 122) = true := decide_eq_true c3; clear c3; obtain rfl := Option.some.inj H; simp only [Option.some.injEq, Prod.mk.injEq] at H; obtain ⟨rfl⟩ := H
      go_enter Tryd.func56, Tryd.ntmps56
      go_wp2
      go_ret
      exact ⟨ap3, ap5⟩
    · rw [if_neg c3] at H
      have c3b0 : decide (a0 ≤ 122) = false := decide_eq_false c3; clear c3
      by_cases c4 : 945 ≤ a0
      · rw [if_pos c4] at H
        have c4b0 : decide (945 ≤ a0) = true := decide_eq_true c4; clear c4; obtain rfl := Option.some.inj H; simp only [Option.some.injEq, Prod.mk.injEq] at H; obtain ⟨rfl⟩ := H
        go_enter Tryd.func56, Tryd.ntmps56
        go_wp2
        go_ret
        exact ⟨ap3, ap5⟩
      · rw [if_neg c4] at H
        have c4b0 : decide (945 ≤ a0) = false := decide_eq_false c4; clear c4; obtain rfl := Option.some.inj H; simp only [Option.some.injEq, Prod.mk.injEq] at H; obtain ⟨rfl⟩ := H
        go_enter Tryd.func56, Tryd.ntmps56
        go_wp2
        go_ret
        exact ⟨ap3, ap5⟩
  · rw [if_neg c2] at H
    have c2b0 : decide (97 ≤ a0) = false := decide_eq_false c2; clear c2
    by_cases c5 : 945 ≤ a0
    · rw [if_pos c5] at H
      have c5b0 : decide (945 ≤ a0) = true := decide_eq_true c5; clear c5; obtain rfl := Option.some.inj H; simp only [Option.some.injEq, Prod.mk.injEq] at H; obtain ⟨rfl⟩ := H
      go_enter Tryd.func56, Tryd.ntmps56
      go_wp2
      go_ret
      exact ⟨ap3, ap5⟩
    · rw [if_neg c5] at H
      have c5b0 : decide (945 ≤ a0) = false := decide_eq_false c5; clear c5; obtain rfl := Option.some.inj H; simp only [Option.some.injEq, Prod.mk.injEq] at H; obtain ⟨rfl⟩ := H
      go_enter Tryd.func56, Tryd.ntmps56
      go_wp2
      go_ret
      exact ⟨ap3, ap5⟩
def label_digit.f (a0 : Int) : Option (Bool) := if 48 ≤ a0 then (some (decide (a0 ≤ 57))) else (some false)
set_option maxHeartbeats 8000000 in
set_option maxRecDepth 100000 in
theorem label_digit.calls (a0 : Int) (r : Bool) (w : World) (h : label_digit.f a0 = some r) :
    Calls Tryd.prog 57 #[.int .i32 a0] w fun e w' => e = .returned (.bool r) ∧ Drawn0 w w' := by
  have H : (if 48 ≤ a0 then (some (decide (a0 ≤ 57))) else (some false)) = some r := h; clear h
  by_cases c2 : 48 ≤ a0
  · rw [if_pos c2] at H
    have c2b0 : decide (48 ≤ a0) = true := decide_eq_true c2; clear c2; obtain rfl := Option.some.inj H; simp only [Option.some.injEq, Prod.mk.injEq] at H; obtain ⟨rfl⟩ := H
    go_enter Tryd.func57, Tryd.ntmps57
    go_wp2
    go_ret
    exact ⟨ap3, ap5⟩
  · rw [if_neg c2] at H
    have c2b0 : decide (48 ≤ a0) = false := decide_eq_false c2; clear c2; obtain rfl := Option.some.inj H; simp only [Option.some.injEq, Prod.mk.injEq] at H; obtain ⟨rfl⟩ := H
    go_enter Tryd.func57, Tryd.ntmps57
    go_wp2
    go_ret
    exact ⟨ap3, ap5⟩
def label_Signs.f (a0 : ByteArray) : Option (Int) := if a0.size ≤ 140737488351232 then some (Go.Proofs.YtmcdbjcbfjnfoaaDoor.Lab.signs a0) else none
theorem label_letter_nat (c : Nat) : label_letter.f (c : Int) = some (Go.Proofs.YtmcdbjcbfjnfoaaDoor.Lab.letter c) := by
  unfold label_letter.f Go.Proofs.YtmcdbjcbfjnfoaaDoor.Lab.letter
  by_cases h1 : 97 ≤ c
  · rw [if_pos (by omega)]
    by_cases h2 : c ≤ 122
    · rw [if_pos (by omega)]; simp [h1, h2]
    · rw [if_neg (by omega)]
      by_cases h3 : 945 ≤ c
      · rw [if_pos (by omega)]; simp [h2, h3]; omega
      · rw [if_neg (by omega)]; simp [h2, h3]
  · rw [if_neg (by omega), if_neg (by omega)]
    have h3 : ¬ 945 ≤ c := by omega
    simp [h1, h3]
theorem label_digit_nat (c : Nat) : label_digit.f (c : Int) = some (decide (48 ≤ c) && decide (c ≤ 57)) := by
  unfold label_digit.f
  by_cases h1 : 48 ≤ c
  · rw [if_pos (by omega)]; simp [h1]; omega
  · rw [if_neg (by omega)]; simp [h1]
set_option maxHeartbeats 8000000 in
set_option maxRecDepth 100000 in
theorem label_Signs.calls (a0 : ByteArray) (r : Int) (w : World) (hT : Tabs w) (h : label_Signs.f a0 = some r) :
    Calls Tryd.prog 50 #[.string a0] w fun e w' => e = .returned (.int .i64 r) ∧ Below w.heap.size w w' := by
  have hsz : a0.size ≤ 140737488351232 := by
    by_cases c : a0.size ≤ 140737488351232
    · exact c
    · rw [label_Signs.f, if_neg c] at h; cases h
  obtain rfl : Go.Proofs.YtmcdbjcbfjnfoaaDoor.Lab.signs a0 = r := by rw [label_Signs.f, if_pos hsz] at h; exact Option.some.inj h
  clear h
  unfold Go.Proofs.YtmcdbjcbfjnfoaaDoor.Lab.signs
  obtain ⟨ANS, hANS⟩ : ∃ ANS, Go.Proofs.YtmcdbjcbfjnfoaaDoor.Lab.scan a0 a0.size 0 0 = ANS := ⟨_, rfl⟩
  have hA0 : -1 ≤ ANS ∧ ANS ≤ 140737488351232 := by
    rw [← hANS]; have := Go.Proofs.YtmcdbjcbfjnfoaaDoor.Lab.scan_le a0 a0.size 0 0; omega
  rw [hANS]; obtain ⟨RES, hRES⟩ : ∃ RES : Int, (if ANS ≤ 0 ∨ 16 < ANS ∨ Lib.validD a0.data.toList = false then -1 else ANS) = RES := ⟨_, rfl⟩; rw [hRES]; have HR := am hRES; clear hRES; have HTA := am hT; clear hT
  go_enter Tryd.func50, Tryd.ntmps50
  go_wp2
  go_loopg [3] a0.size (fun g s3 wx => ∃ (v : World) (pos n : Nat), wx = v.iter a0 pos ∧ v.heap.size = w.heap.size ∧ Below w.heap.size w v ∧ s3 = .int .i64 (n : Int) ∧ n ≤ pos ∧ a0.size ≤ pos + g ∧ Go.Proofs.YtmcdbjcbfjnfoaaDoor.Lab.scan a0 g pos n = ANS)
  case atStart => exact ⟨w, 0, 0, rfl, rfl, Below.refl _ _, rfl, by omega, by omega, hANS⟩
  case round =>
    obtain ⟨v, pos, n, rfl, hv, hbv, rfl, hnp, hpg, hsc⟩ := hrel; clear hANS
    by_cases hp : pos < a0.size
    · obtain ⟨g', rfl⟩ : ∃ g', gk = g' + 1 := ⟨gk - 1, by omega⟩
      rw [Go.Proofs.YtmcdbjcbfjnfoaaDoor.Lab.scan_step a0 g' pos n hp] at hsc
      have hnx := fun ty => run_next_any (P := Tryd.prog) v a0 pos ty hp
      rw [hv] at hnx; have hw1 := Lib.width_pos a0 pos; generalize Utf8.decode a0 pos = d at hsc hnx hw1; obtain ⟨c, wd⟩ := d; have hL := label_letter_nat c; have hD := label_digit_nat c; simp only at hsc hnx hw1; have Hsc := am hsc; clear hsc; have Hbv := am hbv; clear hbv
      have hwr : IntKind.i64.wrap ((n : Int) + 1) = (n : Int) + 1 := by rw [IntKind.wrap_i64]; omega
      cases cL : Go.Proofs.YtmcdbjcbfjnfoaaDoor.Lab.letter c
      · rw [cL] at hL
        have Hc := am cL; clear cL
        by_cases n0 : n = 0
        · subst n0
          go_wp2_with (first | (go_at_call 56; refine (label_letter.calls (c : Int) _ _ hL).mono ?_; rintro e w' ⟨rfl, nd, rfl⟩) | (go_at_call 57; refine (label_digit.calls (c : Int) _ _ hD).mono ?_; rintro e w' ⟨rfl, nd2, rfl⟩))
          go_ret
          have h2 := Hsc.out; rw [Hc.out] at h2; simp at h2; have h3 := HR.out; rw [if_pos (by omega)] at h3; subst h3; exact ⟨rfl, pw_below_drewN (show Below w.heap.size w (v.iter a0 (pos + wd)) from Hbv.out.alloc (Nat.le_of_eq hv.symm) _) nd⟩
        · have n1 : ((n : Int) == 0) = false := by simp [n0]
          have HN := am (show decide (0 < n) = true by simp; omega)
          cases cD : (decide (48 ≤ c) && decide (c ≤ 57))
          · rw [cD] at hD
            have Hd := am cD; clear cD
            by_cases c45 : c = 45
            · have m1 : ((c : Int) != 45) = false := by simp [c45]
              have H45 := am c45; clear c45
              go_wp2_with (first | (go_at_call 56; refine (label_letter.calls (c : Int) _ _ hL).mono ?_; rintro e w' ⟨rfl, nd, rfl⟩) | (go_at_call 57; refine (label_digit.calls (c : Int) _ _ hD).mono ?_; rintro e w' ⟨rfl, nd2, rfl⟩))
              go_roundg g'
              case measure => omega
              case rel => exact ⟨v.drewN (nd + nd2), pos + wd, n + 1, rfl, hv, pw_below_drewN Hbv.out (nd + nd2), congrArg (Value.int .i64) (by omega), by omega, by omega, by have h2 := Hsc.out; rw [Hc.out, HN.out, show Go.Proofs.YtmcdbjcbfjnfoaaDoor.Lab.behind c = true by unfold Go.Proofs.YtmcdbjcbfjnfoaaDoor.Lab.behind; rw [Hd.out, H45.out]; rfl] at h2; exact h2⟩
            · have m1 : ((c : Int) != 45) = true := by simp; omega
              have H45 := am c45; clear c45
              go_wp2_with (first | (go_at_call 56; refine (label_letter.calls (c : Int) _ _ hL).mono ?_; rintro e w' ⟨rfl, nd, rfl⟩) | (go_at_call 57; refine (label_digit.calls (c : Int) _ _ hD).mono ?_; rintro e w' ⟨rfl, nd2, rfl⟩))
              go_ret
              have h2 := Hsc.out; rw [Hc.out, HN.out, show Go.Proofs.YtmcdbjcbfjnfoaaDoor.Lab.behind c = false by unfold Go.Proofs.YtmcdbjcbfjnfoaaDoor.Lab.behind; rw [Hd.out, decide_eq_false H45.out]; rfl] at h2; simp at h2; have h3 := HR.out; rw [if_pos (by omega)] at h3; subst h3; exact ⟨rfl, pw_below_drewN (show Below w.heap.size w (v.iter a0 (pos + wd)) from Hbv.out.alloc (Nat.le_of_eq hv.symm) _) (nd + nd2)⟩
          · rw [cD] at hD
            have Hd := am cD; clear cD
            go_wp2_with (first | (go_at_call 56; refine (label_letter.calls (c : Int) _ _ hL).mono ?_; rintro e w' ⟨rfl, nd, rfl⟩) | (go_at_call 57; refine (label_digit.calls (c : Int) _ _ hD).mono ?_; rintro e w' ⟨rfl, nd2, rfl⟩))
            go_roundg g'
            case measure => omega
            case rel => exact ⟨v.drewN (nd + nd2), pos + wd, n + 1, rfl, hv, pw_below_drewN Hbv.out (nd + nd2), congrArg (Value.int .i64) (by omega), by omega, by omega, by have h2 := Hsc.out; rw [Hc.out, HN.out, show Go.Proofs.YtmcdbjcbfjnfoaaDoor.Lab.behind c = true by unfold Go.Proofs.YtmcdbjcbfjnfoaaDoor.Lab.behind; rw [Hd.out]; rfl] at h2; exact h2⟩
      · rw [cL] at hL
        have Hc := am cL; clear cL
        go_wp2_with (first | (go_at_call 56; refine (label_letter.calls (c : Int) _ _ hL).mono ?_; rintro e w' ⟨rfl, nd, rfl⟩) | (go_at_call 57; refine (label_digit.calls (c : Int) _ _ hD).mono ?_; rintro e w' ⟨rfl, nd2, rfl⟩))
        go_roundg g'
        case measure => omega
        case rel => exact ⟨v.drewN nd, pos + wd, n + 1, rfl, hv, pw_below_drewN Hbv.out nd, congrArg (Value.int .i64) (by omega), by omega, by omega, by have h2 := Hsc.out; rw [Hc.out] at h2; exact h2⟩
    · have hnx := fun ty => run_next_end (P := Tryd.prog) v a0 pos ty hp
      rw [hv] at hnx; rw [Go.Proofs.YtmcdbjcbfjnfoaaDoor.Lab.scan_end a0 gk pos n hp] at hsc; have Hbv := am hbv; clear hbv; have Hb2 := am (show Below w.heap.size w (v.iter a0 pos) from Hbv.out.alloc (Nat.le_of_eq hv.symm) _); clear hA0 hpg hp
      by_cases n0 : n = 0
      · subst n0
        go_wp2_with fail
        go_ret
        have h3 := HR.out; rw [if_pos (by omega)] at h3; subst h3; exact ⟨rfl, Hb2.out⟩
      · have n1 : ((n : Int) == 0) = false := by simp [n0]
        by_cases n16 : 16 < n
        · have n2 : (16 : Int) < (n : Int) := by omega
          go_wp2_with fail
          go_ret
          have h3 := HR.out; rw [if_pos (by omega)] at h3; subst h3; exact ⟨rfl, Hb2.out⟩
        · have n2 : decide ((16 : Int) < (n : Int)) = false := decide_eq_false (by omega)
          have cV := am (show Calls Tryd.prog 58 #[.string a0] (v.iter a0 pos) _ from Any.utf8_ValidString Tryd.laysValid a0 (v.iter a0 pos) (by omega) (Tabs.u8 (Tabs.below HTA.out Hb2.out))); have Hsc := am hsc; have Hn := am (show (n : Int) ≤ 16 ∧ 0 < (n : Int) by omega); clear hsc; have HV := am (rfl : Lib.validD a0.data.toList = Lib.validD a0.data.toList); generalize hVV : Lib.validD a0.data.toList = V at cV HR; clear HV
          cases V
          · go_wp2_with (go_at_call 58; refine cV.out.mono ?_; rintro e w' ⟨rfl, hb⟩)
            go_ret
            have h3 := HR.out; rw [if_pos (by simp)] at h3; subst h3; exact ⟨rfl, below_step Hb2.out hb⟩
          · go_wp2_with (go_at_call 58; refine cV.out.mono ?_; rintro e w' ⟨rfl, hb⟩)
            go_ret
            have h3 := HR.out; have h4 := Hsc.out; have h5 := Hn.out
            rw [if_neg (by rintro (h | h | h); · omega
                           · omega
                           · cases h)] at h3
            subst h3; subst h4; exact ⟨rfl, below_step Hb2.out hb⟩
def label_Right.f (a0 : ByteArray) : Option (Bool) := (label_Signs.f a0).bind fun t108 => (some (decide (t108 > 0)))
set_option maxHeartbeats 8000000 in
set_option maxRecDepth 100000 in
theorem label_Right.calls (a0 : ByteArray) (r : Bool) (w : World) (hT : Tabs w) (h : label_Right.f a0 = some r) :
    Calls Tryd.prog 27 #[.string a0] w fun e w' => e = .returned (.bool r) ∧ Below w.heap.size w w' := by
  have HT := am hT; clear hT; have HB := am (Below.refl w.heap.size w); have H : ((label_Signs.f a0).bind fun t108 => (some (decide (t108 > 0)))) = some r := h; clear h; replace H := obm H; obtain ⟨t108, A20, H⟩ := H; replace H : (some (decide (t108 > 0))) = some r := H; have A2 := am A20; clear A20; obtain rfl := Option.some.inj H; simp only [Option.some.injEq, Prod.mk.injEq] at H; obtain ⟨rfl⟩ := H
  go_enter Tryd.func27, Tryd.ntmps27
  go_wp2_with (first | ((with_reducible refine gate_callee (f := 50) rfl ?_); refine goesL_ (some 4) rfl rfl Tryd.func50 (by kernel_rfl) rfl #[.string a0] rfl ap1 ?_; (with_reducible refine (label_Signs.calls a0 t108 _ ?side1 A2.out).mono ?_); (case side1 => first | (with_reducible exact HT.out) | exact Tabs.below HT.out (beu HB.out)); rintro e w3 ⟨rfl, hb⟩; refine ⟨_, rfl, ?_⟩; have _ := am (below_step (beu HB.out) hb); clear HB; rename_i HB; (try clear hb)))
  go_ret
  exact ⟨ap4, beu HB.out⟩
def order_group.f (a0_0 : ByteArray) (a0_1 : ByteArray) (a0_2 : ByteArray) : Option (Bool) := (label_Right.f a0_0).bind fun t110 => (if t110 = true then ((label_Right.f a0_1).bind fun t111 => (if t111 = true then ((label_Right.f a0_2).bind fun t112 => (some t112)) else (some false))) else (some false))
set_option maxHeartbeats 8000000 in
set_option maxRecDepth 100000 in
theorem order_group.calls (a0_0 : ByteArray) (a0_1 : ByteArray) (a0_2 : ByteArray) (r : Bool) (w : World) (hT : Tabs w) (h : order_group.f a0_0 a0_1 a0_2 = some r) :
    Calls Tryd.prog 28 #[.agg #[.string a0_0, .string a0_1, .string a0_2]] w fun e w' => e = .returned (.bool r) ∧ Below w.heap.size w w' := by
  have hu24 := Tryd.underlying24; have HT := am hT; clear hT; have HB := am (Below.refl w.heap.size w); have H : ((label_Right.f a0_0).bind fun t110 => (if t110 = true then ((label_Right.f a0_1).bind fun t111 => (if t111 = true then ((label_Right.f a0_2).bind fun t112 => (some t112)) else (some false))) else (some false))) = some r := h; clear h; replace H := obm H; obtain ⟨t110, A20, H⟩ := H; replace H : (if t110 = true then ((label_Right.f a0_1).bind fun t111 => (if t111 = true then ((label_Right.f a0_2).bind fun t112 => (some t112)) else (some false))) else (some false)) = some r := H; have A2 := am A20; clear A20
  by_cases c3 : t110 = true
  · subst c3
    have H1 : ((label_Right.f a0_1).bind fun t111 => (if t111 = true then ((label_Right.f a0_2).bind fun t112 => (some t112)) else (some false))) = some r := by rw [if_pos rfl] at H; exact H
    clear H; have H := H1; clear H1; replace H := obm H; obtain ⟨t111, A40, H⟩ := H; replace H : (if t111 = true then ((label_Right.f a0_2).bind fun t112 => (some t112)) else (some false)) = some r := H; have A4 := am A40; clear A40
    by_cases c5 : t111 = true
    · subst c5
      have H1 : ((label_Right.f a0_2).bind fun t112 => (some t112)) = some r := by rw [if_pos rfl] at H; exact H
      clear H; have H := H1; clear H1; replace H := obm H; obtain ⟨t112, A60, H⟩ := H; replace H : (some t112) = some r := H; have A6 := am A60; clear A60; obtain rfl := Option.some.inj H; simp only [Option.some.injEq, Prod.mk.injEq] at H; obtain ⟨rfl⟩ := H
      go_enter Tryd.func28, Tryd.ntmps28
      go_wp2_with (first | ((with_reducible refine gate_dst (N := 1) rfl ?_); refine box_event ?hg (N := 1) ?hd (cs := #[.string a0_0, .string a0_1, .string a0_2]) (t := 24) ?hr ?_; (case hd => rfl); (case hg => rfl); (case hr => first | (go_simp; done) | (go_simp; rfl)); intro gb109 hg w7 hbox hb; have _ := am (below_step (beu HB.out) hb); have _ := am (hbox); have _ := am ((by rw [hg]; exact (below_size (beu HB.out)) : w.heap.size ≤ gb109)); have _ := am ((by rw [hg]; exact (below_size (beu HB.out)) : w.heap.size ≤ gb109)); clear HB; rename_i HB BK109 GW109 GE109; clear hb hbox hg; obtain ⟨hcz8_0, hcz8_1, hcz8_2⟩ := cells3 BK109.out; obtain ⟨hfz8_0, hfz8_1, hfz8_2⟩ := frozens3 BK109.out) | ((with_reducible refine gate_callee (f := 27) rfl ?_); refine goesL_ (some 5) rfl rfl Tryd.func27 (by kernel_rfl) rfl #[.string a0_0] rfl ap1 ?_; (with_reducible refine (label_Right.calls a0_0 true _ ?side1 A2.out).mono ?_); (case side1 => first | (with_reducible exact HT.out) | exact Tabs.below HT.out (beu HB.out)); rintro e w9 ⟨rfl, hb⟩; refine ⟨_, rfl, ?_⟩; have _ := am (blk_below (bu BK109.out) hb); have _ := am (below_step (beu HB.out) hb); clear BK109 HB; rename_i BK109 HB; (try clear hb); obtain ⟨hcz10_0, hcz10_1, hcz10_2⟩ := cells3 BK109.out; obtain ⟨hfz10_0, hfz10_1, hfz10_2⟩ := frozens3 BK109.out) | (go_at_call 27; (with_reducible refine (label_Right.calls a0_1 true _ ?side1 A4.out).mono ?_); (case side1 => first | (with_reducible exact HT.out) | exact Tabs.below HT.out (beu HB.out)); rintro e w11 ⟨rfl, hb⟩; have _ := am (blk_below (bu BK109.out) hb); have _ := am (below_step (beu HB.out) hb); clear BK109 HB; rename_i BK109 HB; (try clear hb); obtain ⟨hcz12_0, hcz12_1, hcz12_2⟩ := cells3 BK109.out; obtain ⟨hfz12_0, hfz12_1, hfz12_2⟩ := frozens3 BK109.out) | (go_at_call 27; (with_reducible refine (label_Right.calls a0_2 t112 _ ?side1 A6.out).mono ?_); (case side1 => first | (with_reducible exact HT.out) | exact Tabs.below HT.out (beu HB.out)); rintro e w13 ⟨rfl, hb⟩; have _ := am (blk_below (bu BK109.out) hb); have _ := am (below_step (beu HB.out) hb); clear BK109 HB; rename_i BK109 HB; (try clear hb)))
      go_ret
      exact ⟨ap4, beu HB.out⟩
    · replace c5 := Bool.eq_false_iff.mpr c5
      subst c5
      have H1 : (some false) = some r := by rw [if_neg (show ¬ (false = true) by decide)] at H; exact H
      clear H; have H := H1; clear H1; obtain rfl := Option.some.inj H; simp only [Option.some.injEq, Prod.mk.injEq] at H; obtain ⟨rfl⟩ := H
      go_enter Tryd.func28, Tryd.ntmps28
      go_wp2_with (first | ((with_reducible refine gate_dst (N := 1) rfl ?_); refine box_event ?hg (N := 1) ?hd (cs := #[.string a0_0, .string a0_1, .string a0_2]) (t := 24) ?hr ?_; (case hd => rfl); (case hg => rfl); (case hr => first | (go_simp; done) | (go_simp; rfl)); intro gb109 hg w14 hbox hb; have _ := am (below_step (beu HB.out) hb); have _ := am (hbox); have _ := am ((by rw [hg]; exact (below_size (beu HB.out)) : w.heap.size ≤ gb109)); have _ := am ((by rw [hg]; exact (below_size (beu HB.out)) : w.heap.size ≤ gb109)); clear HB; rename_i HB BK109 GW109 GE109; clear hb hbox hg; obtain ⟨_, _, _⟩ := cells3 BK109.out; obtain ⟨_, _, _⟩ := frozens3 BK109.out) | ((with_reducible refine gate_callee (f := 27) rfl ?_); refine goesL_ (some 5) rfl rfl Tryd.func27 (by kernel_rfl) rfl #[.string a0_0] rfl ap1 ?_; (with_reducible refine (label_Right.calls a0_0 true _ ?side1 A2.out).mono ?_); (case side1 => first | (with_reducible exact HT.out) | exact Tabs.below HT.out (beu HB.out)); rintro e w16 ⟨rfl, hb⟩; refine ⟨_, rfl, ?_⟩; have _ := am (blk_below (bu BK109.out) hb); have _ := am (below_step (beu HB.out) hb); clear BK109 HB; rename_i BK109 HB; (try clear hb); obtain ⟨_, _, _⟩ := cells3 BK109.out; obtain ⟨_, _, _⟩ := frozens3 BK109.out) | (go_at_call 27; (with_reducible refine (label_Right.calls a0_1 false _ ?side1 A4.out).mono ?_); (case side1 => first | (with_reducible exact HT.out) | exact Tabs.below HT.out (beu HB.out)); rintro e w18 ⟨rfl, hb⟩; have _ := am (blk_below (bu BK109.out) hb); have _ := am (below_step (beu HB.out) hb); clear BK109 HB; rename_i BK109 HB; (try clear hb)))
      go_ret
      exact ⟨ap4, beu HB.out⟩
  · replace c3 := Bool.eq_false_iff.mpr c3
    subst c3
    have H1 : (some false) = some r := by rw [if_neg (show ¬ (false = true) by decide)] at H; exact H
    clear H; have H := H1; clear H1; obtain rfl := Option.some.inj H; simp only [Option.some.injEq, Prod.mk.injEq] at H; obtain ⟨rfl⟩ := H
    go_enter Tryd.func28, Tryd.ntmps28
    go_wp2_with (first | ((with_reducible refine gate_dst (N := 1) rfl ?_); refine box_event ?hg (N := 1) ?hd (cs := #[.string a0_0, .string a0_1, .string a0_2]) (t := 24) ?hr ?_; (case hd => rfl); (case hg => rfl); (case hr => first | (go_simp; done) | (go_simp; rfl)); intro gb109 hg w19 hbox hb; have _ := am (below_step (beu HB.out) hb); have _ := am (hbox); have _ := am ((by rw [hg]; exact (below_size (beu HB.out)) : w.heap.size ≤ gb109)); have _ := am ((by rw [hg]; exact (below_size (beu HB.out)) : w.heap.size ≤ gb109)); clear HB; rename_i HB BK109 GW109 GE109; clear hb hbox hg; obtain ⟨hcz20_0, hcz20_1, hcz20_2⟩ := cells3 BK109.out; obtain ⟨hfz20_0, hfz20_1, hfz20_2⟩ := frozens3 BK109.out) | ((with_reducible refine gate_callee (f := 27) rfl ?_); refine goesL_ (some 5) rfl rfl Tryd.func27 (by kernel_rfl) rfl #[.string a0_0] rfl ap1 ?_; (with_reducible refine (label_Right.calls a0_0 false _ ?side1 A2.out).mono ?_); (case side1 => first | (with_reducible exact HT.out) | exact Tabs.below HT.out (beu HB.out)); rintro e w21 ⟨rfl, hb⟩; refine ⟨_, rfl, ?_⟩; have _ := am (blk_below (bu BK109.out) hb); have _ := am (below_step (beu HB.out) hb); clear BK109 HB; rename_i BK109 HB; (try clear hb)))
    go_ret
    exact ⟨ap4, beu HB.out⟩
def lines_one.f (a0_0 : ByteArray) (a0_1 : Int) (a0_2 : Int) : Option (Bool) := (label_Right.f a0_0).bind fun t114 => (if t114 = true then (if a0_1 ≥ 1 then (if a0_1 ≤ 1000 then (if a0_2 ≥ 0 then (some (decide (a0_2 ≤ 100000))) else (some false)) else (some false)) else (some false)) else (some false))
set_option maxHeartbeats 8000000 in
set_option maxRecDepth 100000 in
theorem lines_one.calls (a0_0 : ByteArray) (a0_1 : Int) (a0_2 : Int) (r : Bool) (w : World) (hT : Tabs w) (h : lines_one.f a0_0 a0_1 a0_2 = some r) :
    Calls Tryd.prog 51 #[.agg #[.string a0_0, .int .i64 a0_1, .int .i64 a0_2]] w fun e w' => e = .returned (.bool r) ∧ Below w.heap.size w w' := by
  have hu52 := Tryd.underlying52; have HT := am hT; clear hT; have HB := am (Below.refl w.heap.size w); have H : ((label_Right.f a0_0).bind fun t114 => (if t114 = true then (if a0_1 ≥ 1 then (if a0_1 ≤ 1000 then (if a0_2 ≥ 0 then (some (decide (a0_2 ≤ 100000))) else (some false)) else (some false)) else (some false)) else (some false))) = some r := h; clear h; replace H := obm H; obtain ⟨t114, A20, H⟩ := H; replace H : (if t114 = true then (if a0_1 ≥ 1 then (if a0_1 ≤ 1000 then (if a0_2 ≥ 0 then (some (decide (a0_2 ≤ 100000))) else (some false)) else (some false)) else (some false)) else (some false)) = some r := H; have A2 := am A20; clear A20
  by_cases c3 : t114 = true
  · subst c3
    have H1 : (if a0_1 ≥ 1 then (if a0_1 ≤ 1000 then (if a0_2 ≥ 0 then (some (decide (a0_2 ≤ 100000))) else (some false)) else (some false)) else (some false)) = some r := by rw [if_pos rfl] at H; exact H
    clear H; have H := H1; clear H1
    by_cases c4 : a0_1 ≥ 1
    · rw [if_pos c4] at H
      have c4b0 : decide (1 ≤ a0_1) = true := decide_eq_true c4; clear c4
      by_cases c5 : a0_1 ≤ 1000
      · rw [if_pos c5] at H
        have c5b0 : decide (a0_1 ≤ 1000) = true := decide_eq_true c5; clear c5
        by_cases c6 : a0_2 ≥ 0
        · rw [if_pos c6] at H
          have c6b0 : decide (0 ≤ a0_2) = true := decide_eq_true c6; clear c6; obtain rfl := Option.some.inj H; simp only [Option.some.injEq, Prod.mk.injEq] at H; obtain ⟨rfl⟩ := H
          go_enter Tryd.func51, Tryd.ntmps51
          go_wp2_with (first | ((with_reducible refine gate_dst (N := 1) rfl ?_); refine box_event ?hg (N := 1) ?hd (cs := #[.string a0_0, .int .i64 a0_1, .int .i64 a0_2]) (t := 52) ?hr ?_; (case hd => rfl); (case hg => rfl); (case hr => first | (go_simp; done) | (go_simp; rfl)); intro gb113 hg w7 hbox hb; have _ := am (below_step (beu HB.out) hb); have _ := am (hbox); have _ := am ((by rw [hg]; exact (below_size (beu HB.out)) : w.heap.size ≤ gb113)); have _ := am ((by rw [hg]; exact (below_size (beu HB.out)) : w.heap.size ≤ gb113)); clear HB; rename_i HB BK113 GW113 GE113; clear hb hbox hg; obtain ⟨hcz8_0, hcz8_1, hcz8_2⟩ := cells3 BK113.out; obtain ⟨hfz8_0, hfz8_1, hfz8_2⟩ := frozens3 BK113.out) | ((with_reducible refine gate_callee (f := 27) rfl ?_); refine goesL_ (some 5) rfl rfl Tryd.func27 (by kernel_rfl) rfl #[.string a0_0] rfl ap1 ?_; (with_reducible refine (label_Right.calls a0_0 true _ ?side1 A2.out).mono ?_); (case side1 => first | (with_reducible exact HT.out) | exact Tabs.below HT.out (beu HB.out)); rintro e w9 ⟨rfl, hb⟩; refine ⟨_, rfl, ?_⟩; have _ := am (blk_below (bu BK113.out) hb); have _ := am (below_step (beu HB.out) hb); clear BK113 HB; rename_i BK113 HB; (try clear hb); obtain ⟨hcz10_0, hcz10_1, hcz10_2⟩ := cells3 BK113.out; obtain ⟨hfz10_0, hfz10_1, hfz10_2⟩ := frozens3 BK113.out))
          go_ret
          exact ⟨ap4, beu HB.out⟩
        · rw [if_neg c6] at H
          have c6b0 : decide (0 ≤ a0_2) = false := decide_eq_false c6; clear c6; obtain rfl := Option.some.inj H; simp only [Option.some.injEq, Prod.mk.injEq] at H; obtain ⟨rfl⟩ := H
          go_enter Tryd.func51, Tryd.ntmps51
          go_wp2_with (first | ((with_reducible refine gate_dst (N := 1) rfl ?_); refine box_event ?hg (N := 1) ?hd (cs := #[.string a0_0, .int .i64 a0_1, .int .i64 a0_2]) (t := 52) ?hr ?_; (case hd => rfl); (case hg => rfl); (case hr => first | (go_simp; done) | (go_simp; rfl)); intro gb113 hg w11 hbox hb; have _ := am (below_step (beu HB.out) hb); have _ := am (hbox); have _ := am ((by rw [hg]; exact (below_size (beu HB.out)) : w.heap.size ≤ gb113)); have _ := am ((by rw [hg]; exact (below_size (beu HB.out)) : w.heap.size ≤ gb113)); clear HB; rename_i HB BK113 GW113 GE113; clear hb hbox hg; obtain ⟨hcz12_0, hcz12_1, hcz12_2⟩ := cells3 BK113.out; obtain ⟨hfz12_0, hfz12_1, hfz12_2⟩ := frozens3 BK113.out) | ((with_reducible refine gate_callee (f := 27) rfl ?_); refine goesL_ (some 5) rfl rfl Tryd.func27 (by kernel_rfl) rfl #[.string a0_0] rfl ap1 ?_; (with_reducible refine (label_Right.calls a0_0 true _ ?side1 A2.out).mono ?_); (case side1 => first | (with_reducible exact HT.out) | exact Tabs.below HT.out (beu HB.out)); rintro e w13 ⟨rfl, hb⟩; refine ⟨_, rfl, ?_⟩; have _ := am (blk_below (bu BK113.out) hb); have _ := am (below_step (beu HB.out) hb); clear BK113 HB; rename_i BK113 HB; (try clear hb); obtain ⟨hcz14_0, hcz14_1, hcz14_2⟩ := cells3 BK113.out; obtain ⟨hfz14_0, hfz14_1, hfz14_2⟩ := frozens3 BK113.out))
          go_ret
          exact ⟨ap4, beu HB.out⟩
      · rw [if_neg c5] at H
        have c5b0 : decide (a0_1 ≤ 1000) = false := decide_eq_false c5; clear c5; obtain rfl := Option.some.inj H; simp only [Option.some.injEq, Prod.mk.injEq] at H; obtain ⟨rfl⟩ := H
        go_enter Tryd.func51, Tryd.ntmps51
        go_wp2_with (first | ((with_reducible refine gate_dst (N := 1) rfl ?_); refine box_event ?hg (N := 1) ?hd (cs := #[.string a0_0, .int .i64 a0_1, .int .i64 a0_2]) (t := 52) ?hr ?_; (case hd => rfl); (case hg => rfl); (case hr => first | (go_simp; done) | (go_simp; rfl)); intro gb113 hg w15 hbox hb; have _ := am (below_step (beu HB.out) hb); have _ := am (hbox); have _ := am ((by rw [hg]; exact (below_size (beu HB.out)) : w.heap.size ≤ gb113)); have _ := am ((by rw [hg]; exact (below_size (beu HB.out)) : w.heap.size ≤ gb113)); clear HB; rename_i HB BK113 GW113 GE113; clear hb hbox hg; obtain ⟨_, _, _⟩ := cells3 BK113.out; obtain ⟨_, _, _⟩ := frozens3 BK113.out) | ((with_reducible refine gate_callee (f := 27) rfl ?_); refine goesL_ (some 5) rfl rfl Tryd.func27 (by kernel_rfl) rfl #[.string a0_0] rfl ap1 ?_; (with_reducible refine (label_Right.calls a0_0 true _ ?side1 A2.out).mono ?_); (case side1 => first | (with_reducible exact HT.out) | exact Tabs.below HT.out (beu HB.out)); rintro e w17 ⟨rfl, hb⟩; refine ⟨_, rfl, ?_⟩; have _ := am (blk_below (bu BK113.out) hb); have _ := am (below_step (beu HB.out) hb); clear BK113 HB; rename_i BK113 HB; (try clear hb); obtain ⟨_, _, _⟩ := cells3 BK113.out; obtain ⟨_, _, _⟩ := frozens3 BK113.out))
        go_ret
        exact ⟨ap4, beu HB.out⟩
    · rw [if_neg c4] at H
      have c4b0 : decide (1 ≤ a0_1) = false := decide_eq_false c4; clear c4; obtain rfl := Option.some.inj H; simp only [Option.some.injEq, Prod.mk.injEq] at H; obtain ⟨rfl⟩ := H
      go_enter Tryd.func51, Tryd.ntmps51
      go_wp2_with (first | ((with_reducible refine gate_dst (N := 1) rfl ?_); refine box_event ?hg (N := 1) ?hd (cs := #[.string a0_0, .int .i64 a0_1, .int .i64 a0_2]) (t := 52) ?hr ?_; (case hd => rfl); (case hg => rfl); (case hr => first | (go_simp; done) | (go_simp; rfl)); intro gb113 hg w19 hbox hb; have _ := am (below_step (beu HB.out) hb); have _ := am (hbox); have _ := am ((by rw [hg]; exact (below_size (beu HB.out)) : w.heap.size ≤ gb113)); have _ := am ((by rw [hg]; exact (below_size (beu HB.out)) : w.heap.size ≤ gb113)); clear HB; rename_i HB BK113 GW113 GE113; clear hb hbox hg; obtain ⟨hcz20_0, hcz20_1, hcz20_2⟩ := cells3 BK113.out; obtain ⟨hfz20_0, hfz20_1, hfz20_2⟩ := frozens3 BK113.out) | ((with_reducible refine gate_callee (f := 27) rfl ?_); refine goesL_ (some 5) rfl rfl Tryd.func27 (by kernel_rfl) rfl #[.string a0_0] rfl ap1 ?_; (with_reducible refine (label_Right.calls a0_0 true _ ?side1 A2.out).mono ?_); (case side1 => first | (with_reducible exact HT.out) | exact Tabs.below HT.out (beu HB.out)); rintro e w21 ⟨rfl, hb⟩; refine ⟨_, rfl, ?_⟩; have _ := am (blk_below (bu BK113.out) hb); have _ := am (below_step (beu HB.out) hb); clear BK113 HB; rename_i BK113 HB; (try clear hb); obtain ⟨_, _, _⟩ := cells3 BK113.out; obtain ⟨_, _, _⟩ := frozens3 BK113.out))
      go_ret
      exact ⟨ap4, beu HB.out⟩
  · replace c3 := Bool.eq_false_iff.mpr c3
    subst c3
    have H1 : (some false) = some r := by rw [if_neg (show ¬ (false = true) by decide)] at H; exact H
    clear H; have H := H1; clear H1; obtain rfl := Option.some.inj H; simp only [Option.some.injEq, Prod.mk.injEq] at H; obtain ⟨rfl⟩ := H
    go_enter Tryd.func51, Tryd.ntmps51
    go_wp2_with (first | ((with_reducible refine gate_dst (N := 1) rfl ?_); refine box_event ?hg (N := 1) ?hd (cs := #[.string a0_0, .int .i64 a0_1, .int .i64 a0_2]) (t := 52) ?hr ?_; (case hd => rfl); (case hg => rfl); (case hr => first | (go_simp; done) | (go_simp; rfl)); intro gb113 hg w23 hbox hb; have _ := am (below_step (beu HB.out) hb); have _ := am (hbox); have _ := am ((by rw [hg]; exact (below_size (beu HB.out)) : w.heap.size ≤ gb113)); have _ := am ((by rw [hg]; exact (below_size (beu HB.out)) : w.heap.size ≤ gb113)); clear HB; rename_i HB BK113 GW113 GE113; clear hb hbox hg; obtain ⟨_, _, _⟩ := cells3 BK113.out; obtain ⟨_, _, _⟩ := frozens3 BK113.out) | ((with_reducible refine gate_callee (f := 27) rfl ?_); refine goesL_ (some 5) rfl rfl Tryd.func27 (by kernel_rfl) rfl #[.string a0_0] rfl ap1 ?_; (with_reducible refine (label_Right.calls a0_0 false _ ?side1 A2.out).mono ?_); (case side1 => first | (with_reducible exact HT.out) | exact Tabs.below HT.out (beu HB.out)); rintro e w25 ⟨rfl, hb⟩; refine ⟨_, rfl, ?_⟩; have _ := am (blk_below (bu BK113.out) hb); have _ := am (below_step (beu HB.out) hb); clear BK113 HB; rename_i BK113 HB; (try clear hb)))
    go_ret
    exact ⟨ap4, beu HB.out⟩
def strings_Compare.f (a0 : ByteArray) (a1 : ByteArray) : Option (Int) := some (Lib.compareBytes a0.data.toList a1.data.toList)
theorem strings_Compare.calls (a0 : ByteArray) (a1 : ByteArray) (r : Int) (w : World) (h : strings_Compare.f a0 a1 = some r) :
    Calls Tryd.prog 62 #[.string a0, .string a1] w fun e w' => e = .returned (.int .i64 r) ∧ Drawn0 w w' := by
  obtain rfl := Option.some.inj h
  exact (Any.strings_Compare Tryd.laysCompare a0 a1 w).mono fun e w' ⟨he, hw⟩ => ⟨he, hw ▸ ⟨0, rfl⟩⟩
def label_Compare.f (a0 : ByteArray) (a1 : ByteArray) : Option (Int) := (strings_Compare.f a0 a1).bind fun t115 => (some t115)
set_option maxHeartbeats 8000000 in
set_option maxRecDepth 100000 in
theorem label_Compare.calls (a0 : ByteArray) (a1 : ByteArray) (r : Int) (w : World) (h : label_Compare.f a0 a1 = some r) :
    Calls Tryd.prog 59 #[.string a0, .string a1] w fun e w' => e = .returned (.int .i64 r) ∧ Drawn0 w w' := by
  have H : ((strings_Compare.f a0 a1).bind fun t115 => (some t115)) = some r := h; clear h; replace H := obm H; obtain ⟨t115, A30, H⟩ := H; replace H : (some t115) = some r := H; have A3 := am A30; clear A30; obtain rfl := Option.some.inj H; simp only [Option.some.injEq, Prod.mk.injEq] at H; obtain ⟨rfl⟩ := H
  go_enter Tryd.func59, Tryd.ntmps59
  go_wp2_with (first | ((with_reducible refine gate_callee (f := 62) rfl ?_); refine goesL_ (some 7) rfl rfl Tryd.func62 (by kernel_rfl) rfl #[.string a0, .string a1] rfl ap1 ?_; (with_reducible refine (strings_Compare.calls a0 a1 t115 _ A3.out).mono ?_); rintro e w' ⟨rfl, ⟨nd, rfl⟩⟩; refine ⟨_, rfl, ?_⟩))
  go_ret
  exact ⟨ap3, ap5⟩
def lines_bySku.f (a0_0 : ByteArray) (a0_1 : Int) (a0_2 : Int) (a1_0 : ByteArray) (a1_1 : Int) (a1_2 : Int) : Option (Int) := (label_Compare.f a0_0 a1_0).bind fun t118 => (some t118)
set_option maxHeartbeats 8000000 in
set_option maxRecDepth 100000 in
theorem lines_bySku.calls (a0_0 : ByteArray) (a0_1 : Int) (a0_2 : Int) (a1_0 : ByteArray) (a1_1 : Int) (a1_2 : Int) (r : Int) (w : World) (h : lines_bySku.f a0_0 a0_1 a0_2 a1_0 a1_1 a1_2 = some r) :
    Calls Tryd.prog 52 #[.agg #[.string a0_0, .int .i64 a0_1, .int .i64 a0_2], .agg #[.string a1_0, .int .i64 a1_1, .int .i64 a1_2]] w fun e w' => e = .returned (.int .i64 r) ∧ Below w.heap.size w w' := by
  have hu52 := Tryd.underlying52; have HB := am (Below.refl w.heap.size w); have H : ((label_Compare.f a0_0 a1_0).bind fun t118 => (some t118)) = some r := h; clear h; replace H := obm H; obtain ⟨t118, A30, H⟩ := H; replace H : (some t118) = some r := H; have A3 := am A30; clear A30; obtain rfl := Option.some.inj H; simp only [Option.some.injEq, Prod.mk.injEq] at H; obtain ⟨rfl⟩ := H
  go_enter Tryd.func52, Tryd.ntmps52
  go_wp2_with (first | ((with_reducible refine gate_dst (N := 2) rfl ?_); refine box_event ?hg (N := 2) ?hd (cs := #[.string a0_0, .int .i64 a0_1, .int .i64 a0_2]) (t := 52) ?hr ?_; (case hd => rfl); (case hg => rfl); (case hr => first | (go_simp; done) | (go_simp; rfl)); intro gb116 hg w4 hbox hb; have _ := am (below_step (beu HB.out) hb); have _ := am (hbox); have _ := am ((by rw [hg]; exact (below_size (beu HB.out)) : w.heap.size ≤ gb116)); have _ := am ((by rw [hg]; exact (below_size (beu HB.out)) : w.heap.size ≤ gb116)); clear HB; rename_i HB BK116 GW116 GE116; clear hb hbox hg) | ((with_reducible refine gate_dst (N := 3) rfl ?_); refine box_event ?hg (N := 3) ?hd (cs := #[.string a1_0, .int .i64 a1_1, .int .i64 a1_2]) (t := 52) ?hr ?_; (case hd => rfl); (case hg => rfl); (case hr => first | (go_simp; done) | (go_simp; rfl)); intro gb117 hg w5 hbox hb; have _ := am (blk_below (bu BK116.out) hb); have _ := am (below_step (beu HB.out) hb); have _ := am (hbox); have _ := am ((by rw [hg]; exact (below_size (beu HB.out)) : w.heap.size ≤ gb117)); have _ := am ((by rw [hg]; exact (below_size (beu HB.out)) : w.heap.size ≤ gb117)); have _ := am (nb1 hg BK116.out : gb116 ≠ gb117); have _ := am (nb2 hg BK116.out : gb117 ≠ gb116); clear BK116 HB; rename_i BK116 HB BK117 GW117 GE117 NB116_117 NB117_116; clear hb hbox hg; have := NB116_117.out; have := NB117_116.out; obtain ⟨_, _, _⟩ := cells3 BK116.out; obtain ⟨_, _, _⟩ := frozens3 BK116.out; obtain ⟨hcz8_0, hcz8_1, hcz8_2⟩ := cells3 BK117.out; obtain ⟨hfz8_0, hfz8_1, hfz8_2⟩ := frozens3 BK117.out) | ((with_reducible refine gate_callee (f := 59) rfl ?_); refine goesL_ (some 9) rfl rfl Tryd.func59 (by kernel_rfl) rfl #[.string a0_0, .string a1_0] rfl ap1 ?_; (with_reducible refine (label_Compare.calls a0_0 a1_0 t118 _ A3.out).mono ?_); rintro e w' ⟨rfl, ⟨nd, rfl⟩⟩; refine ⟨_, rfl, ?_⟩))
  go_ret
  exact ⟨ap4, beu HB.out⟩
def lines_Right.l0 : Nat → List (S52) → List (S52) → Int → Int → Option (Bool)
  | 0, _, _, _, _ => none
  | k + 1, x0, x5, x6, x7 => if x7 < x6 then (if 0 ≤ x7 then (if x7 < (x5.length : Int) then ((lines_one.f ((rd_T52 x5 x7).f0) ((rd_T52 x5 x7).f1) ((rd_T52 x5 x7).f2)).bind fun t121 => (if t121 = true then (if x7 > 0 then (if 0 ≤ (wrap64 (x7 - 1)) then (if (wrap64 (x7 - 1)) < (x0.length : Int) then ((lines_bySku.f ((rd_T52 x0 (wrap64 (x7 - 1))).f0) ((rd_T52 x0 (wrap64 (x7 - 1))).f1) ((rd_T52 x0 (wrap64 (x7 - 1))).f2) ((rd_T52 x5 x7).f0) ((rd_T52 x5 x7).f1) ((rd_T52 x5 x7).f2)).bind fun t123 => (if t123 ≥ 0 then (some false) else (lines_Right.l0 k x0 x5 x6 (wrap64 (x7 + 1))))) else (none)) else (none)) else (lines_Right.l0 k x0 x5 x6 (wrap64 (x7 + 1)))) else (some false))) else (none)) else (none)) else (if (x0.length : Int) ≥ 1 then (some (decide ((x0.length : Int) ≤ 8))) else (some false))
def lines_Right.f (k : Nat) (l0 : List (S52)) : Option (Bool) := lines_Right.l0 k l0 l0 (l0.length : Int) 0
theorem lines_Right.mono_l : ∀ k, (∀ y0 y1 y2 y3, LeO (lines_Right.l0 k y0 y1 y2 y3) (lines_Right.l0 (k + 1) y0 y1 y2 y3))
  | 0 => fun _ _ _ _ r h => by simp [lines_Right.l0] at h
  | k + 1 => by
    have ih0 := lines_Right.mono_l k
    · intro y0 y1 y2 y3
      unfold lines_Right.l0
      repeat' first
      | (with_reducible exact ih0 _ _ _ _)
      | (with_reducible exact LeO.refl _)
      | (with_reducible exact LeO.none _)
      | (with_reducible refine LeO.ite ?_ ?_)
      | (with_reducible refine LeO.bind ?_ (fun _ => ?_))
      | exact ih0 _ _ _ _
      | exact LeO.none _
      | refine LeO.ite ?_ ?_
      | refine LeO.bind ?_ (fun _ => ?_)
theorem lines_Right.mono : ∀ a0 k, LeO (lines_Right.f k a0) (lines_Right.f (k + 1) a0) := by
  intro a0 k; have ih0 := lines_Right.mono_l k
  unfold lines_Right.f
  repeat' first
      | (with_reducible exact ih0 _ _ _ _)
      | (with_reducible exact LeO.refl _)
      | (with_reducible exact LeO.none _)
      | (with_reducible refine LeO.ite ?_ ?_)
      | (with_reducible refine LeO.bind ?_ (fun _ => ?_))
      | exact ih0 _ _ _ _
      | exact LeO.none _
      | refine LeO.ite ?_ ?_
      | refine LeO.bind ?_ (fun _ => ?_)
def lines_Right.T4 : Bool × List (List Nat × List Nat) := (true, [([], []), ([0], [0]), ([1], [1]), ([2, 1], [2]), ([3], [3]), ([4, 3], [3, 4]), ([5, 3, 3], [3, 5]), ([6], [6]), ([6], [6]), ([8, 6], [6, 8]), ([7, 9, 6], [6, 7, 9]), ([10, 6], [6, 10]), ([6], [6]), ([11, 12, 6, 6], [6, 11, 12]), ([13, 6], [6, 13]), ([6, 14, 3], [3, 6, 14]), ([3, 15], [3, 15])])
def lines_Right.B4 : List Nat := [0, 1, 3, 7, 15, 31, 63, 127, 127, 383, 1023, 2047, 127, 8191, 16383, 32767, 65535]
theorem lines_Right.tab4 : rtab .any (opsOf Tryd.f29 4) = lines_Right.T4 := by kernel_rfl
theorem lines_Right.bits4 : waitsOk lines_Right.T4.2 lines_Right.B4 = true := by kernel_rfl
set_option maxHeartbeats 8000000 in
set_option maxRecDepth 100000 in
theorem lines_Right.calls (k : Nat) (A0 : Option Addr) (c0 : Nat) (l0 : List (S52)) (r : Bool) (w : World) (hr0 : Kd.C k52 w A0 l0.length l0) (hc0 : l0.length ≤ c0) (hT : Tabs w) (h : lines_Right.f k l0 = some r) :
    Calls Tryd.prog 29 #[.slice A0 l0.length c0] w fun e w' => e = .returned (.bool r) ∧ Below w.heap.size w w' := by
  have hu52 := Tryd.underlying52; have HR0 := am hr0; have HC0 := am hc0; clear hr0 hc0; have HT := am hT; clear hT; have HB := am (Below.refl w.heap.size w); have H : (lines_Right.l0 k l0 l0 (l0.length : Int) 0) = some r := h; clear h; have H' := am H; clear H
  go_enter Tryd.func29, Tryd.ntmps29
  go_wp2
  go_loopg [7] k (fun kq v7 w' => ∃ (x7_1 : Int), v7 = .int .i64 x7_1 ∧ Aside0 (lines_Right.l0 kq l0 l0 (l0.length : Int) x7_1 = some r) ∧ Aside0 (kq ≤ k) ∧ Aside0 (Below w.heap.size w w'))
  case atStart => exact ⟨(0), ap3, H', ⟨Nat.le_refl _⟩, ⟨beu HB.out⟩⟩
  case round =>
    clear H'; obtain ⟨x7_1, rfl, HA, HK1, HB⟩ := hrel
    cases gk with
    | zero => exact absurd HA.out (by simp [lines_Right.l0])
    | succ k1 =>
      have H := HA.out; clear HA; simp only [lines_Right.l0] at H
      by_cases c2 : x7_1 < (l0.length : Int)
      · rw [if_pos c2] at H
        have c2b0 : decide (x7_1 < (l0.length : Int)) = true := decide_eq_true c2; clear c2
        by_cases c3 : 0 ≤ x7_1
        · rw [if_pos c3] at H
          have c3b0 : decide (0 ≤ x7_1) = true := decide_eq_true c3; clear c3
          by_cases c4 : x7_1 < (l0.length : Int)
          · rw [if_pos c4] at H
            have c4b0 : decide (x7_1 < (l0.length : Int)) = true := decide_eq_true c4; clear c4; replace H := obm H; obtain ⟨t121, A50, H⟩ := H; replace H : (if t121 = true then (if x7_1 > 0 then (if 0 ≤ (wrap64 (x7_1 - 1)) then (if (wrap64 (x7_1 - 1)) < (l0.length : Int) then ((lines_bySku.f ((rd_T52 l0 (wrap64 (x7_1 - 1))).f0) ((rd_T52 l0 (wrap64 (x7_1 - 1))).f1) ((rd_T52 l0 (wrap64 (x7_1 - 1))).f2) ((rd_T52 l0 x7_1).f0) ((rd_T52 l0 x7_1).f1) ((rd_T52 l0 x7_1).f2)).bind fun t123 => (if t123 ≥ 0 then (some false) else (lines_Right.l0 k1 l0 l0 (l0.length : Int) (wrap64 (x7_1 + 1))))) else (none)) else (none)) else (lines_Right.l0 k1 l0 l0 (l0.length : Int) (wrap64 (x7_1 + 1)))) else (some false)) = some r := H; have A5 := am A50; clear A50
            by_cases c6 : t121 = true
            · subst c6
              have H1 : (if x7_1 > 0 then (if 0 ≤ (wrap64 (x7_1 - 1)) then (if (wrap64 (x7_1 - 1)) < (l0.length : Int) then ((lines_bySku.f ((rd_T52 l0 (wrap64 (x7_1 - 1))).f0) ((rd_T52 l0 (wrap64 (x7_1 - 1))).f1) ((rd_T52 l0 (wrap64 (x7_1 - 1))).f2) ((rd_T52 l0 x7_1).f0) ((rd_T52 l0 x7_1).f1) ((rd_T52 l0 x7_1).f2)).bind fun t123 => (if t123 ≥ 0 then (some false) else (lines_Right.l0 k1 l0 l0 (l0.length : Int) (wrap64 (x7_1 + 1))))) else (none)) else (none)) else (lines_Right.l0 k1 l0 l0 (l0.length : Int) (wrap64 (x7_1 + 1)))) = some r := by rw [if_pos rfl] at H; exact H
              clear H; have H := H1; clear H1
              by_cases c7 : x7_1 > 0
              · rw [if_pos c7] at H
                have c7b0 : decide (0 < x7_1) = true := decide_eq_true c7; clear c7; obtain ⟨ji8, hji8⟩ : ∃ j_ : Int, (wrap64 (x7_1 - 1)) = j_ := ⟨_, rfl⟩
                replace H : (if 0 ≤ (ji8) then (if (ji8) < (l0.length : Int) then ((lines_bySku.f ((rd_T52 l0 (ji8)).f0) ((rd_T52 l0 (ji8)).f1) ((rd_T52 l0 (ji8)).f2) ((rd_T52 l0 x7_1).f0) ((rd_T52 l0 x7_1).f1) ((rd_T52 l0 x7_1).f2)).bind fun t123 => (if t123 ≥ 0 then (some false) else (lines_Right.l0 k1 l0 l0 (l0.length : Int) (wrap64 (x7_1 + 1))))) else (none)) else (none)) = some r := by first | (rw [hji8] at H; exact H) | (simp only [hji8] at H ⊢; exact H)
                (try rw [hji8] at A5)
                have hji8w : (IntKind.i64.wrap (x7_1 - 1)) = ji8 := (i64_w _).trans hji8
                by_cases c9 : 0 ≤ (ji8)
                · rw [if_pos c9] at H
                  have c9b0 : decide (0 ≤ (ji8)) = true := decide_eq_true c9; clear c9
                  by_cases c10 : (ji8) < (l0.length : Int)
                  · rw [if_pos c10] at H
                    have c10b0 : decide ((ji8) < (l0.length : Int)) = true := decide_eq_true c10; clear c10; replace H := obm H; obtain ⟨t123, A110, H⟩ := H; replace H : (if t123 ≥ 0 then (some false) else (lines_Right.l0 k1 l0 l0 (l0.length : Int) (wrap64 (x7_1 + 1)))) = some r := H; have A11 := am A110; clear A110
                    by_cases c12 : t123 ≥ 0
                    · rw [if_pos c12] at H
                      have c12b0 : decide (0 ≤ t123) = true := decide_eq_true c12; clear c12; obtain rfl := Option.some.inj H; simp only [Option.some.injEq, Prod.mk.injEq] at H; obtain ⟨rfl⟩ := H; have p119 : 0 ≤ (x7_1 : Int) := of_decide_eq_true ap2; have q119 : x7_1 < (l0.length : Int) := of_decide_eq_true ap2; obtain ⟨ad119, e119, hx119_0, hx119_1, hx119_2⟩ := at_T52 HR0.out x7_1 p119 q119
                      cases e119
                      replace hx119_0 := (HB.out.cell (World.block_lt_of_cell? w _ hx119_0)).trans hx119_0; replace hx119_1 := (HB.out.cell (World.block_lt_of_cell? w _ hx119_1)).trans hx119_1; replace hx119_2 := (HB.out.cell (World.block_lt_of_cell? w _ hx119_2)).trans hx119_2; replace p119 := eq_true p119; replace q119 := eq_true q119
                      try go_wp2_with (first | ((with_reducible refine gate_dst (N := 4) rfl ?_); (try (refine gate_guard (by rfl) ?_; dsimp only)); refine box_event ?hg (N := 4) ?hd (cs := #[.string ⟨#[]⟩, .int .i64 0, .int .i64 0]) (t := 52) ?hr ?_; (case hd => rfl); (case hg => rfl); (case hr => first | (go_simp; done) | (go_simp; rfl)); intro gb120 hg w13 hbox hb; have _ := am (below_step (beu HB.out) hb); have _ := am (hbox); have _ := am ((by rw [hg]; exact (below_size (beu HB.out)) : w.heap.size ≤ gb120)); have _ := am ((by rw [hg]; exact (below_size (beu HB.out)) : w.heap.size ≤ gb120)); clear HB; rename_i HB BK120 GW120 GE120; clear hb hbox hg; obtain ⟨hcz14_0, hcz14_1, hcz14_2⟩ := cells3 BK120.out; obtain ⟨hfz14_0, hfz14_1, hfz14_2⟩ := frozens3 BK120.out))
                      have n0_ : Aside0 ((((w13.setCell ⟨gb120, 0, none⟩ (.string ((rd_T52 l0 x7_1).f0))).setCell ⟨gb120, 1, none⟩ (.int .i64 ((rd_T52 l0 x7_1).f1))).setCell ⟨gb120, 2, none⟩ (.int .i64 ((rd_T52 l0 x7_1).f2))).heap[gb120]? = some (.cells #[.string ((rd_T52 l0 x7_1).f0), .int .i64 ((rd_T52 l0 x7_1).f1), .int .i64 ((rd_T52 l0 x7_1).f2)] 52 (0, 0))) := ⟨by refine bu ?_; refine blk_put (cs := #[.string ((rd_T52 l0 x7_1).f0), .int .i64 ((rd_T52 l0 x7_1).f1), .int .i64 0]) ?_ 2 _ rfl; refine bu ?_; refine blk_put (cs := #[.string ((rd_T52 l0 x7_1).f0), .int .i64 0, .int .i64 0]) ?_ 1 _ rfl; refine bu ?_; refine blk_put (cs := #[.string ⟨#[]⟩, .int .i64 0, .int .i64 0]) ?_ 0 _ rfl; refine bu ?_; exact BK120.out⟩; have n1_ : Aside0 (Below w.heap.size w (((w13.setCell ⟨gb120, 0, none⟩ (.string ((rd_T52 l0 x7_1).f0))).setCell ⟨gb120, 1, none⟩ (.int .i64 ((rd_T52 l0 x7_1).f1))).setCell ⟨gb120, 2, none⟩ (.int .i64 ((rd_T52 l0 x7_1).f2)))) := ⟨beu HB.out⟩
                      (try clear BK120)
                      (try clear HB)
                      generalize (((w13.setCell ⟨gb120, 0, none⟩ (.string ((rd_T52 l0 x7_1).f0))).setCell ⟨gb120, 1, none⟩ (.int .i64 ((rd_T52 l0 x7_1).f1))).setCell ⟨gb120, 2, none⟩ (.int .i64 ((rd_T52 l0 x7_1).f2))) = w15 at n0_ n1_ ⊢; have BK120 := n0_; have HB := n1_; clear n0_ n1_
                      (try (rw [drewN_self w15]; generalize hq_ : World.drewN w15 _ = w15; have _ := am (blk_at hq_ BK120.out); have _ := am (below_at hq_ HB.out); clear hq_ BK120 HB; rename_i BK120 HB))
                      have n0_ := am (blk_drew BK120.out); have n1_ := am (below_drew1 HB.out); clear BK120 HB; have BK120 := n0_; have HB := n1_; clear n0_ n1_; have p122 : 0 ≤ ((ji8) : Int) := of_decide_eq_true ap2; have q122 : (ji8) < (l0.length : Int) := of_decide_eq_true ap2; obtain ⟨ad122, e122, hx122_0, hx122_1, hx122_2⟩ := at_T52 HR0.out (ji8) p122 q122; have hw122_2 := hx122_2; have hw122_1 := hx122_1; have hw122_0 := hx122_0; obtain rfl : ad119 = ad122 := (by injection e122); replace hx122_0 := (HB.out.cell (World.block_lt_of_cell? w _ hx122_0)).trans hx122_0; replace hx122_1 := (HB.out.cell (World.block_lt_of_cell? w _ hx122_1)).trans hx122_1; replace hx122_2 := (HB.out.cell (World.block_lt_of_cell? w _ hx122_2)).trans hx122_2; replace p122 := eq_true p122; replace q122 := eq_true q122
                      refine start_ (n := 17) (S := fun w' => w'.cell? ⟨gb120, 0, none⟩ = some (.string ((rd_T52 l0 x7_1).f0)) ∧ w'.cell? ⟨gb120, 1, none⟩ = some (.int .i64 ((rd_T52 l0 x7_1).f1)) ∧ w'.cell? ⟨gb120, 2, none⟩ = some (.int .i64 ((rd_T52 l0 x7_1).f2)) ∧ w'.cell? (ad119.add (((ji8)).toNat * 3)) = some (.string ((rd_T52 l0 (ji8)).f0)) ∧ w'.cell? ⟨(ad119.add (((ji8)).toNat * 3)).block, (ad119.add (((ji8)).toNat * 3)).off + 1, none⟩ = some (.int .i64 ((rd_T52 l0 (ji8)).f1)) ∧ w'.cell? ⟨(ad119.add (((ji8)).toNat * 3)).block, (ad119.add (((ji8)).toNat * 3)).off + 2, none⟩ = some (.int .i64 ((rd_T52 l0 (ji8)).f2))) (ds := []) #[false, false, false, false, false, false, false, false, false, false, false, false, false, false, false, false, false] (by kernel_rfl) rfl rfl ⟨(blk_cell BK120.out 0).trans rfl, (blk_cell BK120.out 1).trans rfl, (blk_cell BK120.out 2).trans rfl, ((HB.out.cell (World.block_lt_of_cell? w _ hw122_0)).trans hw122_0), ((HB.out.cell (World.block_lt_of_cell? w _ hw122_1)).trans hw122_1), ((HB.out.cell (World.block_lt_of_cell? w _ hw122_2)).trans hw122_2)⟩ (fun hHeld => ?_); refine with_tabW lines_Right.tab4 lines_Right.bits4 (fun HT_ HW_ => ?_)
                      generalize w15.drew = w16 at BK120 HB hx122_0 hx122_1 hx122_2 hHeld ⊢; refine take_ (i := 0) (N := some 12) (v := ?_) (a' := ?_) (bs 17 1) rfl rfl (take_ofW HT_.out HW_.out (by kernel_rfl)) (fun _ _ _ h => h) (Or.inl ⟨by rfl, ?_⟩) hHeld ?_ ?_; rotate_left
                      · rintro w' ⟨s0, s1, s2, s3, s4, s5⟩
                        go_simp
                        (with_reducible rfl)
                      rotate_left
                      · simp only [Act.put, sA, sB, sC, i64_w, i32_w]
                        rfl
                      refine one_ (i := 1) (N := some 13) (bs 17 3) rfl rfl (one_of HT_.out (by kernel_rfl)) (by decide) (fun K hK => ?_); refine goes_ Tryd.func51 (by kernel_rfl) rfl #[.agg #[.string ((rd_T52 l0 x7_1).f0), .int .i64 ((rd_T52 l0 x7_1).f1), .int .i64 ((rd_T52 l0 x7_1).f2)]] (by rfl) rfl rfl ap1 ?_; (with_reducible refine (lines_one.calls ((rd_T52 l0 x7_1).f0) ((rd_T52 l0 x7_1).f1) ((rd_T52 l0 x7_1).f2) true _ ?side1 A5.out).mono ?_)
                      (case side1 => first | (with_reducible exact HT.out) | exact Tabs.below HT.out (beu HB.out))
                      rintro e w17 ⟨rfl, hb⟩; refine ⟨_, rfl, ?_⟩; have n0_ := am (blk_below (bu BK120.out) hb); have n1_ := am (below_step (beu HB.out) hb); clear BK120 HB; have BK120 := n0_; have HB := n1_; clear n0_ n1_
                      (try clear hb)
                      (try clear hb2)
                      (try clear hk)
                      (try clear hi)
                      refine hK.out _ _ ⟨(blk_cell BK120.out 0).trans rfl, (blk_cell BK120.out 1).trans rfl, (blk_cell BK120.out 2).trans rfl, ((HB.out.cell (World.block_lt_of_cell? w _ hw122_0)).trans hw122_0), ((HB.out.cell (World.block_lt_of_cell? w _ hw122_1)).trans hw122_1), ((HB.out.cell (World.block_lt_of_cell? w _ hw122_2)).trans hw122_2)⟩ (fun hHeld => ?_); clear hK K; refine norm_ (a' := ?_) ?_ ?_; rotate_left
                      · show Act.put _ (some 13) _ = _
                        simp only [Act.put, sA, sB, sC, i64_w, i32_w]
                        rfl
                      refine pure_ (i := 2) (N := some 14) (v := ?_) (a' := ?_) (bs 17 7) rfl rfl (ak HT_.out) (fun _ _ _ h => h) (Or.inl ⟨by rfl, ?_⟩) ?_ ?_; rotate_left
                      · intro w'
                        go_simp
                        (with_reducible rfl)
                      rotate_left
                      · simp only [Act.put, sA, sB, sC, i64_w, i32_w]
                        rfl
                      refine pure_ (i := 3) (N := some 15) (v := ?_) (a' := ?_) (bs 17 15) rfl rfl (ak HT_.out) (fun _ _ _ h => h) (Or.inl ⟨by rfl, ?_⟩) ?_ ?_; rotate_left
                      · intro w'
                        go_simp
                        (with_reducible rfl)
                      rotate_left
                      · simp only [Act.put, sA, sB, sC, i64_w, i32_w]
                        rfl
                      refine pure_ (i := 4) (N := some 16) (v := ?_) (a' := ?_) (bs 17 31) rfl rfl (ak HT_.out) (fun _ _ _ h => h) (Or.inl ⟨by rfl, ?_⟩) ?_ ?_; rotate_left
                      · intro w'
                        go_simp
                        (with_reducible rfl)
                      rotate_left
                      · simp only [Act.put, sA, sB, sC, i64_w, i32_w]
                        rfl
                      refine pure_ (i := 5) (N := some 17) (v := ?_) (a' := ?_) (bs 17 63) rfl rfl (ak HT_.out) (fun _ _ _ h => h) (Or.inl ⟨by rfl, ?_⟩) ?_ ?_; rotate_left
                      · intro w'
                        go_simp
                        (with_reducible rfl)
                      rotate_left
                      · simp only [Act.put, sA, sB, sC, i64_w, i32_w]
                        rfl
                      refine pure_ (i := 6) (N := some 18) (v := ?_) (a' := ?_) (bs 17 127) rfl rfl (ak HT_.out) (fun _ _ _ h => h) (Or.inl ⟨by rfl, ?_⟩) ?_ ?_; rotate_left
                      · intro w'
                        go_simp
                        (with_reducible rfl)
                      rotate_left
                      · simp only [Act.put, sA, sB, sC, i64_w, i32_w]
                        rfl
                      refine pure_ (i := 7) (N := some 19) (v := ?_) (a' := ?_) (bs 17 255) rfl rfl (ak HT_.out) (fun _ _ _ h => h) (Or.inl ⟨by rfl, ?_⟩) ?_ ?_; rotate_left
                      · intro w'
                        go_simp
                        (with_reducible rfl)
                      rotate_left
                      · simp only [Act.put, sA, sB, sC, i64_w, i32_w]
                        rfl
                      refine pure_ (i := 8) (N := some 20) (v := ?_) (a' := ?_) (bs 17 511) rfl rfl (ak HT_.out) (fun _ _ _ h => h) (Or.inl ⟨by rfl, ?_⟩) ?_ ?_; rotate_left
                      · intro w'
                        go_simp
                        (with_reducible rfl)
                      rotate_left
                      · simp only [Act.put, sA, sB, sC, i64_w, i32_w]
                        rfl
                      refine pure_ (i := 9) (N := some 21) (v := ?_) (a' := ?_) (bs 17 1023) rfl rfl (ak HT_.out) (fun _ _ _ h => h) (Or.inl ⟨by rfl, ?_⟩) ?_ ?_; rotate_left
                      · intro w'
                        go_simp
                        (with_reducible rfl)
                      rotate_left
                      · simp only [Act.put, sA, sB, sC, i64_w, i32_w]
                        rfl
                      refine pure_ (i := 10) (N := some 22) (v := ?_) (a' := ?_) (bs 17 2047) rfl rfl (ak HT_.out) (fun _ _ _ h => h) (Or.inl ⟨by rfl, ?_⟩) ?_ ?_; rotate_left
                      · intro w'
                        go_simp
                        (with_reducible rfl)
                      rotate_left
                      · simp only [Act.put, sA, sB, sC, i64_w, i32_w]
                        rfl
                      refine take_ (i := 11) (N := some 23) (v := ?_) (a' := ?_) (bs 17 4095) rfl rfl (take_ofW HT_.out HW_.out (by kernel_rfl)) (fun _ _ _ h => h) (Or.inl ⟨by rfl, ?_⟩) hHeld ?_ ?_; rotate_left
                      · rintro w' ⟨s0, s1, s2, s3, s4, s5⟩
                        go_simp
                        (with_reducible rfl)
                      rotate_left
                      · simp only [Act.put, sA, sB, sC, i64_w, i32_w]
                        rfl
                      refine take_ (i := 12) (N := some 24) (v := ?_) (a' := ?_) (bs 17 8191) rfl rfl (take_ofW HT_.out HW_.out (by kernel_rfl)) (fun _ _ _ h => h) (Or.inl ⟨by rfl, ?_⟩) hHeld ?_ ?_; rotate_left
                      · rintro w' ⟨s0, s1, s2, s3, s4, s5⟩
                        go_simp
                        (with_reducible rfl)
                      rotate_left
                      · simp only [Act.put, sA, sB, sC, i64_w, i32_w]
                        rfl
                      refine one_ (i := 13) (N := some 25) (bs 17 16383) rfl rfl (one_of HT_.out (by kernel_rfl)) (by decide) (fun K hK => ?_); refine goes_ Tryd.func52 (by kernel_rfl) rfl #[.agg #[.string ((rd_T52 l0 (ji8)).f0), .int .i64 ((rd_T52 l0 (ji8)).f1), .int .i64 ((rd_T52 l0 (ji8)).f2)], .agg #[.string ((rd_T52 l0 x7_1).f0), .int .i64 ((rd_T52 l0 x7_1).f1), .int .i64 ((rd_T52 l0 x7_1).f2)]] (by rfl) rfl rfl (by (try simp only [List.map_toArray, List.map_cons, List.map_nil]); first | done | (simp only [hji8]; rfl) | rfl | (simp only [List.length_drop, List.length_take]; rfl)) ?_; (with_reducible refine (lines_bySku.calls ((rd_T52 l0 (ji8)).f0) ((rd_T52 l0 (ji8)).f1) ((rd_T52 l0 (ji8)).f2) ((rd_T52 l0 x7_1).f0) ((rd_T52 l0 x7_1).f1) ((rd_T52 l0 x7_1).f2) t123 _ A11.out).mono ?_); rintro e w18 ⟨rfl, hb⟩; refine ⟨_, rfl, ?_⟩; have n0_ := am (blk_below (bu BK120.out) hb); have n1_ := am (below_step (beu HB.out) hb); clear BK120 HB; have BK120 := n0_; have HB := n1_; clear n0_ n1_
                      (try clear hb)
                      (try clear hb2)
                      (try clear hk)
                      (try clear hi)
                      refine hK.out _ _ ⟨(blk_cell BK120.out 0).trans rfl, (blk_cell BK120.out 1).trans rfl, (blk_cell BK120.out 2).trans rfl, ((HB.out.cell (World.block_lt_of_cell? w _ hw122_0)).trans hw122_0), ((HB.out.cell (World.block_lt_of_cell? w _ hw122_1)).trans hw122_1), ((HB.out.cell (World.block_lt_of_cell? w _ hw122_2)).trans hw122_2)⟩ (fun hHeld => ?_); clear hK K; refine norm_ (a' := ?_) ?_ ?_; rotate_left
                      · show Act.put _ (some 25) _ = _
                        simp only [Act.put, sA, sB, sC, i64_w, i32_w]
                        rfl
                      refine pure_ (i := 14) (N := some 26) (v := ?_) (a' := ?_) (bs 17 32767) rfl rfl (ak HT_.out) (fun _ _ _ h => h) (Or.inl ⟨by rfl, ?_⟩) ?_ ?_; rotate_left
                      · intro w'
                        go_simp
                        (with_reducible rfl)
                      rotate_left
                      · simp only [Act.put, sA, sB, sC, i64_w, i32_w]
                        rfl
                      refine pure_ (i := 15) (N := some 27) (v := ?_) (a' := ?_) (bs 17 65535) rfl rfl (ak HT_.out) (fun _ _ _ h => h) (Or.inl ⟨by rfl, ?_⟩) ?_ ?_; rotate_left
                      · intro w'
                        go_simp
                        (with_reducible rfl)
                      rotate_left
                      · simp only [Act.put, sA, sB, sC, i64_w, i32_w]
                        rfl
                      refine pure_ (i := 16) (N := some 28) (v := ?_) (a' := ?_) (bs 17 131071) rfl rfl (ak HT_.out) (fun _ _ _ h => h) (Or.inl ⟨by rfl, ?_⟩) ?_ ?_; rotate_left
                      · intro w'
                        go_simp
                        (with_reducible rfl)
                      rotate_left
                      · simp only [Act.put, sA, sB, sC, i64_w, i32_w]
                        rfl
                      refine done_ (done_of HT_.out (by kernel_rfl)) ?_
                      try go_wp2
                      go_ret
                      exact ⟨by first | rfl | (simp [errW_none, errW_some] <;> rfl) | (simp only [← hji8]; first | rfl | (simp [errW_none, errW_some] <;> rfl)) | (simp [*, errW_none, errW_some] <;> rfl), beu HB.out⟩
                    · rw [if_neg c12] at H
                      have c12b0 : decide (0 ≤ t123) = false := decide_eq_false c12; clear c12; have H' := am H; clear H; have p119 : 0 ≤ (x7_1 : Int) := of_decide_eq_true ap2; have q119 : x7_1 < (l0.length : Int) := of_decide_eq_true ap2; obtain ⟨ad119, e119, hx119_0, hx119_1, hx119_2⟩ := at_T52 HR0.out x7_1 p119 q119
                      cases e119
                      replace hx119_0 := (HB.out.cell (World.block_lt_of_cell? w _ hx119_0)).trans hx119_0; replace hx119_1 := (HB.out.cell (World.block_lt_of_cell? w _ hx119_1)).trans hx119_1; replace hx119_2 := (HB.out.cell (World.block_lt_of_cell? w _ hx119_2)).trans hx119_2; replace p119 := eq_true p119; replace q119 := eq_true q119
                      try go_wp2_with (first | ((with_reducible refine gate_dst (N := 4) rfl ?_); (try (refine gate_guard (by rfl) ?_; dsimp only)); refine box_event ?hg (N := 4) ?hd (cs := #[.string ⟨#[]⟩, .int .i64 0, .int .i64 0]) (t := 52) ?hr ?_; (case hd => rfl); (case hg => rfl); (case hr => first | (go_simp; done) | (go_simp; rfl)); intro gb120 hg w19 hbox hb; have _ := am (below_step (beu HB.out) hb); have _ := am (hbox); have _ := am ((by rw [hg]; exact (below_size (beu HB.out)) : w.heap.size ≤ gb120)); have _ := am ((by rw [hg]; exact (below_size (beu HB.out)) : w.heap.size ≤ gb120)); clear HB; rename_i HB BK120 GW120 GE120; clear hb hbox hg; obtain ⟨hcz20_0, hcz20_1, hcz20_2⟩ := cells3 BK120.out; obtain ⟨hfz20_0, hfz20_1, hfz20_2⟩ := frozens3 BK120.out))
                      have n0_ : Aside0 ((((w19.setCell ⟨gb120, 0, none⟩ (.string ((rd_T52 l0 x7_1).f0))).setCell ⟨gb120, 1, none⟩ (.int .i64 ((rd_T52 l0 x7_1).f1))).setCell ⟨gb120, 2, none⟩ (.int .i64 ((rd_T52 l0 x7_1).f2))).heap[gb120]? = some (.cells #[.string ((rd_T52 l0 x7_1).f0), .int .i64 ((rd_T52 l0 x7_1).f1), .int .i64 ((rd_T52 l0 x7_1).f2)] 52 (0, 0))) := ⟨by refine bu ?_; refine blk_put (cs := #[.string ((rd_T52 l0 x7_1).f0), .int .i64 ((rd_T52 l0 x7_1).f1), .int .i64 0]) ?_ 2 _ rfl; refine bu ?_; refine blk_put (cs := #[.string ((rd_T52 l0 x7_1).f0), .int .i64 0, .int .i64 0]) ?_ 1 _ rfl; refine bu ?_; refine blk_put (cs := #[.string ⟨#[]⟩, .int .i64 0, .int .i64 0]) ?_ 0 _ rfl; refine bu ?_; exact BK120.out⟩; have n1_ : Aside0 (Below w.heap.size w (((w19.setCell ⟨gb120, 0, none⟩ (.string ((rd_T52 l0 x7_1).f0))).setCell ⟨gb120, 1, none⟩ (.int .i64 ((rd_T52 l0 x7_1).f1))).setCell ⟨gb120, 2, none⟩ (.int .i64 ((rd_T52 l0 x7_1).f2)))) := ⟨beu HB.out⟩
                      (try clear BK120)
                      (try clear HB)
                      generalize (((w19.setCell ⟨gb120, 0, none⟩ (.string ((rd_T52 l0 x7_1).f0))).setCell ⟨gb120, 1, none⟩ (.int .i64 ((rd_T52 l0 x7_1).f1))).setCell ⟨gb120, 2, none⟩ (.int .i64 ((rd_T52 l0 x7_1).f2))) = w21 at n0_ n1_ ⊢; have BK120 := n0_; have HB := n1_; clear n0_ n1_
                      (try (rw [drewN_self w21]; generalize hq_ : World.drewN w21 _ = w21; have _ := am (blk_at hq_ BK120.out); have _ := am (below_at hq_ HB.out); clear hq_ BK120 HB; rename_i BK120 HB))
                      have n0_ := am (blk_drew BK120.out); have n1_ := am (below_drew1 HB.out); clear BK120 HB; have BK120 := n0_; have HB := n1_; clear n0_ n1_; have p122 : 0 ≤ ((ji8) : Int) := of_decide_eq_true ap2; have q122 : (ji8) < (l0.length : Int) := of_decide_eq_true ap2; obtain ⟨ad122, e122, hx122_0, hx122_1, hx122_2⟩ := at_T52 HR0.out (ji8) p122 q122; have hw122_2 := hx122_2; have hw122_1 := hx122_1; have hw122_0 := hx122_0; obtain rfl : ad119 = ad122 := (by injection e122); replace hx122_0 := (HB.out.cell (World.block_lt_of_cell? w _ hx122_0)).trans hx122_0; replace hx122_1 := (HB.out.cell (World.block_lt_of_cell? w _ hx122_1)).trans hx122_1; replace hx122_2 := (HB.out.cell (World.block_lt_of_cell? w _ hx122_2)).trans hx122_2; replace p122 := eq_true p122; replace q122 := eq_true q122
                      refine start_ (n := 17) (S := fun w' => w'.cell? ⟨gb120, 0, none⟩ = some (.string ((rd_T52 l0 x7_1).f0)) ∧ w'.cell? ⟨gb120, 1, none⟩ = some (.int .i64 ((rd_T52 l0 x7_1).f1)) ∧ w'.cell? ⟨gb120, 2, none⟩ = some (.int .i64 ((rd_T52 l0 x7_1).f2)) ∧ w'.cell? (ad119.add (((ji8)).toNat * 3)) = some (.string ((rd_T52 l0 (ji8)).f0)) ∧ w'.cell? ⟨(ad119.add (((ji8)).toNat * 3)).block, (ad119.add (((ji8)).toNat * 3)).off + 1, none⟩ = some (.int .i64 ((rd_T52 l0 (ji8)).f1)) ∧ w'.cell? ⟨(ad119.add (((ji8)).toNat * 3)).block, (ad119.add (((ji8)).toNat * 3)).off + 2, none⟩ = some (.int .i64 ((rd_T52 l0 (ji8)).f2))) (ds := []) #[false, false, false, false, false, false, false, false, false, false, false, false, false, false, false, false, false] (by kernel_rfl) rfl rfl ⟨(blk_cell BK120.out 0).trans rfl, (blk_cell BK120.out 1).trans rfl, (blk_cell BK120.out 2).trans rfl, ((HB.out.cell (World.block_lt_of_cell? w _ hw122_0)).trans hw122_0), ((HB.out.cell (World.block_lt_of_cell? w _ hw122_1)).trans hw122_1), ((HB.out.cell (World.block_lt_of_cell? w _ hw122_2)).trans hw122_2)⟩ (fun hHeld => ?_); refine with_tabW lines_Right.tab4 lines_Right.bits4 (fun HT_ HW_ => ?_)
                      generalize w21.drew = w22 at BK120 HB hx122_0 hx122_1 hx122_2 hHeld ⊢; refine take_ (i := 0) (N := some 12) (v := ?_) (a' := ?_) (bs 17 1) rfl rfl (take_ofW HT_.out HW_.out (by kernel_rfl)) (fun _ _ _ h => h) (Or.inl ⟨by rfl, ?_⟩) hHeld ?_ ?_; rotate_left
                      · rintro w' ⟨s0, s1, s2, s3, s4, s5⟩
                        go_simp
                        (with_reducible rfl)
                      rotate_left
                      · simp only [Act.put, sA, sB, sC, i64_w, i32_w]
                        rfl
                      refine one_ (i := 1) (N := some 13) (bs 17 3) rfl rfl (one_of HT_.out (by kernel_rfl)) (by decide) (fun K hK => ?_); refine goes_ Tryd.func51 (by kernel_rfl) rfl #[.agg #[.string ((rd_T52 l0 x7_1).f0), .int .i64 ((rd_T52 l0 x7_1).f1), .int .i64 ((rd_T52 l0 x7_1).f2)]] (by rfl) rfl rfl ap1 ?_; (with_reducible refine (lines_one.calls ((rd_T52 l0 x7_1).f0) ((rd_T52 l0 x7_1).f1) ((rd_T52 l0 x7_1).f2) true _ ?side1 A5.out).mono ?_)
                      (case side1 => first | (with_reducible exact HT.out) | exact Tabs.below HT.out (beu HB.out))
                      rintro e w23 ⟨rfl, hb⟩; refine ⟨_, rfl, ?_⟩; have n0_ := am (blk_below (bu BK120.out) hb); have n1_ := am (below_step (beu HB.out) hb); clear BK120 HB; have BK120 := n0_; have HB := n1_; clear n0_ n1_
                      (try clear hb)
                      (try clear hb2)
                      (try clear hk)
                      (try clear hi)
                      refine hK.out _ _ ⟨(blk_cell BK120.out 0).trans rfl, (blk_cell BK120.out 1).trans rfl, (blk_cell BK120.out 2).trans rfl, ((HB.out.cell (World.block_lt_of_cell? w _ hw122_0)).trans hw122_0), ((HB.out.cell (World.block_lt_of_cell? w _ hw122_1)).trans hw122_1), ((HB.out.cell (World.block_lt_of_cell? w _ hw122_2)).trans hw122_2)⟩ (fun hHeld => ?_); clear hK K; refine norm_ (a' := ?_) ?_ ?_; rotate_left
                      · show Act.put _ (some 13) _ = _
                        simp only [Act.put, sA, sB, sC, i64_w, i32_w]
                        rfl
                      refine pure_ (i := 2) (N := some 14) (v := ?_) (a' := ?_) (bs 17 7) rfl rfl (ak HT_.out) (fun _ _ _ h => h) (Or.inl ⟨by rfl, ?_⟩) ?_ ?_; rotate_left
                      · intro w'
                        go_simp
                        (with_reducible rfl)
                      rotate_left
                      · simp only [Act.put, sA, sB, sC, i64_w, i32_w]
                        rfl
                      refine pure_ (i := 3) (N := some 15) (v := ?_) (a' := ?_) (bs 17 15) rfl rfl (ak HT_.out) (fun _ _ _ h => h) (Or.inl ⟨by rfl, ?_⟩) ?_ ?_; rotate_left
                      · intro w'
                        go_simp
                        (with_reducible rfl)
                      rotate_left
                      · simp only [Act.put, sA, sB, sC, i64_w, i32_w]
                        rfl
                      refine pure_ (i := 4) (N := some 16) (v := ?_) (a' := ?_) (bs 17 31) rfl rfl (ak HT_.out) (fun _ _ _ h => h) (Or.inl ⟨by rfl, ?_⟩) ?_ ?_; rotate_left
                      · intro w'
                        go_simp
                        (with_reducible rfl)
                      rotate_left
                      · simp only [Act.put, sA, sB, sC, i64_w, i32_w]
                        rfl
                      refine pure_ (i := 5) (N := some 17) (v := ?_) (a' := ?_) (bs 17 63) rfl rfl (ak HT_.out) (fun _ _ _ h => h) (Or.inl ⟨by rfl, ?_⟩) ?_ ?_; rotate_left
                      · intro w'
                        go_simp
                        (with_reducible rfl)
                      rotate_left
                      · simp only [Act.put, sA, sB, sC, i64_w, i32_w]
                        rfl
                      refine pure_ (i := 6) (N := some 18) (v := ?_) (a' := ?_) (bs 17 127) rfl rfl (ak HT_.out) (fun _ _ _ h => h) (Or.inl ⟨by rfl, ?_⟩) ?_ ?_; rotate_left
                      · intro w'
                        go_simp
                        (with_reducible rfl)
                      rotate_left
                      · simp only [Act.put, sA, sB, sC, i64_w, i32_w]
                        rfl
                      refine pure_ (i := 7) (N := some 19) (v := ?_) (a' := ?_) (bs 17 255) rfl rfl (ak HT_.out) (fun _ _ _ h => h) (Or.inl ⟨by rfl, ?_⟩) ?_ ?_; rotate_left
                      · intro w'
                        go_simp
                        (with_reducible rfl)
                      rotate_left
                      · simp only [Act.put, sA, sB, sC, i64_w, i32_w]
                        rfl
                      refine pure_ (i := 8) (N := some 20) (v := ?_) (a' := ?_) (bs 17 511) rfl rfl (ak HT_.out) (fun _ _ _ h => h) (Or.inl ⟨by rfl, ?_⟩) ?_ ?_; rotate_left
                      · intro w'
                        go_simp
                        (with_reducible rfl)
                      rotate_left
                      · simp only [Act.put, sA, sB, sC, i64_w, i32_w]
                        rfl
                      refine pure_ (i := 9) (N := some 21) (v := ?_) (a' := ?_) (bs 17 1023) rfl rfl (ak HT_.out) (fun _ _ _ h => h) (Or.inl ⟨by rfl, ?_⟩) ?_ ?_; rotate_left
                      · intro w'
                        go_simp
                        (with_reducible rfl)
                      rotate_left
                      · simp only [Act.put, sA, sB, sC, i64_w, i32_w]
                        rfl
                      refine pure_ (i := 10) (N := some 22) (v := ?_) (a' := ?_) (bs 17 2047) rfl rfl (ak HT_.out) (fun _ _ _ h => h) (Or.inl ⟨by rfl, ?_⟩) ?_ ?_; rotate_left
                      · intro w'
                        go_simp
                        (with_reducible rfl)
                      rotate_left
                      · simp only [Act.put, sA, sB, sC, i64_w, i32_w]
                        rfl
                      refine take_ (i := 11) (N := some 23) (v := ?_) (a' := ?_) (bs 17 4095) rfl rfl (take_ofW HT_.out HW_.out (by kernel_rfl)) (fun _ _ _ h => h) (Or.inl ⟨by rfl, ?_⟩) hHeld ?_ ?_; rotate_left
                      · rintro w' ⟨s0, s1, s2, s3, s4, s5⟩
                        go_simp
                        (with_reducible rfl)
                      rotate_left
                      · simp only [Act.put, sA, sB, sC, i64_w, i32_w]
                        rfl
                      refine take_ (i := 12) (N := some 24) (v := ?_) (a' := ?_) (bs 17 8191) rfl rfl (take_ofW HT_.out HW_.out (by kernel_rfl)) (fun _ _ _ h => h) (Or.inl ⟨by rfl, ?_⟩) hHeld ?_ ?_; rotate_left
                      · rintro w' ⟨s0, s1, s2, s3, s4, s5⟩
                        go_simp
                        (with_reducible rfl)
                      rotate_left
                      · simp only [Act.put, sA, sB, sC, i64_w, i32_w]
                        rfl
                      refine one_ (i := 13) (N := some 25) (bs 17 16383) rfl rfl (one_of HT_.out (by kernel_rfl)) (by decide) (fun K hK => ?_); refine goes_ Tryd.func52 (by kernel_rfl) rfl #[.agg #[.string ((rd_T52 l0 (ji8)).f0), .int .i64 ((rd_T52 l0 (ji8)).f1), .int .i64 ((rd_T52 l0 (ji8)).f2)], .agg #[.string ((rd_T52 l0 x7_1).f0), .int .i64 ((rd_T52 l0 x7_1).f1), .int .i64 ((rd_T52 l0 x7_1).f2)]] (by rfl) rfl rfl (by (try simp only [List.map_toArray, List.map_cons, List.map_nil]); first | done | (simp only [hji8]; rfl) | rfl | (simp only [List.length_drop, List.length_take]; rfl)) ?_; (with_reducible refine (lines_bySku.calls ((rd_T52 l0 (ji8)).f0) ((rd_T52 l0 (ji8)).f1) ((rd_T52 l0 (ji8)).f2) ((rd_T52 l0 x7_1).f0) ((rd_T52 l0 x7_1).f1) ((rd_T52 l0 x7_1).f2) t123 _ A11.out).mono ?_); rintro e w24 ⟨rfl, hb⟩; refine ⟨_, rfl, ?_⟩; have n0_ := am (blk_below (bu BK120.out) hb); have n1_ := am (below_step (beu HB.out) hb); clear BK120 HB; have BK120 := n0_; have HB := n1_; clear n0_ n1_
                      (try clear hb)
                      (try clear hb2)
                      (try clear hk)
                      (try clear hi)
                      refine hK.out _ _ ⟨(blk_cell BK120.out 0).trans rfl, (blk_cell BK120.out 1).trans rfl, (blk_cell BK120.out 2).trans rfl, ((HB.out.cell (World.block_lt_of_cell? w _ hw122_0)).trans hw122_0), ((HB.out.cell (World.block_lt_of_cell? w _ hw122_1)).trans hw122_1), ((HB.out.cell (World.block_lt_of_cell? w _ hw122_2)).trans hw122_2)⟩ (fun hHeld => ?_); clear hK K; refine norm_ (a' := ?_) ?_ ?_; rotate_left
                      · show Act.put _ (some 25) _ = _
                        simp only [Act.put, sA, sB, sC, i64_w, i32_w]
                        rfl
                      refine pure_ (i := 14) (N := some 26) (v := ?_) (a' := ?_) (bs 17 32767) rfl rfl (ak HT_.out) (fun _ _ _ h => h) (Or.inl ⟨by rfl, ?_⟩) ?_ ?_; rotate_left
                      · intro w'
                        go_simp
                        (with_reducible rfl)
                      rotate_left
                      · simp only [Act.put, sA, sB, sC, i64_w, i32_w]
                        rfl
                      refine pure_ (i := 15) (N := some 27) (v := ?_) (a' := ?_) (bs 17 65535) rfl rfl (ak HT_.out) (fun _ _ _ h => h) (Or.inl ⟨by rfl, ?_⟩) ?_ ?_; rotate_left
                      · intro w'
                        go_simp
                        (with_reducible rfl)
                      rotate_left
                      · simp only [Act.put, sA, sB, sC, i64_w, i32_w]
                        rfl
                      refine pure_ (i := 16) (N := some 28) (v := ?_) (a' := ?_) (bs 17 131071) rfl rfl (ak HT_.out) (fun _ _ _ h => h) (Or.inl ⟨by rfl, ?_⟩) ?_ ?_; rotate_left
                      · intro w'
                        go_simp
                        (with_reducible rfl)
                      rotate_left
                      · simp only [Act.put, sA, sB, sC, i64_w, i32_w]
                        rfl
                      refine done_ (done_of HT_.out (by kernel_rfl)) ?_
                      try go_wp2
                      go_roundg k1
                      case measure => have := HK1.out; omega
                      case rel => exact ⟨(wrap64 (x7_1 + 1)), ap3, H', ⟨by have := HK1.out; omega⟩, ⟨beu HB.out⟩⟩
                  · rw [if_neg c10] at H
                    exact absurd H (by simp)
                · rw [if_neg c9] at H
                  exact absurd H (by simp)
              · rw [if_neg c7] at H
                have c7b0 : decide (0 < x7_1) = false := decide_eq_false c7; clear c7; have H' := am H; clear H; have p119 : 0 ≤ (x7_1 : Int) := of_decide_eq_true ap2; have q119 : x7_1 < (l0.length : Int) := of_decide_eq_true ap2; obtain ⟨ad119, e119, hx119_0, hx119_1, hx119_2⟩ := at_T52 HR0.out x7_1 p119 q119
                cases e119
                replace hx119_0 := (HB.out.cell (World.block_lt_of_cell? w _ hx119_0)).trans hx119_0; replace hx119_1 := (HB.out.cell (World.block_lt_of_cell? w _ hx119_1)).trans hx119_1; replace hx119_2 := (HB.out.cell (World.block_lt_of_cell? w _ hx119_2)).trans hx119_2; replace p119 := eq_true p119; replace q119 := eq_true q119
                try go_wp2_with (first | ((with_reducible refine gate_dst (N := 4) rfl ?_); (try (refine gate_guard (by rfl) ?_; dsimp only)); refine box_event ?hg (N := 4) ?hd (cs := #[.string ⟨#[]⟩, .int .i64 0, .int .i64 0]) (t := 52) ?hr ?_; (case hd => rfl); (case hg => rfl); (case hr => first | (go_simp; done) | (go_simp; rfl)); intro gb120 hg w25 hbox hb; have _ := am (below_step (beu HB.out) hb); have _ := am (hbox); have _ := am ((by rw [hg]; exact (below_size (beu HB.out)) : w.heap.size ≤ gb120)); have _ := am ((by rw [hg]; exact (below_size (beu HB.out)) : w.heap.size ≤ gb120)); clear HB; rename_i HB BK120 GW120 GE120; clear hb hbox hg; obtain ⟨_, _, _⟩ := cells3 BK120.out; obtain ⟨_, _, _⟩ := frozens3 BK120.out))
                have n0_ : Aside0 ((((w25.setCell ⟨gb120, 0, none⟩ (.string ((rd_T52 l0 x7_1).f0))).setCell ⟨gb120, 1, none⟩ (.int .i64 ((rd_T52 l0 x7_1).f1))).setCell ⟨gb120, 2, none⟩ (.int .i64 ((rd_T52 l0 x7_1).f2))).heap[gb120]? = some (.cells #[.string ((rd_T52 l0 x7_1).f0), .int .i64 ((rd_T52 l0 x7_1).f1), .int .i64 ((rd_T52 l0 x7_1).f2)] 52 (0, 0))) := ⟨by refine bu ?_; refine blk_put (cs := #[.string ((rd_T52 l0 x7_1).f0), .int .i64 ((rd_T52 l0 x7_1).f1), .int .i64 0]) ?_ 2 _ rfl; refine bu ?_; refine blk_put (cs := #[.string ((rd_T52 l0 x7_1).f0), .int .i64 0, .int .i64 0]) ?_ 1 _ rfl; refine bu ?_; refine blk_put (cs := #[.string ⟨#[]⟩, .int .i64 0, .int .i64 0]) ?_ 0 _ rfl; refine bu ?_; exact BK120.out⟩; have n1_ : Aside0 (Below w.heap.size w (((w25.setCell ⟨gb120, 0, none⟩ (.string ((rd_T52 l0 x7_1).f0))).setCell ⟨gb120, 1, none⟩ (.int .i64 ((rd_T52 l0 x7_1).f1))).setCell ⟨gb120, 2, none⟩ (.int .i64 ((rd_T52 l0 x7_1).f2)))) := ⟨beu HB.out⟩
                (try clear BK120)
                (try clear HB)
                generalize (((w25.setCell ⟨gb120, 0, none⟩ (.string ((rd_T52 l0 x7_1).f0))).setCell ⟨gb120, 1, none⟩ (.int .i64 ((rd_T52 l0 x7_1).f1))).setCell ⟨gb120, 2, none⟩ (.int .i64 ((rd_T52 l0 x7_1).f2))) = w27 at n0_ n1_ ⊢; have BK120 := n0_; have HB := n1_; clear n0_ n1_
                (try (rw [drewN_self w27]; generalize hq_ : World.drewN w27 _ = w27; have _ := am (blk_at hq_ BK120.out); have _ := am (below_at hq_ HB.out); clear hq_ BK120 HB; rename_i BK120 HB))
                have n0_ := am (blk_drew BK120.out); have n1_ := am (below_drew1 HB.out); clear BK120 HB; have BK120 := n0_; have HB := n1_; clear n0_ n1_
                refine start_ (n := 17) (S := fun w' => w'.cell? ⟨gb120, 0, none⟩ = some (.string ((rd_T52 l0 x7_1).f0)) ∧ w'.cell? ⟨gb120, 1, none⟩ = some (.int .i64 ((rd_T52 l0 x7_1).f1)) ∧ w'.cell? ⟨gb120, 2, none⟩ = some (.int .i64 ((rd_T52 l0 x7_1).f2))) (ds := []) #[false, false, false, false, false, false, false, false, false, false, false, false, false, false, false, false, false] (by kernel_rfl) rfl rfl ⟨(blk_cell BK120.out 0).trans rfl, (blk_cell BK120.out 1).trans rfl, (blk_cell BK120.out 2).trans rfl⟩ (fun hHeld => ?_); refine with_tabW lines_Right.tab4 lines_Right.bits4 (fun HT_ HW_ => ?_)
                generalize w27.drew = w28 at BK120 HB hHeld ⊢; refine take_ (i := 0) (N := some 12) (v := ?_) (a' := ?_) (bs 17 1) rfl rfl (take_ofW HT_.out HW_.out (by kernel_rfl)) (fun _ _ _ h => h) (Or.inl ⟨by rfl, ?_⟩) hHeld ?_ ?_; rotate_left
                · rintro w' ⟨s0, s1, s2⟩
                  go_simp
                  (with_reducible rfl)
                rotate_left
                · simp only [Act.put, sA, sB, sC, i64_w, i32_w]
                  rfl
                refine one_ (i := 1) (N := some 13) (bs 17 3) rfl rfl (one_of HT_.out (by kernel_rfl)) (by decide) (fun K hK => ?_); refine goes_ Tryd.func51 (by kernel_rfl) rfl #[.agg #[.string ((rd_T52 l0 x7_1).f0), .int .i64 ((rd_T52 l0 x7_1).f1), .int .i64 ((rd_T52 l0 x7_1).f2)]] (by rfl) rfl rfl ap1 ?_; (with_reducible refine (lines_one.calls ((rd_T52 l0 x7_1).f0) ((rd_T52 l0 x7_1).f1) ((rd_T52 l0 x7_1).f2) true _ ?side1 A5.out).mono ?_)
                (case side1 => first | (with_reducible exact HT.out) | exact Tabs.below HT.out (beu HB.out))
                rintro e w29 ⟨rfl, hb⟩; refine ⟨_, rfl, ?_⟩; have n0_ := am (blk_below (bu BK120.out) hb); have n1_ := am (below_step (beu HB.out) hb); clear BK120 HB; have BK120 := n0_; have HB := n1_; clear n0_ n1_
                (try clear hb)
                (try clear hb2)
                (try clear hk)
                (try clear hi)
                refine hK.out _ _ ⟨(blk_cell BK120.out 0).trans rfl, (blk_cell BK120.out 1).trans rfl, (blk_cell BK120.out 2).trans rfl⟩ (fun hHeld => ?_); clear hK K; refine norm_ (a' := ?_) ?_ ?_; rotate_left
                · show Act.put _ (some 13) _ = _
                  simp only [Act.put, sA, sB, sC, i64_w, i32_w]
                  rfl
                refine pure_ (i := 2) (N := some 14) (v := ?_) (a' := ?_) (bs 17 7) rfl rfl (ak HT_.out) (fun _ _ _ h => h) (Or.inl ⟨by rfl, ?_⟩) ?_ ?_; rotate_left
                · intro w'
                  go_simp
                  (with_reducible rfl)
                rotate_left
                · simp only [Act.put, sA, sB, sC, i64_w, i32_w]
                  rfl
                refine pure_ (i := 3) (N := some 15) (v := ?_) (a' := ?_) (bs 17 15) rfl rfl (ak HT_.out) (fun _ _ _ h => h) (Or.inl ⟨by rfl, ?_⟩) ?_ ?_; rotate_left
                · intro w'
                  go_simp
                  (with_reducible rfl)
                rotate_left
                · simp only [Act.put, sA, sB, sC, i64_w, i32_w]
                  rfl
                refine pure_ (i := 4) (N := some 16) (v := ?_) (a' := ?_) (bs 17 31) rfl rfl (ak HT_.out) (fun _ _ _ h => h) (Or.inl ⟨by rfl, ?_⟩) ?_ ?_; rotate_left
                · intro w'
                  go_simp
                  (with_reducible rfl)
                rotate_left
                · simp only [Act.put, sA, sB, sC, i64_w, i32_w]
                  rfl
                refine pure_ (i := 5) (N := some 17) (v := ?_) (a' := ?_) (bs 17 63) rfl rfl (ak HT_.out) (fun _ _ _ h => h) (Or.inl ⟨by rfl, ?_⟩) ?_ ?_; rotate_left
                · intro w'
                  go_simp
                  (with_reducible rfl)
                rotate_left
                · simp only [Act.put, sA, sB, sC, i64_w, i32_w]
                  rfl
                refine pure_ (i := 6) (N := some 18) (v := ?_) (a' := ?_) (bs 17 127) rfl rfl (ak HT_.out) (fun _ _ _ h => h) (Or.inl ⟨by rfl, ?_⟩) ?_ ?_; rotate_left
                · intro w'
                  go_simp
                  (with_reducible rfl)
                rotate_left
                · simp only [Act.put, sA, sB, sC, i64_w, i32_w]
                  rfl
                refine pure_ (i := 7) (N := some 19) (v := undef) (a' := ?_) (bs 17 255) rfl rfl (ak HT_.out) (fun _ _ _ h => h) (Or.inr ⟨by rfl, rfl⟩) ?_ ?_; rotate_left
                · simp only [Act.put, sA, sB, sC, i64_w, i32_w]
                  rfl
                refine pure_ (i := 8) (N := some 20) (v := undef) (a' := ?_) (bs 17 511) rfl rfl (ak HT_.out) (fun _ _ _ h => h) (Or.inr ⟨by rfl, rfl⟩) ?_ ?_; rotate_left
                · simp only [Act.put, sA, sB, sC, i64_w, i32_w]
                  rfl
                refine pure_ (i := 9) (N := some 21) (v := undef) (a' := ?_) (bs 17 1023) rfl rfl (ak HT_.out) (fun _ _ _ h => h) (Or.inr ⟨by rfl, rfl⟩) ?_ ?_; rotate_left
                · simp only [Act.put, sA, sB, sC, i64_w, i32_w]
                  rfl
                refine pure_ (i := 10) (N := some 22) (v := undef) (a' := ?_) (bs 17 2047) rfl rfl (ak HT_.out) (fun _ _ _ h => h) (Or.inr ⟨by rfl, rfl⟩) ?_ ?_; rotate_left
                · simp only [Act.put, sA, sB, sC, i64_w, i32_w]
                  rfl
                refine pure_ (i := 11) (N := some 23) (v := undef) (a' := ?_) (bs 17 4095) rfl rfl (ak HT_.out) (fun _ _ _ h => h) (Or.inr ⟨by rfl, rfl⟩) ?_ ?_; rotate_left
                · simp only [Act.put, sA, sB, sC, i64_w, i32_w]
                  rfl
                refine pure_ (i := 12) (N := some 24) (v := undef) (a' := ?_) (bs 17 8191) rfl rfl (ak HT_.out) (fun _ _ _ h => h) (Or.inr ⟨by rfl, rfl⟩) ?_ ?_; rotate_left
                · simp only [Act.put, sA, sB, sC, i64_w, i32_w]
                  rfl
                refine pure_ (i := 13) (N := some 25) (v := undef) (a' := ?_) (bs 17 16383) rfl rfl (ak HT_.out) (fun _ _ _ h => h) (Or.inr ⟨by rfl, rfl⟩) ?_ ?_; rotate_left
                · simp only [Act.put, sA, sB, sC, i64_w, i32_w]
                  rfl
                refine pure_ (i := 14) (N := some 26) (v := undef) (a' := ?_) (bs 17 32767) rfl rfl (ak HT_.out) (fun _ _ _ h => h) (Or.inr ⟨by rfl, rfl⟩) ?_ ?_; rotate_left
                · simp only [Act.put, sA, sB, sC, i64_w, i32_w]
                  rfl
                refine pure_ (i := 15) (N := some 27) (v := ?_) (a' := ?_) (bs 17 65535) rfl rfl (ak HT_.out) (fun _ _ _ h => h) (Or.inl ⟨by rfl, ?_⟩) ?_ ?_; rotate_left
                · intro w'
                  go_simp
                  (with_reducible rfl)
                rotate_left
                · simp only [Act.put, sA, sB, sC, i64_w, i32_w]
                  rfl
                refine pure_ (i := 16) (N := some 28) (v := ?_) (a' := ?_) (bs 17 131071) rfl rfl (ak HT_.out) (fun _ _ _ h => h) (Or.inl ⟨by rfl, ?_⟩) ?_ ?_; rotate_left
                · intro w'
                  go_simp
                  (with_reducible rfl)
                rotate_left
                · simp only [Act.put, sA, sB, sC, i64_w, i32_w]
                  rfl
                refine done_ (done_of HT_.out (by kernel_rfl)) ?_
                try go_wp2
                go_roundg k1
                case measure => have := HK1.out; omega
                case rel => exact ⟨(wrap64 (x7_1 + 1)), ap3, H', ⟨by have := HK1.out; omega⟩, ⟨beu HB.out⟩⟩
            · replace c6 := Bool.eq_false_iff.mpr c6
              subst c6
              have H1 : (some false) = some r := by rw [if_neg (show ¬ (false = true) by decide)] at H; exact H
              clear H; have H := H1; clear H1; obtain rfl := Option.some.inj H; simp only [Option.some.injEq, Prod.mk.injEq] at H; obtain ⟨rfl⟩ := H; have p119 : 0 ≤ (x7_1 : Int) := of_decide_eq_true ap2; have q119 : x7_1 < (l0.length : Int) := of_decide_eq_true ap2; obtain ⟨ad119, e119, hx119_0, hx119_1, hx119_2⟩ := at_T52 HR0.out x7_1 p119 q119
              cases e119
              replace hx119_0 := (HB.out.cell (World.block_lt_of_cell? w _ hx119_0)).trans hx119_0; replace hx119_1 := (HB.out.cell (World.block_lt_of_cell? w _ hx119_1)).trans hx119_1; replace hx119_2 := (HB.out.cell (World.block_lt_of_cell? w _ hx119_2)).trans hx119_2; replace p119 := eq_true p119; replace q119 := eq_true q119
              try go_wp2_with (first | ((with_reducible refine gate_dst (N := 4) rfl ?_); (try (refine gate_guard (by rfl) ?_; dsimp only)); refine box_event ?hg (N := 4) ?hd (cs := #[.string ⟨#[]⟩, .int .i64 0, .int .i64 0]) (t := 52) ?hr ?_; (case hd => rfl); (case hg => rfl); (case hr => first | (go_simp; done) | (go_simp; rfl)); intro gb120 hg w30 hbox hb; have _ := am (below_step (beu HB.out) hb); have _ := am (hbox); have _ := am ((by rw [hg]; exact (below_size (beu HB.out)) : w.heap.size ≤ gb120)); have _ := am ((by rw [hg]; exact (below_size (beu HB.out)) : w.heap.size ≤ gb120)); clear HB; rename_i HB BK120 GW120 GE120; clear hb hbox hg; obtain ⟨_, _, _⟩ := cells3 BK120.out; obtain ⟨_, _, _⟩ := frozens3 BK120.out))
              have n0_ : Aside0 ((((w30.setCell ⟨gb120, 0, none⟩ (.string ((rd_T52 l0 x7_1).f0))).setCell ⟨gb120, 1, none⟩ (.int .i64 ((rd_T52 l0 x7_1).f1))).setCell ⟨gb120, 2, none⟩ (.int .i64 ((rd_T52 l0 x7_1).f2))).heap[gb120]? = some (.cells #[.string ((rd_T52 l0 x7_1).f0), .int .i64 ((rd_T52 l0 x7_1).f1), .int .i64 ((rd_T52 l0 x7_1).f2)] 52 (0, 0))) := ⟨by refine bu ?_; refine blk_put (cs := #[.string ((rd_T52 l0 x7_1).f0), .int .i64 ((rd_T52 l0 x7_1).f1), .int .i64 0]) ?_ 2 _ rfl; refine bu ?_; refine blk_put (cs := #[.string ((rd_T52 l0 x7_1).f0), .int .i64 0, .int .i64 0]) ?_ 1 _ rfl; refine bu ?_; refine blk_put (cs := #[.string ⟨#[]⟩, .int .i64 0, .int .i64 0]) ?_ 0 _ rfl; refine bu ?_; exact BK120.out⟩; have n1_ : Aside0 (Below w.heap.size w (((w30.setCell ⟨gb120, 0, none⟩ (.string ((rd_T52 l0 x7_1).f0))).setCell ⟨gb120, 1, none⟩ (.int .i64 ((rd_T52 l0 x7_1).f1))).setCell ⟨gb120, 2, none⟩ (.int .i64 ((rd_T52 l0 x7_1).f2)))) := ⟨beu HB.out⟩
              (try clear BK120)
              (try clear HB)
              generalize (((w30.setCell ⟨gb120, 0, none⟩ (.string ((rd_T52 l0 x7_1).f0))).setCell ⟨gb120, 1, none⟩ (.int .i64 ((rd_T52 l0 x7_1).f1))).setCell ⟨gb120, 2, none⟩ (.int .i64 ((rd_T52 l0 x7_1).f2))) = w32 at n0_ n1_ ⊢; have BK120 := n0_; have HB := n1_; clear n0_ n1_
              (try (rw [drewN_self w32]; generalize hq_ : World.drewN w32 _ = w32; have _ := am (blk_at hq_ BK120.out); have _ := am (below_at hq_ HB.out); clear hq_ BK120 HB; rename_i BK120 HB))
              have n0_ := am (blk_drew BK120.out); have n1_ := am (below_drew1 HB.out); clear BK120 HB; have BK120 := n0_; have HB := n1_; clear n0_ n1_
              refine start_ (n := 17) (S := fun w' => w'.cell? ⟨gb120, 0, none⟩ = some (.string ((rd_T52 l0 x7_1).f0)) ∧ w'.cell? ⟨gb120, 1, none⟩ = some (.int .i64 ((rd_T52 l0 x7_1).f1)) ∧ w'.cell? ⟨gb120, 2, none⟩ = some (.int .i64 ((rd_T52 l0 x7_1).f2))) (ds := []) #[false, false, false, false, false, false, false, false, false, false, false, false, false, false, false, false, false] (by kernel_rfl) rfl rfl ⟨(blk_cell BK120.out 0).trans rfl, (blk_cell BK120.out 1).trans rfl, (blk_cell BK120.out 2).trans rfl⟩ (fun hHeld => ?_); refine with_tabW lines_Right.tab4 lines_Right.bits4 (fun HT_ HW_ => ?_)
              generalize w32.drew = w33 at BK120 HB hHeld ⊢; refine take_ (i := 0) (N := some 12) (v := ?_) (a' := ?_) (bs 17 1) rfl rfl (take_ofW HT_.out HW_.out (by kernel_rfl)) (fun _ _ _ h => h) (Or.inl ⟨by rfl, ?_⟩) hHeld ?_ ?_; rotate_left
              · rintro w' ⟨s0, s1, s2⟩
                go_simp
                (with_reducible rfl)
              rotate_left
              · simp only [Act.put, sA, sB, sC, i64_w, i32_w]
                rfl
              refine one_ (i := 1) (N := some 13) (bs 17 3) rfl rfl (one_of HT_.out (by kernel_rfl)) (by decide) (fun K hK => ?_); refine goes_ Tryd.func51 (by kernel_rfl) rfl #[.agg #[.string ((rd_T52 l0 x7_1).f0), .int .i64 ((rd_T52 l0 x7_1).f1), .int .i64 ((rd_T52 l0 x7_1).f2)]] (by rfl) rfl rfl ap1 ?_; (with_reducible refine (lines_one.calls ((rd_T52 l0 x7_1).f0) ((rd_T52 l0 x7_1).f1) ((rd_T52 l0 x7_1).f2) false _ ?side1 A5.out).mono ?_)
              (case side1 => first | (with_reducible exact HT.out) | exact Tabs.below HT.out (beu HB.out))
              rintro e w34 ⟨rfl, hb⟩; refine ⟨_, rfl, ?_⟩; have n0_ := am (blk_below (bu BK120.out) hb); have n1_ := am (below_step (beu HB.out) hb); clear BK120 HB; have BK120 := n0_; have HB := n1_; clear n0_ n1_
              (try clear hb)
              (try clear hb2)
              (try clear hk)
              (try clear hi)
              refine hK.out _ _ ⟨(blk_cell BK120.out 0).trans rfl, (blk_cell BK120.out 1).trans rfl, (blk_cell BK120.out 2).trans rfl⟩ (fun hHeld => ?_); clear hK K; refine norm_ (a' := ?_) ?_ ?_; rotate_left
              · show Act.put _ (some 13) _ = _
                simp only [Act.put, sA, sB, sC, i64_w, i32_w]
                rfl
              refine pure_ (i := 2) (N := some 14) (v := ?_) (a' := ?_) (bs 17 7) rfl rfl (ak HT_.out) (fun _ _ _ h => h) (Or.inl ⟨by rfl, ?_⟩) ?_ ?_; rotate_left
              · intro w'
                go_simp
                (with_reducible rfl)
              rotate_left
              · simp only [Act.put, sA, sB, sC, i64_w, i32_w]
                rfl
              refine pure_ (i := 3) (N := some 15) (v := ?_) (a' := ?_) (bs 17 15) rfl rfl (ak HT_.out) (fun _ _ _ h => h) (Or.inl ⟨by rfl, ?_⟩) ?_ ?_; rotate_left
              · intro w'
                go_simp
                (with_reducible rfl)
              rotate_left
              · simp only [Act.put, sA, sB, sC, i64_w, i32_w]
                rfl
              refine pure_ (i := 4) (N := some 16) (v := undef) (a' := ?_) (bs 17 31) rfl rfl (ak HT_.out) (fun _ _ _ h => h) (Or.inr ⟨by rfl, rfl⟩) ?_ ?_; rotate_left
              · simp only [Act.put, sA, sB, sC, i64_w, i32_w]
                rfl
              refine pure_ (i := 5) (N := some 17) (v := undef) (a' := ?_) (bs 17 63) rfl rfl (ak HT_.out) (fun _ _ _ h => h) (Or.inr ⟨by rfl, rfl⟩) ?_ ?_; rotate_left
              · simp only [Act.put, sA, sB, sC, i64_w, i32_w]
                rfl
              refine pure_ (i := 6) (N := some 18) (v := undef) (a' := ?_) (bs 17 127) rfl rfl (ak HT_.out) (fun _ _ _ h => h) (Or.inr ⟨by rfl, rfl⟩) ?_ ?_; rotate_left
              · simp only [Act.put, sA, sB, sC, i64_w, i32_w]
                rfl
              refine pure_ (i := 7) (N := some 19) (v := undef) (a' := ?_) (bs 17 255) rfl rfl (ak HT_.out) (fun _ _ _ h => h) (Or.inr ⟨by rfl, rfl⟩) ?_ ?_; rotate_left
              · simp only [Act.put, sA, sB, sC, i64_w, i32_w]
                rfl
              refine pure_ (i := 8) (N := some 20) (v := undef) (a' := ?_) (bs 17 511) rfl rfl (ak HT_.out) (fun _ _ _ h => h) (Or.inr ⟨by rfl, rfl⟩) ?_ ?_; rotate_left
              · simp only [Act.put, sA, sB, sC, i64_w, i32_w]
                rfl
              refine pure_ (i := 9) (N := some 21) (v := undef) (a' := ?_) (bs 17 1023) rfl rfl (ak HT_.out) (fun _ _ _ h => h) (Or.inr ⟨by rfl, rfl⟩) ?_ ?_; rotate_left
              · simp only [Act.put, sA, sB, sC, i64_w, i32_w]
                rfl
              refine pure_ (i := 10) (N := some 22) (v := undef) (a' := ?_) (bs 17 2047) rfl rfl (ak HT_.out) (fun _ _ _ h => h) (Or.inr ⟨by rfl, rfl⟩) ?_ ?_; rotate_left
              · simp only [Act.put, sA, sB, sC, i64_w, i32_w]
                rfl
              refine pure_ (i := 11) (N := some 23) (v := undef) (a' := ?_) (bs 17 4095) rfl rfl (ak HT_.out) (fun _ _ _ h => h) (Or.inr ⟨by rfl, rfl⟩) ?_ ?_; rotate_left
              · simp only [Act.put, sA, sB, sC, i64_w, i32_w]
                rfl
              refine pure_ (i := 12) (N := some 24) (v := undef) (a' := ?_) (bs 17 8191) rfl rfl (ak HT_.out) (fun _ _ _ h => h) (Or.inr ⟨by rfl, rfl⟩) ?_ ?_; rotate_left
              · simp only [Act.put, sA, sB, sC, i64_w, i32_w]
                rfl
              refine pure_ (i := 13) (N := some 25) (v := undef) (a' := ?_) (bs 17 16383) rfl rfl (ak HT_.out) (fun _ _ _ h => h) (Or.inr ⟨by rfl, rfl⟩) ?_ ?_; rotate_left
              · simp only [Act.put, sA, sB, sC, i64_w, i32_w]
                rfl
              refine pure_ (i := 14) (N := some 26) (v := undef) (a' := ?_) (bs 17 32767) rfl rfl (ak HT_.out) (fun _ _ _ h => h) (Or.inr ⟨by rfl, rfl⟩) ?_ ?_; rotate_left
              · simp only [Act.put, sA, sB, sC, i64_w, i32_w]
                rfl
              refine pure_ (i := 15) (N := some 27) (v := undef) (a' := ?_) (bs 17 65535) rfl rfl (ak HT_.out) (fun _ _ _ h => h) (Or.inr ⟨by rfl, rfl⟩) ?_ ?_; rotate_left
              · simp only [Act.put, sA, sB, sC, i64_w, i32_w]
                rfl
              refine pure_ (i := 16) (N := some 28) (v := ?_) (a' := ?_) (bs 17 131071) rfl rfl (ak HT_.out) (fun _ _ _ h => h) (Or.inl ⟨by rfl, ?_⟩) ?_ ?_; rotate_left
              · intro w'
                go_simp
                (with_reducible rfl)
              rotate_left
              · simp only [Act.put, sA, sB, sC, i64_w, i32_w]
                rfl
              refine done_ (done_of HT_.out (by kernel_rfl)) ?_
              try go_wp2
              go_ret
              exact ⟨ap4, beu HB.out⟩
          · rw [if_neg c4] at H
            exact absurd H (by simp)
        · rw [if_neg c3] at H
          exact absurd H (by simp)
      · rw [if_neg c2] at H
        have c2b0 : decide (x7_1 < (l0.length : Int)) = false := decide_eq_false c2; clear c2
        by_cases c35 : (l0.length : Int) ≥ 1
        · rw [if_pos c35] at H
          have c35b0 : decide (1 ≤ (l0.length : Int)) = true := decide_eq_true c35; have c35b1 : decide (1 ≤ l0.length) = true := decide_eq_true (by omega); clear c35; obtain rfl := Option.some.inj H; simp only [Option.some.injEq, Prod.mk.injEq] at H; obtain ⟨rfl⟩ := H
          go_wp2
          go_ret
          exact ⟨ap4, beu HB.out⟩
        · rw [if_neg c35] at H
          have c35b0 : decide (1 ≤ (l0.length : Int)) = false := decide_eq_false c35; have c35b1 : decide (1 ≤ l0.length) = false := decide_eq_false (by omega); clear c35; obtain rfl := Option.some.inj H; simp only [Option.some.injEq, Prod.mk.injEq] at H; obtain ⟨rfl⟩ := H
          go_wp2
          go_ret
          exact ⟨ap4, beu HB.out⟩
def tally_Right.f (a0 : Int) : Option (Bool) := if a0 ≥ 0 then (some (decide (a0 ≤ 1000000000000))) else (some false)
set_option maxHeartbeats 8000000 in
set_option maxRecDepth 100000 in
theorem tally_Right.calls (a0 : Int) (r : Bool) (w : World) (h : tally_Right.f a0 = some r) :
    Calls Tryd.prog 30 #[.int .i64 a0] w fun e w' => e = .returned (.bool r) ∧ Drawn0 w w' := by
  have H : (if a0 ≥ 0 then (some (decide (a0 ≤ 1000000000000))) else (some false)) = some r := h; clear h
  by_cases c2 : a0 ≥ 0
  · rw [if_pos c2] at H
    have c2b0 : decide (0 ≤ a0) = true := decide_eq_true c2; clear c2; obtain rfl := Option.some.inj H; simp only [Option.some.injEq, Prod.mk.injEq] at H; obtain ⟨rfl⟩ := H
    go_enter Tryd.func30, Tryd.ntmps30
    go_wp2
    go_ret
    exact ⟨ap3, ap5⟩
  · rw [if_neg c2] at H
    have c2b0 : decide (0 ≤ a0) = false := decide_eq_false c2; clear c2; obtain rfl := Option.some.inj H; simp only [Option.some.injEq, Prod.mk.injEq] at H; obtain ⟨rfl⟩ := H
    go_enter Tryd.func30, Tryd.ntmps30
    go_wp2
    go_ret
    exact ⟨ap3, ap5⟩
def order_saga.f (a0_0 : Int) (a0_1 : Bool) (a0_2 : Int) : Option (Bool) := if a0_0 ≥ 1 then (if a0_0 ≤ 12 then (if a0_2 ≥ 0 then (some (decide (a0_2 ≤ 1000000))) else (some false)) else (some false)) else (some false)
set_option maxHeartbeats 8000000 in
set_option maxRecDepth 100000 in
theorem order_saga.calls (a0_0 : Int) (a0_1 : Bool) (a0_2 : Int) (r : Bool) (w : World) (h : order_saga.f a0_0 a0_1 a0_2 = some r) :
    Calls Tryd.prog 31 #[.agg #[.int .i64 a0_0, .bool a0_1, .int .i64 a0_2]] w fun e w' => e = .returned (.bool r) ∧ Below w.heap.size w w' := by
  have hu26 := Tryd.underlying26; have HB := am (Below.refl w.heap.size w); have H : (if a0_0 ≥ 1 then (if a0_0 ≤ 12 then (if a0_2 ≥ 0 then (some (decide (a0_2 ≤ 1000000))) else (some false)) else (some false)) else (some false)) = some r := h; clear h
  by_cases c2 : a0_0 ≥ 1
  · rw [if_pos c2] at H
    have c2b0 : decide (1 ≤ a0_0) = true := decide_eq_true c2; clear c2
    by_cases c3 : a0_0 ≤ 12
    · rw [if_pos c3] at H
      have c3b0 : decide (a0_0 ≤ 12) = true := decide_eq_true c3; clear c3
      by_cases c4 : a0_2 ≥ 0
      · rw [if_pos c4] at H
        have c4b0 : decide (0 ≤ a0_2) = true := decide_eq_true c4; clear c4; obtain rfl := Option.some.inj H; simp only [Option.some.injEq, Prod.mk.injEq] at H; obtain ⟨rfl⟩ := H
        go_enter Tryd.func31, Tryd.ntmps31
        go_wp2_with (first | ((with_reducible refine gate_dst (N := 1) rfl ?_); refine box_event ?hg (N := 1) ?hd (cs := #[.int .i64 a0_0, .bool a0_1, .int .i64 a0_2]) (t := 26) ?hr ?_; (case hd => rfl); (case hg => rfl); (case hr => first | (go_simp; done) | (go_simp; rfl)); intro gb124 hg w5 hbox hb; have _ := am (below_step (beu HB.out) hb); have _ := am (hbox); have _ := am ((by rw [hg]; exact (below_size (beu HB.out)) : w.heap.size ≤ gb124)); have _ := am ((by rw [hg]; exact (below_size (beu HB.out)) : w.heap.size ≤ gb124)); clear HB; rename_i HB BK124 GW124 GE124; clear hb hbox hg; obtain ⟨hcz6_0, hcz6_1, hcz6_2⟩ := cells3 BK124.out; obtain ⟨hfz6_0, hfz6_1, hfz6_2⟩ := frozens3 BK124.out))
        go_ret
        exact ⟨ap4, beu HB.out⟩
      · rw [if_neg c4] at H
        have c4b0 : decide (0 ≤ a0_2) = false := decide_eq_false c4; clear c4; obtain rfl := Option.some.inj H; simp only [Option.some.injEq, Prod.mk.injEq] at H; obtain ⟨rfl⟩ := H
        go_enter Tryd.func31, Tryd.ntmps31
        go_wp2_with (first | ((with_reducible refine gate_dst (N := 1) rfl ?_); refine box_event ?hg (N := 1) ?hd (cs := #[.int .i64 a0_0, .bool a0_1, .int .i64 a0_2]) (t := 26) ?hr ?_; (case hd => rfl); (case hg => rfl); (case hr => first | (go_simp; done) | (go_simp; rfl)); intro gb124 hg w7 hbox hb; have _ := am (below_step (beu HB.out) hb); have _ := am (hbox); have _ := am ((by rw [hg]; exact (below_size (beu HB.out)) : w.heap.size ≤ gb124)); have _ := am ((by rw [hg]; exact (below_size (beu HB.out)) : w.heap.size ≤ gb124)); clear HB; rename_i HB BK124 GW124 GE124; clear hb hbox hg; obtain ⟨hcz8_0, hcz8_1, hcz8_2⟩ := cells3 BK124.out; obtain ⟨hfz8_0, hfz8_1, hfz8_2⟩ := frozens3 BK124.out))
        go_ret
        exact ⟨ap4, beu HB.out⟩
    · rw [if_neg c3] at H
      have c3b0 : decide (a0_0 ≤ 12) = false := decide_eq_false c3; clear c3; obtain rfl := Option.some.inj H; simp only [Option.some.injEq, Prod.mk.injEq] at H; obtain ⟨rfl⟩ := H
      go_enter Tryd.func31, Tryd.ntmps31
      go_wp2_with (first | ((with_reducible refine gate_dst (N := 1) rfl ?_); refine box_event ?hg (N := 1) ?hd (cs := #[.int .i64 a0_0, .bool a0_1, .int .i64 a0_2]) (t := 26) ?hr ?_; (case hd => rfl); (case hg => rfl); (case hr => first | (go_simp; done) | (go_simp; rfl)); intro gb124 hg w9 hbox hb; have _ := am (below_step (beu HB.out) hb); have _ := am (hbox); have _ := am ((by rw [hg]; exact (below_size (beu HB.out)) : w.heap.size ≤ gb124)); have _ := am ((by rw [hg]; exact (below_size (beu HB.out)) : w.heap.size ≤ gb124)); clear HB; rename_i HB BK124 GW124 GE124; clear hb hbox hg; obtain ⟨hcz10_0, hcz10_1, hcz10_2⟩ := cells3 BK124.out; obtain ⟨hfz10_0, hfz10_1, hfz10_2⟩ := frozens3 BK124.out))
      go_ret
      exact ⟨ap4, beu HB.out⟩
  · rw [if_neg c2] at H
    have c2b0 : decide (1 ≤ a0_0) = false := decide_eq_false c2; clear c2; obtain rfl := Option.some.inj H; simp only [Option.some.injEq, Prod.mk.injEq] at H; obtain ⟨rfl⟩ := H
    go_enter Tryd.func31, Tryd.ntmps31
    go_wp2_with (first | ((with_reducible refine gate_dst (N := 1) rfl ?_); refine box_event ?hg (N := 1) ?hd (cs := #[.int .i64 a0_0, .bool a0_1, .int .i64 a0_2]) (t := 26) ?hr ?_; (case hd => rfl); (case hg => rfl); (case hr => first | (go_simp; done) | (go_simp; rfl)); intro gb124 hg w11 hbox hb; have _ := am (below_step (beu HB.out) hb); have _ := am (hbox); have _ := am ((by rw [hg]; exact (below_size (beu HB.out)) : w.heap.size ≤ gb124)); have _ := am ((by rw [hg]; exact (below_size (beu HB.out)) : w.heap.size ≤ gb124)); clear HB; rename_i HB BK124 GW124 GE124; clear hb hbox hg; obtain ⟨hcz12_0, hcz12_1, hcz12_2⟩ := cells3 BK124.out; obtain ⟨hfz12_0, hfz12_1, hfz12_2⟩ := frozens3 BK124.out))
    go_ret
    exact ⟨ap4, beu HB.out⟩
def order_Right.j0 : Nat → Bool → ByteArray → List (S52) → ByteArray → ByteArray → ByteArray → Int → Int → Bool → Int → Int → Option (Bool)
  | 0, _, _, _, _, _, _, _, _, _, _, _ => none
  | k + 1, x3, X0, X1, X2, X3, X4, X5, X6, X7, X8, X9 => (label_Right.f X0).bind fun t126 => (if t126 = true then ((order_group.f X2 X3 X4).bind fun t127 => (if t127 = true then ((lines_Right.f k X1).bind fun t128 => (if t128 = true then ((tally_Right.f X5).bind fun t129 => (if t129 = true then ((order_saga.f X6 X7 X8).bind fun t130 => (if t130 = true then ((tally_Right.f X9).bind fun t131 => (if t131 = true then (some (x3 == (X9 != 0))) else (some false))) else (some false))) else (some false))) else (some false))) else (some false))) else (some false))
def order_Right.f (k : Nat) (a0_0 : ByteArray) (l0_1 : List (S52)) (a0_2 : ByteArray) (a0_3 : ByteArray) (a0_4 : ByteArray) (a0_5 : Int) (a0_6 : Int) (a0_7 : Bool) (a0_8 : Int) (a0_9 : Int) : Option (Bool) := if a0_6 ≥ 3 then (order_Right.j0 k (decide (a0_6 ≤ 6)) a0_0 l0_1 a0_2 a0_3 a0_4 a0_5 a0_6 a0_7 a0_8 a0_9) else (order_Right.j0 k false a0_0 l0_1 a0_2 a0_3 a0_4 a0_5 a0_6 a0_7 a0_8 a0_9)
theorem order_Right.mono_l : ∀ k, (∀ y0 y1 y2 y3 y4 y5 y6 y7 y8 y9 y10, LeO (order_Right.j0 k y0 y1 y2 y3 y4 y5 y6 y7 y8 y9 y10) (order_Right.j0 (k + 1) y0 y1 y2 y3 y4 y5 y6 y7 y8 y9 y10))
  | 0 => fun _ _ _ _ _ _ _ _ _ _ _ r h => by simp [order_Right.j0] at h
  | k + 1 => by
    have ih0 := order_Right.mono_l k
    · intro y0 y1 y2 y3 y4 y5 y6 y7 y8 y9 y10
      unfold order_Right.j0
      repeat' first
      | (with_reducible exact ih0 _ _ _ _ _ _ _ _ _ _ _)
      | (with_reducible exact lines_Right.mono _ _)
      | (with_reducible exact LeO.refl _)
      | (with_reducible exact LeO.none _)
      | (with_reducible refine LeO.ite ?_ ?_)
      | (with_reducible refine LeO.bind ?_ (fun _ => ?_))
      | exact ih0 _ _ _ _ _ _ _ _ _ _ _
      | exact lines_Right.mono _ _
      | exact LeO.none _
      | refine LeO.ite ?_ ?_
      | refine LeO.bind ?_ (fun _ => ?_)
theorem order_Right.mono : ∀ a0 a1 a2 a3 a4 a5 a6 a7 a8 a9 k, LeO (order_Right.f k a0 a1 a2 a3 a4 a5 a6 a7 a8 a9) (order_Right.f (k + 1) a0 a1 a2 a3 a4 a5 a6 a7 a8 a9) := by
  intro a0 a1 a2 a3 a4 a5 a6 a7 a8 a9 k; have ih0 := order_Right.mono_l k
  unfold order_Right.f
  repeat' first
      | (with_reducible exact ih0 _ _ _ _ _ _ _ _ _ _ _)
      | (with_reducible exact lines_Right.mono _ _)
      | (with_reducible exact LeO.refl _)
      | (with_reducible exact LeO.none _)
      | (with_reducible refine LeO.ite ?_ ?_)
      | (with_reducible refine LeO.bind ?_ (fun _ => ?_))
      | exact ih0 _ _ _ _ _ _ _ _ _ _ _
      | exact lines_Right.mono _ _
      | exact LeO.none _
      | refine LeO.ite ?_ ?_
      | refine LeO.bind ?_ (fun _ => ?_)
set_option maxHeartbeats 8000000 in
set_option maxRecDepth 100000 in
theorem order_Right.calls (k : Nat) (a0_0 : ByteArray) (A0_1 : Option Addr) (c0_1 : Nat) (l0_1 : List (S52)) (a0_2 : ByteArray) (a0_3 : ByteArray) (a0_4 : ByteArray) (a0_5 : Int) (a0_6 : Int) (a0_7 : Bool) (a0_8 : Int) (a0_9 : Int) (r : Bool) (w : World) (hr0_1 : Kd.C k52 w A0_1 l0_1.length l0_1) (hc0_1 : l0_1.length ≤ c0_1) (hT : Tabs w) (h : order_Right.f k a0_0 l0_1 a0_2 a0_3 a0_4 a0_5 a0_6 a0_7 a0_8 a0_9 = some r) :
    Calls Tryd.prog 10 #[.agg #[.string a0_0, .slice A0_1 l0_1.length c0_1, .string a0_2, .string a0_3, .string a0_4, .int .i64 a0_5, .int .i64 a0_6, .bool a0_7, .int .i64 a0_8, .int .i64 a0_9]] w fun e w' => e = .returned (.bool r) ∧ Below w.heap.size w w' := by
  have hu28 := Tryd.underlying28; have hu24 := Tryd.underlying24; have hu26 := Tryd.underlying26; have HR0_1 := am hr0_1; have HC0_1 := am hc0_1; clear hr0_1 hc0_1; have HT := am hT; clear hT; have HB := am (Below.refl w.heap.size w); have H : (if a0_6 ≥ 3 then (order_Right.j0 k (decide (a0_6 ≤ 6)) a0_0 l0_1 a0_2 a0_3 a0_4 a0_5 a0_6 a0_7 a0_8 a0_9) else (order_Right.j0 k false a0_0 l0_1 a0_2 a0_3 a0_4 a0_5 a0_6 a0_7 a0_8 a0_9)) = some r := h; clear h; have HC2 := am H; clear H
  go_enter Tryd.func10, Tryd.ntmps10
  go_upto_region 1 with (first | ((with_reducible refine gate_dst (N := 1) rfl ?_); refine box_event ?hg (N := 1) ?hd (cs := #[.string a0_0, .slice A0_1 l0_1.length c0_1, .string a0_2, .string a0_3, .string a0_4, .int .i64 a0_5, .int .i64 a0_6, .bool a0_7, .int .i64 a0_8, .int .i64 a0_9]) (t := 28) ?hr ?_; (case hd => rfl); (case hg => rfl); (case hr => first | (go_simp; done) | (go_simp; rfl)); intro gb125 hg w3 hbox hb; have _ := am (below_step (beu HB.out) hb); have _ := am (hbox); have _ := am ((by rw [hg]; exact (below_size (beu HB.out)) : w.heap.size ≤ gb125)); have _ := am ((by rw [hg]; exact (below_size (beu HB.out)) : w.heap.size ≤ gb125)); clear HB; rename_i HB BK125 GW125 GE125; clear hb hbox hg))
  (try simp only [Act.put, sA, sB, sC])
  go_cut [3] (fun v3 wc => ∃ (kq : Nat) (x3_1 : Bool), v3 = .bool x3_1 ∧ Aside0 (order_Right.j0 kq x3_1 a0_0 l0_1 a0_2 a0_3 a0_4 a0_5 a0_6 a0_7 a0_8 a0_9 = some r) ∧ Aside0 (kq ≤ k) ∧ Aside0 (wc.heap[gb125]? = some (.cells #[.string a0_0, (.slice A0_1 l0_1.length c0_1), .string a0_2, .string a0_3, .string a0_4, .int .i64 a0_5, .int .i64 a0_6, .bool a0_7, .int .i64 a0_8, .int .i64 a0_9] 28 (0, 0))) ∧ Aside0 (Below w.heap.size w wc))
  case first =>
    have H := HC2.out; clear HC2
    by_cases c4 : a0_6 ≥ 3
    · rw [if_pos c4] at H
      have c4b0 : decide (3 ≤ a0_6) = true := decide_eq_true c4; clear c4
      (first | rw [c4b0] | (simp only [i64_w, i32_w]; rw [c4b0]) | skip)
      have H' := am H; clear H; obtain ⟨hcz5_0, hcz5_1, hcz5_2, hcz5_3, hcz5_4, hcz5_5, hcz5_6, hcz5_7, hcz5_8, hcz5_9⟩ := cells10 BK125.out; obtain ⟨hfz5_0, hfz5_1, hfz5_2, hfz5_3, hfz5_4, hfz5_5, hfz5_6, hfz5_7, hfz5_8, hfz5_9⟩ := frozens10 BK125.out
      go_wp2
      go_meet
      case rel => exact ⟨_, (decide (a0_6 ≤ 6)), ap3, H', ⟨by first | omega | exact Nat.le_refl _⟩, ⟨by refine bu ?_; exact BK125.out⟩, ⟨beu HB.out⟩⟩
    · rw [if_neg c4] at H
      have c4b0 : decide (3 ≤ a0_6) = false := decide_eq_false c4; clear c4
      (first | rw [c4b0] | (simp only [i64_w, i32_w]; rw [c4b0]) | skip)
      have H' := am H; clear H; obtain ⟨hcz6_0, hcz6_1, hcz6_2, hcz6_3, hcz6_4, hcz6_5, hcz6_6, hcz6_7, hcz6_8, hcz6_9⟩ := cells10 BK125.out; obtain ⟨hfz6_0, hfz6_1, hfz6_2, hfz6_3, hfz6_4, hfz6_5, hfz6_6, hfz6_7, hfz6_8, hfz6_9⟩ := frozens10 BK125.out
      go_wp2
      go_meet
      case rel => exact ⟨_, (false), ap3, H', ⟨by first | omega | exact Nat.le_refl _⟩, ⟨by refine bu ?_; exact BK125.out⟩, ⟨beu HB.out⟩⟩
  case rest =>
    clear HC2; (try clear c1); (try clear p2); (try clear c4); (try clear c4b0); (try clear hcz5_0); (try clear hcz5_1); (try clear hcz5_2); (try clear hcz5_3); (try clear hcz5_4); (try clear hcz5_5); (try clear hcz5_6); (try clear hcz5_7); (try clear hcz5_8); (try clear hcz5_9); (try clear hcz6_0); (try clear hcz6_1); (try clear hcz6_2); (try clear hcz6_3); (try clear hcz6_4); (try clear hcz6_5); (try clear hcz6_6); (try clear hcz6_7); (try clear hcz6_8); (try clear hcz6_9); (try clear hfz5_0); (try clear hfz5_1); (try clear hfz5_2); (try clear hfz5_3); (try clear hfz5_4); (try clear hfz5_5); (try clear hfz5_6); (try clear hfz5_7); (try clear hfz5_8); (try clear hfz5_9); (try clear hfz6_0); (try clear hfz6_1); (try clear hfz6_2); (try clear hfz6_3); (try clear hfz6_4); (try clear hfz6_5); (try clear hfz6_6); (try clear hfz6_7); (try clear hfz6_8); (try clear hfz6_9); obtain ⟨kq, x3_1, rfl, HA, HJ1, BK125, HB⟩ := hcut
    cases kq with
    | zero => exact absurd HA.out (by simp [order_Right.j0])
    | succ kj1 =>
      have H := HA.out; clear HA; simp only [order_Right.j0] at H; replace H := obm H; obtain ⟨t126, A70, H⟩ := H; replace H : (if t126 = true then ((order_group.f a0_2 a0_3 a0_4).bind fun t127 => (if t127 = true then ((lines_Right.f kj1 l0_1).bind fun t128 => (if t128 = true then ((tally_Right.f a0_5).bind fun t129 => (if t129 = true then ((order_saga.f a0_6 a0_7 a0_8).bind fun t130 => (if t130 = true then ((tally_Right.f a0_9).bind fun t131 => (if t131 = true then (some (x3_1 == (a0_9 != 0))) else (some false))) else (some false))) else (some false))) else (some false))) else (some false))) else (some false)) = some r := H; have A7 := am A70; clear A70
      by_cases c8 : t126 = true
      · subst c8
        have H1 : ((order_group.f a0_2 a0_3 a0_4).bind fun t127 => (if t127 = true then ((lines_Right.f kj1 l0_1).bind fun t128 => (if t128 = true then ((tally_Right.f a0_5).bind fun t129 => (if t129 = true then ((order_saga.f a0_6 a0_7 a0_8).bind fun t130 => (if t130 = true then ((tally_Right.f a0_9).bind fun t131 => (if t131 = true then (some (x3_1 == (a0_9 != 0))) else (some false))) else (some false))) else (some false))) else (some false))) else (some false))) = some r := by rw [if_pos rfl] at H; exact H
        clear H; have H := H1; clear H1; replace H := obm H; obtain ⟨t127, A90, H⟩ := H; replace H : (if t127 = true then ((lines_Right.f kj1 l0_1).bind fun t128 => (if t128 = true then ((tally_Right.f a0_5).bind fun t129 => (if t129 = true then ((order_saga.f a0_6 a0_7 a0_8).bind fun t130 => (if t130 = true then ((tally_Right.f a0_9).bind fun t131 => (if t131 = true then (some (x3_1 == (a0_9 != 0))) else (some false))) else (some false))) else (some false))) else (some false))) else (some false)) = some r := H; have A9 := am A90; clear A90
        by_cases c10 : t127 = true
        · subst c10
          have H1 : ((lines_Right.f kj1 l0_1).bind fun t128 => (if t128 = true then ((tally_Right.f a0_5).bind fun t129 => (if t129 = true then ((order_saga.f a0_6 a0_7 a0_8).bind fun t130 => (if t130 = true then ((tally_Right.f a0_9).bind fun t131 => (if t131 = true then (some (x3_1 == (a0_9 != 0))) else (some false))) else (some false))) else (some false))) else (some false))) = some r := by rw [if_pos rfl] at H; exact H
          clear H; have H := H1; clear H1; replace H := obm H; obtain ⟨t128, A110, H⟩ := H; replace H : (if t128 = true then ((tally_Right.f a0_5).bind fun t129 => (if t129 = true then ((order_saga.f a0_6 a0_7 a0_8).bind fun t130 => (if t130 = true then ((tally_Right.f a0_9).bind fun t131 => (if t131 = true then (some (x3_1 == (a0_9 != 0))) else (some false))) else (some false))) else (some false))) else (some false)) = some r := H; have A11 := am A110; clear A110
          by_cases c12 : t128 = true
          · subst c12
            have H1 : ((tally_Right.f a0_5).bind fun t129 => (if t129 = true then ((order_saga.f a0_6 a0_7 a0_8).bind fun t130 => (if t130 = true then ((tally_Right.f a0_9).bind fun t131 => (if t131 = true then (some (x3_1 == (a0_9 != 0))) else (some false))) else (some false))) else (some false))) = some r := by rw [if_pos rfl] at H; exact H
            clear H; have H := H1; clear H1; replace H := obm H; obtain ⟨t129, A130, H⟩ := H; replace H : (if t129 = true then ((order_saga.f a0_6 a0_7 a0_8).bind fun t130 => (if t130 = true then ((tally_Right.f a0_9).bind fun t131 => (if t131 = true then (some (x3_1 == (a0_9 != 0))) else (some false))) else (some false))) else (some false)) = some r := H; have A13 := am A130; clear A130
            by_cases c14 : t129 = true
            · subst c14
              have H1 : ((order_saga.f a0_6 a0_7 a0_8).bind fun t130 => (if t130 = true then ((tally_Right.f a0_9).bind fun t131 => (if t131 = true then (some (x3_1 == (a0_9 != 0))) else (some false))) else (some false))) = some r := by rw [if_pos rfl] at H; exact H
              clear H; have H := H1; clear H1; replace H := obm H; obtain ⟨t130, A150, H⟩ := H; replace H : (if t130 = true then ((tally_Right.f a0_9).bind fun t131 => (if t131 = true then (some (x3_1 == (a0_9 != 0))) else (some false))) else (some false)) = some r := H; have A15 := am A150; clear A150
              by_cases c16 : t130 = true
              · subst c16
                have H1 : ((tally_Right.f a0_9).bind fun t131 => (if t131 = true then (some (x3_1 == (a0_9 != 0))) else (some false))) = some r := by rw [if_pos rfl] at H; exact H
                clear H; have H := H1; clear H1; replace H := obm H; obtain ⟨t131, A170, H⟩ := H; replace H : (if t131 = true then (some (x3_1 == (a0_9 != 0))) else (some false)) = some r := H; have A17 := am A170; clear A170
                by_cases c18 : t131 = true
                · subst c18
                  have H1 : (some (x3_1 == (a0_9 != 0))) = some r := by rw [if_pos rfl] at H; exact H
                  clear H; have H := H1; clear H1; obtain rfl := Option.some.inj H; simp only [Option.some.injEq, Prod.mk.injEq] at H; obtain ⟨rfl⟩ := H; obtain ⟨_, _, _, _, _, _, _, _, _, _⟩ := cells10 BK125.out; obtain ⟨_, _, _, _, _, _, _, _, _, _⟩ := frozens10 BK125.out
                  go_wp2_with (first | ((with_reducible refine gate_callee (f := 27) rfl ?_); refine goesL_ (some 16) rfl rfl Tryd.func27 (by kernel_rfl) rfl #[.string a0_0] rfl ap1 ?_; (with_reducible refine (label_Right.calls a0_0 true _ ?side1 A7.out).mono ?_); (case side1 => first | (with_reducible exact HT.out) | exact Tabs.below HT.out (beu HB.out)); rintro e w20 ⟨rfl, hb⟩; refine ⟨_, rfl, ?_⟩; have _ := am (blk_below (bu BK125.out) hb); have _ := am (below_step (beu HB.out) hb); clear BK125 HB; rename_i BK125 HB; (try clear hb); obtain ⟨_, _, _, _, _, _, _, _, _, _⟩ := cells10 BK125.out; obtain ⟨_, _, _, _, _, _, _, _, _, _⟩ := frozens10 BK125.out) | (go_at_call 28; (with_reducible refine (order_group.calls a0_2 a0_3 a0_4 true _ ?side1 A9.out).mono ?_); (case side1 => first | (with_reducible exact HT.out) | exact Tabs.below HT.out (beu HB.out)); rintro e w22 ⟨rfl, hb⟩; have _ := am (blk_below (bu BK125.out) hb); have _ := am (below_step (beu HB.out) hb); clear BK125 HB; rename_i BK125 HB; (try clear hb); obtain ⟨_, _, _, _, _, _, _, _, _, _⟩ := cells10 BK125.out; obtain ⟨_, _, _, _, _, _, _, _, _, _⟩ := frozens10 BK125.out) | (go_at_call 29; (with_reducible refine (lines_Right.calls kj1 _ _ l0_1 true _ ?side1 ?side2 ?side3 A11.out).mono ?_); (case side1 => exact cu (Kd.C_below HR0_1.out HB.out)); (case side2 => exact HC0_1.out); (case side3 => first | (with_reducible exact HT.out) | exact Tabs.below HT.out (beu HB.out)); rintro e w24 ⟨rfl, hb⟩; have _ := am (blk_below (bu BK125.out) hb); have _ := am (below_step (beu HB.out) hb); clear BK125 HB; rename_i BK125 HB; (try clear hb); obtain ⟨_, _, _, _, _, _, _, _, _, _⟩ := cells10 BK125.out; obtain ⟨_, _, _, _, _, _, _, _, _, _⟩ := frozens10 BK125.out) | (go_at_call 30; (with_reducible refine (tally_Right.calls a0_5 true _ A13.out).mono ?_); rintro e w' ⟨rfl, ⟨nd, rfl⟩⟩) | (go_at_call 31; (with_reducible refine (order_saga.calls a0_6 a0_7 a0_8 true _ A15.out).mono ?_); rintro e w26 ⟨rfl, hb⟩; have _ := am (blk_below (bu BK125.out) hb); have _ := am (below_step (beu HB.out) hb); clear BK125 HB; rename_i BK125 HB; (try clear hb); obtain ⟨_, _, _, _, _, _, _, _, _, _⟩ := cells10 BK125.out; obtain ⟨_, _, _, _, _, _, _, _, _, _⟩ := frozens10 BK125.out) | (go_at_call 30; (with_reducible refine (tally_Right.calls a0_9 true _ A17.out).mono ?_); rintro e w' ⟨rfl, ⟨nd, rfl⟩⟩))
                  go_ret
                  exact ⟨ap4, beu HB.out⟩
                · replace c18 := Bool.eq_false_iff.mpr c18
                  subst c18
                  have H1 : (some false) = some r := by rw [if_neg (show ¬ (false = true) by decide)] at H; exact H
                  clear H; have H := H1; clear H1; obtain rfl := Option.some.inj H; simp only [Option.some.injEq, Prod.mk.injEq] at H; obtain ⟨rfl⟩ := H; obtain ⟨_, _, _, _, _, _, _, _, _, _⟩ := cells10 BK125.out; obtain ⟨_, _, _, _, _, _, _, _, _, _⟩ := frozens10 BK125.out
                  go_wp2_with (first | ((with_reducible refine gate_callee (f := 27) rfl ?_); refine goesL_ (some 16) rfl rfl Tryd.func27 (by kernel_rfl) rfl #[.string a0_0] rfl ap1 ?_; (with_reducible refine (label_Right.calls a0_0 true _ ?side1 A7.out).mono ?_); (case side1 => first | (with_reducible exact HT.out) | exact Tabs.below HT.out (beu HB.out)); rintro e w29 ⟨rfl, hb⟩; refine ⟨_, rfl, ?_⟩; have _ := am (blk_below (bu BK125.out) hb); have _ := am (below_step (beu HB.out) hb); clear BK125 HB; rename_i BK125 HB; (try clear hb); obtain ⟨_, _, _, _, _, _, _, _, _, _⟩ := cells10 BK125.out; obtain ⟨_, _, _, _, _, _, _, _, _, _⟩ := frozens10 BK125.out) | (go_at_call 28; (with_reducible refine (order_group.calls a0_2 a0_3 a0_4 true _ ?side1 A9.out).mono ?_); (case side1 => first | (with_reducible exact HT.out) | exact Tabs.below HT.out (beu HB.out)); rintro e w31 ⟨rfl, hb⟩; have _ := am (blk_below (bu BK125.out) hb); have _ := am (below_step (beu HB.out) hb); clear BK125 HB; rename_i BK125 HB; (try clear hb); obtain ⟨_, _, _, _, _, _, _, _, _, _⟩ := cells10 BK125.out; obtain ⟨_, _, _, _, _, _, _, _, _, _⟩ := frozens10 BK125.out) | (go_at_call 29; (with_reducible refine (lines_Right.calls kj1 _ _ l0_1 true _ ?side1 ?side2 ?side3 A11.out).mono ?_); (case side1 => exact cu (Kd.C_below HR0_1.out HB.out)); (case side2 => exact HC0_1.out); (case side3 => first | (with_reducible exact HT.out) | exact Tabs.below HT.out (beu HB.out)); rintro e w33 ⟨rfl, hb⟩; have _ := am (blk_below (bu BK125.out) hb); have _ := am (below_step (beu HB.out) hb); clear BK125 HB; rename_i BK125 HB; (try clear hb); obtain ⟨_, _, _, _, _, _, _, _, _, _⟩ := cells10 BK125.out; obtain ⟨_, _, _, _, _, _, _, _, _, _⟩ := frozens10 BK125.out) | (go_at_call 30; (with_reducible refine (tally_Right.calls a0_5 true _ A13.out).mono ?_); rintro e w' ⟨rfl, ⟨nd, rfl⟩⟩) | (go_at_call 31; (with_reducible refine (order_saga.calls a0_6 a0_7 a0_8 true _ A15.out).mono ?_); rintro e w35 ⟨rfl, hb⟩; have _ := am (blk_below (bu BK125.out) hb); have _ := am (below_step (beu HB.out) hb); clear BK125 HB; rename_i BK125 HB; (try clear hb); obtain ⟨_, _, _, _, _, _, _, _, _, _⟩ := cells10 BK125.out; obtain ⟨_, _, _, _, _, _, _, _, _, _⟩ := frozens10 BK125.out) | (go_at_call 30; (with_reducible refine (tally_Right.calls a0_9 false _ A17.out).mono ?_); rintro e w' ⟨rfl, ⟨nd, rfl⟩⟩))
                  go_ret
                  exact ⟨ap4, beu HB.out⟩
              · replace c16 := Bool.eq_false_iff.mpr c16
                subst c16
                have H1 : (some false) = some r := by rw [if_neg (show ¬ (false = true) by decide)] at H; exact H
                clear H; have H := H1; clear H1; obtain rfl := Option.some.inj H; simp only [Option.some.injEq, Prod.mk.injEq] at H; obtain ⟨rfl⟩ := H; obtain ⟨_, _, _, _, _, _, _, _, _, _⟩ := cells10 BK125.out; obtain ⟨_, _, _, _, _, _, _, _, _, _⟩ := frozens10 BK125.out
                go_wp2_with (first | ((with_reducible refine gate_callee (f := 27) rfl ?_); refine goesL_ (some 16) rfl rfl Tryd.func27 (by kernel_rfl) rfl #[.string a0_0] rfl ap1 ?_; (with_reducible refine (label_Right.calls a0_0 true _ ?side1 A7.out).mono ?_); (case side1 => first | (with_reducible exact HT.out) | exact Tabs.below HT.out (beu HB.out)); rintro e w38 ⟨rfl, hb⟩; refine ⟨_, rfl, ?_⟩; have _ := am (blk_below (bu BK125.out) hb); have _ := am (below_step (beu HB.out) hb); clear BK125 HB; rename_i BK125 HB; (try clear hb); obtain ⟨_, _, _, _, _, _, _, _, _, _⟩ := cells10 BK125.out; obtain ⟨_, _, _, _, _, _, _, _, _, _⟩ := frozens10 BK125.out) | (go_at_call 28; (with_reducible refine (order_group.calls a0_2 a0_3 a0_4 true _ ?side1 A9.out).mono ?_); (case side1 => first | (with_reducible exact HT.out) | exact Tabs.below HT.out (beu HB.out)); rintro e w40 ⟨rfl, hb⟩; have _ := am (blk_below (bu BK125.out) hb); have _ := am (below_step (beu HB.out) hb); clear BK125 HB; rename_i BK125 HB; (try clear hb); obtain ⟨_, _, _, _, _, _, _, _, _, _⟩ := cells10 BK125.out; obtain ⟨_, _, _, _, _, _, _, _, _, _⟩ := frozens10 BK125.out) | (go_at_call 29; (with_reducible refine (lines_Right.calls kj1 _ _ l0_1 true _ ?side1 ?side2 ?side3 A11.out).mono ?_); (case side1 => exact cu (Kd.C_below HR0_1.out HB.out)); (case side2 => exact HC0_1.out); (case side3 => first | (with_reducible exact HT.out) | exact Tabs.below HT.out (beu HB.out)); rintro e w42 ⟨rfl, hb⟩; have _ := am (blk_below (bu BK125.out) hb); have _ := am (below_step (beu HB.out) hb); clear BK125 HB; rename_i BK125 HB; (try clear hb); obtain ⟨_, _, _, _, _, _, _, _, _, _⟩ := cells10 BK125.out; obtain ⟨_, _, _, _, _, _, _, _, _, _⟩ := frozens10 BK125.out) | (go_at_call 30; (with_reducible refine (tally_Right.calls a0_5 true _ A13.out).mono ?_); rintro e w' ⟨rfl, ⟨nd, rfl⟩⟩) | (go_at_call 31; (with_reducible refine (order_saga.calls a0_6 a0_7 a0_8 false _ A15.out).mono ?_); rintro e w44 ⟨rfl, hb⟩; have _ := am (blk_below (bu BK125.out) hb); have _ := am (below_step (beu HB.out) hb); clear BK125 HB; rename_i BK125 HB; (try clear hb)))
                go_ret
                exact ⟨ap4, beu HB.out⟩
            · replace c14 := Bool.eq_false_iff.mpr c14
              subst c14
              have H1 : (some false) = some r := by rw [if_neg (show ¬ (false = true) by decide)] at H; exact H
              clear H; have H := H1; clear H1; obtain rfl := Option.some.inj H; simp only [Option.some.injEq, Prod.mk.injEq] at H; obtain ⟨rfl⟩ := H; obtain ⟨_, _, _, _, _, _, _, _, _, _⟩ := cells10 BK125.out; obtain ⟨_, _, _, _, _, _, _, _, _, _⟩ := frozens10 BK125.out
              go_wp2_with (first | ((with_reducible refine gate_callee (f := 27) rfl ?_); refine goesL_ (some 16) rfl rfl Tryd.func27 (by kernel_rfl) rfl #[.string a0_0] rfl ap1 ?_; (with_reducible refine (label_Right.calls a0_0 true _ ?side1 A7.out).mono ?_); (case side1 => first | (with_reducible exact HT.out) | exact Tabs.below HT.out (beu HB.out)); rintro e w46 ⟨rfl, hb⟩; refine ⟨_, rfl, ?_⟩; have _ := am (blk_below (bu BK125.out) hb); have _ := am (below_step (beu HB.out) hb); clear BK125 HB; rename_i BK125 HB; (try clear hb); obtain ⟨_, _, _, _, _, _, _, _, _, _⟩ := cells10 BK125.out; obtain ⟨_, _, _, _, _, _, _, _, _, _⟩ := frozens10 BK125.out) | (go_at_call 28; (with_reducible refine (order_group.calls a0_2 a0_3 a0_4 true _ ?side1 A9.out).mono ?_); (case side1 => first | (with_reducible exact HT.out) | exact Tabs.below HT.out (beu HB.out)); rintro e w48 ⟨rfl, hb⟩; have _ := am (blk_below (bu BK125.out) hb); have _ := am (below_step (beu HB.out) hb); clear BK125 HB; rename_i BK125 HB; (try clear hb); obtain ⟨_, _, _, _, _, _, _, _, _, _⟩ := cells10 BK125.out; obtain ⟨_, _, _, _, _, _, _, _, _, _⟩ := frozens10 BK125.out) | (go_at_call 29; (with_reducible refine (lines_Right.calls kj1 _ _ l0_1 true _ ?side1 ?side2 ?side3 A11.out).mono ?_); (case side1 => exact cu (Kd.C_below HR0_1.out HB.out)); (case side2 => exact HC0_1.out); (case side3 => first | (with_reducible exact HT.out) | exact Tabs.below HT.out (beu HB.out)); rintro e w50 ⟨rfl, hb⟩; have _ := am (blk_below (bu BK125.out) hb); have _ := am (below_step (beu HB.out) hb); clear BK125 HB; rename_i BK125 HB; (try clear hb); obtain ⟨_, _, _, _, _, _, _, _, _, _⟩ := cells10 BK125.out; obtain ⟨_, _, _, _, _, _, _, _, _, _⟩ := frozens10 BK125.out) | (go_at_call 30; (with_reducible refine (tally_Right.calls a0_5 false _ A13.out).mono ?_); rintro e w' ⟨rfl, ⟨nd, rfl⟩⟩))
              go_ret
              exact ⟨ap4, beu HB.out⟩
          · replace c12 := Bool.eq_false_iff.mpr c12
            subst c12
            have H1 : (some false) = some r := by rw [if_neg (show ¬ (false = true) by decide)] at H; exact H
            clear H; have H := H1; clear H1; obtain rfl := Option.some.inj H; simp only [Option.some.injEq, Prod.mk.injEq] at H; obtain ⟨rfl⟩ := H; obtain ⟨_, _, _, _, _, _, _, _, _, _⟩ := cells10 BK125.out; obtain ⟨_, _, _, _, _, _, _, _, _, _⟩ := frozens10 BK125.out
            go_wp2_with (first | ((with_reducible refine gate_callee (f := 27) rfl ?_); refine goesL_ (some 16) rfl rfl Tryd.func27 (by kernel_rfl) rfl #[.string a0_0] rfl ap1 ?_; (with_reducible refine (label_Right.calls a0_0 true _ ?side1 A7.out).mono ?_); (case side1 => first | (with_reducible exact HT.out) | exact Tabs.below HT.out (beu HB.out)); rintro e w53 ⟨rfl, hb⟩; refine ⟨_, rfl, ?_⟩; have _ := am (blk_below (bu BK125.out) hb); have _ := am (below_step (beu HB.out) hb); clear BK125 HB; rename_i BK125 HB; (try clear hb); obtain ⟨_, _, _, _, _, _, _, _, _, _⟩ := cells10 BK125.out; obtain ⟨_, _, _, _, _, _, _, _, _, _⟩ := frozens10 BK125.out) | (go_at_call 28; (with_reducible refine (order_group.calls a0_2 a0_3 a0_4 true _ ?side1 A9.out).mono ?_); (case side1 => first | (with_reducible exact HT.out) | exact Tabs.below HT.out (beu HB.out)); rintro e w55 ⟨rfl, hb⟩; have _ := am (blk_below (bu BK125.out) hb); have _ := am (below_step (beu HB.out) hb); clear BK125 HB; rename_i BK125 HB; (try clear hb); obtain ⟨_, _, _, _, _, _, _, _, _, _⟩ := cells10 BK125.out; obtain ⟨_, _, _, _, _, _, _, _, _, _⟩ := frozens10 BK125.out) | (go_at_call 29; (with_reducible refine (lines_Right.calls kj1 _ _ l0_1 false _ ?side1 ?side2 ?side3 A11.out).mono ?_); (case side1 => exact cu (Kd.C_below HR0_1.out HB.out)); (case side2 => exact HC0_1.out); (case side3 => first | (with_reducible exact HT.out) | exact Tabs.below HT.out (beu HB.out)); rintro e w57 ⟨rfl, hb⟩; have _ := am (blk_below (bu BK125.out) hb); have _ := am (below_step (beu HB.out) hb); clear BK125 HB; rename_i BK125 HB; (try clear hb)))
            go_ret
            exact ⟨ap4, beu HB.out⟩
        · replace c10 := Bool.eq_false_iff.mpr c10
          subst c10
          have H1 : (some false) = some r := by rw [if_neg (show ¬ (false = true) by decide)] at H; exact H
          clear H; have H := H1; clear H1; obtain rfl := Option.some.inj H; simp only [Option.some.injEq, Prod.mk.injEq] at H; obtain ⟨rfl⟩ := H; obtain ⟨_, _, _, _, _, _, _, _, _, _⟩ := cells10 BK125.out; obtain ⟨_, _, _, _, _, _, _, _, _, _⟩ := frozens10 BK125.out
          go_wp2_with (first | ((with_reducible refine gate_callee (f := 27) rfl ?_); refine goesL_ (some 16) rfl rfl Tryd.func27 (by kernel_rfl) rfl #[.string a0_0] rfl ap1 ?_; (with_reducible refine (label_Right.calls a0_0 true _ ?side1 A7.out).mono ?_); (case side1 => first | (with_reducible exact HT.out) | exact Tabs.below HT.out (beu HB.out)); rintro e w59 ⟨rfl, hb⟩; refine ⟨_, rfl, ?_⟩; have _ := am (blk_below (bu BK125.out) hb); have _ := am (below_step (beu HB.out) hb); clear BK125 HB; rename_i BK125 HB; (try clear hb); obtain ⟨_, _, _, _, _, _, _, _, _, _⟩ := cells10 BK125.out; obtain ⟨_, _, _, _, _, _, _, _, _, _⟩ := frozens10 BK125.out) | (go_at_call 28; (with_reducible refine (order_group.calls a0_2 a0_3 a0_4 false _ ?side1 A9.out).mono ?_); (case side1 => first | (with_reducible exact HT.out) | exact Tabs.below HT.out (beu HB.out)); rintro e w61 ⟨rfl, hb⟩; have _ := am (blk_below (bu BK125.out) hb); have _ := am (below_step (beu HB.out) hb); clear BK125 HB; rename_i BK125 HB; (try clear hb)))
          go_ret
          exact ⟨ap4, beu HB.out⟩
      · replace c8 := Bool.eq_false_iff.mpr c8
        subst c8
        have H1 : (some false) = some r := by rw [if_neg (show ¬ (false = true) by decide)] at H; exact H
        clear H; have H := H1; clear H1; obtain rfl := Option.some.inj H; simp only [Option.some.injEq, Prod.mk.injEq] at H; obtain ⟨rfl⟩ := H; obtain ⟨_, _, _, _, _, _, _, _, _, _⟩ := cells10 BK125.out; obtain ⟨_, _, _, _, _, _, _, _, _, _⟩ := frozens10 BK125.out
        go_wp2_with (first | ((with_reducible refine gate_callee (f := 27) rfl ?_); refine goesL_ (some 16) rfl rfl Tryd.func27 (by kernel_rfl) rfl #[.string a0_0] rfl ap1 ?_; (with_reducible refine (label_Right.calls a0_0 false _ ?side1 A7.out).mono ?_); (case side1 => first | (with_reducible exact HT.out) | exact Tabs.below HT.out (beu HB.out)); rintro e w63 ⟨rfl, hb⟩; refine ⟨_, rfl, ?_⟩; have _ := am (blk_below (bu BK125.out) hb); have _ := am (below_step (beu HB.out) hb); clear BK125 HB; rename_i BK125 HB; (try clear hb)))
        go_ret
        exact ⟨ap4, beu HB.out⟩
def slices_Clone_byte_byte.f (a0 : List Int) : Option (List Int) := if a0.length < 140737488355328 then some a0 else none
set_option maxHeartbeats 4000000 in
set_option maxRecDepth 100000 in
theorem slices_Clone_byte_byte.calls (A0 : Option Addr) (c0 : Nat) (l0 : List Int) (r : List Int) (w : World) (hr0 : Kd.C (Kd.int .u8) w A0 l0.length l0) (hc0 : l0.length ≤ c0) (h : slices_Clone_byte_byte.f l0 = some r) :
    Calls Tryd.prog 42 #[.slice A0 l0.length c0] w fun e w' => ∃ v0_ : Value, e = .returned (v0_) ∧ Kd.R (Kd.int .u8) 5 w' w.heap.size (fun _ => True) v0_ r ∧ Below w.heap.size w w' := by
  have hl : l0.length < 140737488355328 := by
    by_cases c : l0.length < 140737488355328
    · exact c
    · rw [slices_Clone_byte_byte.f, if_neg c] at h; cases h
  obtain rfl : l0 = r := by rw [slices_Clone_byte_byte.f, if_pos hl] at h; exact Option.some.inj h
  clear h; have HC := am hr0
  cases A0 with
  | none =>
    have h0 : l0 = [] := by
      cases l0 with
      | nil => rfl
      | cons x t =>
        obtain ⟨ad, c, hA, _⟩ := Kd.C_get hr0 x 0 (by omega) (by simp)
        cases hA
    subst h0; clear hr0
    have heq := fun W => Lib.run_eql_slice_nil (P := Tryd.prog) W 31 5 none 0 c0 0 0 Tryd.underlying31
    go_enter Tryd.func42, Tryd.ntmps42
    go_wp2_with fail
    go_ret
    exact ⟨.slice none 0 0, rfl, Kd.R_nil _ _ _ _ _, Below.refl _ _⟩
  | some ad =>
    clear hr0; have LM := am hl; clear hl
    have heq := fun W => Lib.run_eql_slice_nil (P := Tryd.prog) W 31 5 (some ad) l0.length c0 0 0 Tryd.underlying31
    go_enter Tryd.func42, Tryd.ntmps42
    go_wp2_with (first | ((with_reducible refine gate_dst (N := 5) rfl ?_); refine Kd.R_lit (Kd.int .u8) w.heap.size 5 ?hg (N := 5) ?hd (xs := ([] : List Int)) (inner := []) (ok := fun _ => True) (okp := fun _ => True) ?hr ?hp (fun _ hk => hk) trivial (Below.refl _ _) (Nat.le_refl _) (by simp) ?_; (case hd => rfl); (case hg => rfl); (case hr => first | (go_simp; done) | (go_simp; rfl)); (case hp => exact (Reps.none _ _)); intro v1 w1 ho1 hb1 hg1 hn1; have HO := am ho1; have HB := am hb1; have HC1 := am (Kd.C_below HC.out hb1); clear ho1 hb1 hg1 hn1) | ((with_reducible refine gate_builtin (b := .append) (xs := #[.tmp 5, .tmp 6]) rfl ?_); at_builtin; refine Kd.R_append_rows (Kd.int .u8) (w0 := w) w.heap.size rfl (.tmp 5) (.tmp 6) 31 5 (.int .u8 0) 1 rfl Tryd.underlying31 info5 rfl (by decide) (by omega) v1 [] l0 _ _ _ (fun _ => True) (fun _ => False) rfl rfl ?aO ?aR (fun _ _ h => h) (fun _ h => h.elim) ?aF ?aB ?aS ?aL ?_; (case aR => exact HC1.out); (case aB => exact HB.out); (case aF => exact (fun _ _ => trivial)); (case aO => exact HO.out); (case aS => exact HB.out.size); (case aL => have := LM.out; simp; omega); intro v2 w2 ho hb hg hat; have HO2 := am ho; have HB2 := am hb; clear ho hb hg hat))
    go_ret
    exact ⟨_, rfl, HO2.out, HB2.out⟩
mutual
def packet_Number.l0 : Nat → List Int → List Int → Int → Int → Option (List Int)
  | 0, _, _, _, _ => none
  | k + 1, x5, x10, x11, x12 => if x12 < x11 then (if 0 ≤ x12 then (if x12 < (x10.length : Int) then (packet_Number.l1 k x5 (rd x10 x12) x10 x11 x12) else (none)) else (none)) else (some x5)
def packet_Number.l1 : Nat → List Int → Int → List Int → Int → Int → Option (List Int)
  | 0, _, _, _, _, _ => none
  | k + 1, x5, x7, x10, x11, x12 => if x7 ≥ 128 then (if x5.length < 140737488355328 then (packet_Number.l1 k (x5 ++ [Go.bits .or .u8 ((x7) % 256) 128]) (x7 / 128) x10 x11 x12) else (none)) else (if x5.length < 140737488355328 then (packet_Number.l0 k (x5 ++ [(x7) % 256]) x10 x11 (wrap64 (x12 + 1))) else (none))
end
def packet_Number.f (k : Nat) (l0 : List Int) (l1 : List Int) : Option (List Int) := (slices_Clone_byte_byte.f l0).bind fun t132 => (packet_Number.l0 k t132 l1 (l1.length : Int) 0)
theorem packet_Number.mono_l : ∀ k, (∀ y0 y1 y2 y3, LeO (packet_Number.l0 k y0 y1 y2 y3) (packet_Number.l0 (k + 1) y0 y1 y2 y3)) ∧ (∀ y0 y1 y2 y3 y4, LeO (packet_Number.l1 k y0 y1 y2 y3 y4) (packet_Number.l1 (k + 1) y0 y1 y2 y3 y4))
  | 0 => ⟨fun _ _ _ _ r h => by simp [packet_Number.l0] at h, fun _ _ _ _ _ r h => by simp [packet_Number.l1] at h⟩
  | k + 1 => by
    obtain ⟨ih0, ih1⟩ := packet_Number.mono_l k; refine ⟨?_, ?_⟩
    · intro y0 y1 y2 y3
      unfold packet_Number.l0
      repeat' first
      | (with_reducible exact ih0 _ _ _ _)
      | (with_reducible exact ih1 _ _ _ _ _)
      | (with_reducible exact LeO.refl _)
      | (with_reducible exact LeO.none _)
      | (with_reducible refine LeO.ite ?_ ?_)
      | (with_reducible refine LeO.bind ?_ (fun _ => ?_))
      | exact ih0 _ _ _ _
      | exact ih1 _ _ _ _ _
      | exact LeO.none _
      | refine LeO.ite ?_ ?_
      | refine LeO.bind ?_ (fun _ => ?_)
    · intro y0 y1 y2 y3 y4
      unfold packet_Number.l1
      repeat' first
      | (with_reducible exact ih0 _ _ _ _)
      | (with_reducible exact ih1 _ _ _ _ _)
      | (with_reducible exact LeO.refl _)
      | (with_reducible exact LeO.none _)
      | (with_reducible refine LeO.ite ?_ ?_)
      | (with_reducible refine LeO.bind ?_ (fun _ => ?_))
      | exact ih0 _ _ _ _
      | exact ih1 _ _ _ _ _
      | exact LeO.none _
      | refine LeO.ite ?_ ?_
      | refine LeO.bind ?_ (fun _ => ?_)
theorem packet_Number.mono : ∀ a0 a1 k, LeO (packet_Number.f k a0 a1) (packet_Number.f (k + 1) a0 a1) := by
  intro a0 a1 k; obtain ⟨ih0, ih1⟩ := packet_Number.mono_l k
  unfold packet_Number.f
  repeat' first
      | (with_reducible exact ih0 _ _ _ _)
      | (with_reducible exact ih1 _ _ _ _ _)
      | (with_reducible exact LeO.refl _)
      | (with_reducible exact LeO.none _)
      | (with_reducible refine LeO.ite ?_ ?_)
      | (with_reducible refine LeO.bind ?_ (fun _ => ?_))
      | exact ih0 _ _ _ _
      | exact ih1 _ _ _ _ _
      | exact LeO.none _
      | refine LeO.ite ?_ ?_
      | refine LeO.bind ?_ (fun _ => ?_)
set_option maxHeartbeats 8000000 in
set_option maxRecDepth 100000 in
theorem packet_Number.calls (k : Nat) (A0 : Option Addr) (c0 : Nat) (l0 : List Int) (A1 : Option Addr) (c1 : Nat) (l1 : List Int) (r : List Int) (w : World) (hr0 : Kd.C (Kd.int .u8) w A0 l0.length l0) (hc0 : l0.length ≤ c0) (hr1 : Kd.C (Kd.int .u64) w A1 l1.length l1) (hc1 : l1.length ≤ c1) (h : packet_Number.f k l0 l1 = some r) :
    Calls Tryd.prog 32 #[.slice A0 l0.length c0, .slice A1 l1.length c1] w fun e w' => ∃ v0_ : Value, e = .returned (v0_) ∧ Kd.R (Kd.int .u8) 5 w' w.heap.size (fun _ => True) v0_ r ∧ Below w.heap.size w w' := by
  have HR0 := am hr0; have HC0 := am hc0; clear hr0 hc0; have HR1 := am hr1; have HC1 := am hc1; clear hr1 hc1; have HB := am (Below.refl w.heap.size w); have H : ((slices_Clone_byte_byte.f l0).bind fun t132 => (packet_Number.l0 k t132 l1 (l1.length : Int) 0)) = some r := h; clear h; replace H := obm H; obtain ⟨t132, A30, H⟩ := H; replace H : (packet_Number.l0 k t132 l1 (l1.length : Int) 0) = some r := H; have A3 := am A30; clear A30; have H' := am H; clear H
  go_enter Tryd.func32, Tryd.ntmps32
  go_wp2_with (first | ((with_reducible refine gate_callee (f := 42) rfl ?_); refine goesL_ (some 9) rfl rfl Tryd.func42 (by kernel_rfl) rfl #[.slice A0 l0.length c0] rfl ap1 ?_; (with_reducible refine (slices_Clone_byte_byte.calls _ _ l0 t132 _ ?side1 ?side2 A3.out).mono ?_); (case side1 => repeat (first | exact HR0.out | (with_reducible refine Kd.C_alloc ?_ _) | (with_reducible refine Kd.C_drewN ?_ _) | (with_reducible refine Kd.C_drew ?_))); (case side2 => exact HC0.out); rintro e w4 ⟨v133, rfl, ho0, hb⟩; refine ⟨_, rfl, ?_⟩; have _ := am (Kd.R_lower ho0 (below_size (beu HB.out))); have _ := am (below_step (beu HB.out) hb); clear HB; rename_i HO134 HB; (try clear hb); (try clear ho0)))
  go_loopg [5, 12] k (fun kq v5 v12 w' => ∃ (x5_1 : List Int) (x12_1 : Int), v12 = .int .i64 x12_1 ∧ Aside0 (packet_Number.l0 kq x5_1 l1 (l1.length : Int) x12_1 = some r) ∧ Aside0 (kq ≤ k) ∧ Aside0 (Kd.R (Kd.int .u8) 5 w' w.heap.size (fun _ => True) v5 x5_1) ∧ Aside0 (Below w.heap.size w w'))
  case atStart => exact ⟨(t132), (0), ap3, H', ⟨Nat.le_refl _⟩, ⟨ru HO134.out⟩, ⟨beu HB.out⟩⟩
  case round =>
    clear H'; (try clear c1); (try clear p2); (try clear c3); (try clear c4); obtain ⟨x5_1, x12_1, rfl, HA, HK1, HO_5, HB⟩ := hrel
    cases gk with
    | zero => exact absurd HA.out (by simp [packet_Number.l0])
    | succ k1 =>
      have H := HA.out; clear HA; simp only [packet_Number.l0] at H
      by_cases c5 : x12_1 < (l1.length : Int)
      · rw [if_pos c5] at H
        have c5b0 : decide (x12_1 < (l1.length : Int)) = true := decide_eq_true c5; clear c5
        by_cases c6 : 0 ≤ x12_1
        · rw [if_pos c6] at H
          have c6b0 : decide (0 ≤ x12_1) = true := decide_eq_true c6; clear c6
          by_cases c7 : x12_1 < (l1.length : Int)
          · rw [if_pos c7] at H
            have c7b0 : decide (x12_1 < (l1.length : Int)) = true := decide_eq_true c7; clear c7; have H' := am H; clear H; have p135 : 0 ≤ (x12_1 : Int) := of_decide_eq_true ap2; have q135 : x12_1 < (l1.length : Int) := of_decide_eq_true ap2; obtain ⟨ad135, e135, hx135_0⟩ := Kd.at_int HR1.out x12_1 p135 q135
            cases e135
            replace hx135_0 := (HB.out.cell (World.block_lt_of_cell? w _ hx135_0)).trans hx135_0; replace p135 := eq_true p135; replace q135 := eq_true q135
            go_wp2
            go_loopg [5, 7] k1 (fun kq v5 v7 w' => ∃ (x5_2 : List Int) (x7_2 : Int), v7 = .int .u64 x7_2 ∧ Aside0 (packet_Number.l1 kq x5_2 x7_2 l1 (l1.length : Int) x12_1 = some r) ∧ Aside0 (kq ≤ k1) ∧ Aside0 (Kd.R (Kd.int .u8) 5 w' w.heap.size (fun _ => True) v5 x5_2) ∧ Aside0 (Below w.heap.size w w'))
            case atStart => exact ⟨(x5_1), (rd l1 x12_1), ap3, H', ⟨Nat.le_refl _⟩, ⟨ru HO_5.out⟩, ⟨beu HB.out⟩⟩
            case round =>
              clear H'; (try clear c1); (try clear p1); (try clear q1); (try clear hx1); (try clear p2); (try clear c3); (try clear c4); (try clear c5); (try clear c5b0); (try clear c6); (try clear c6b0); (try clear c7); (try clear c7b0); (try clear hx135_0); (try clear p135); (try clear p2); (try clear q135); obtain ⟨x5_2, x7_2, rfl, HA, HK2, HO_5, HB⟩ := hrel
              cases gk with
              | zero => exact absurd HA.out (by simp [packet_Number.l1])
              | succ k2 =>
                have H := HA.out; clear HA; simp only [packet_Number.l1] at H
                by_cases c8 : x7_2 ≥ 128
                · rw [if_pos c8] at H
                  have c8b0 : decide (128 ≤ x7_2) = true := decide_eq_true c8; clear c8
                  by_cases c9 : x5_2.length < 140737488355328
                  · rw [if_pos c9] at H
                    have LMc9 := am c9; clear c9; obtain ⟨y136, hy136⟩ : ∃ y_ : List Int, y_ = (x5_2 ++ [Go.bits .or .u8 ((x7_2) % 256) 128]) := ⟨_, rfl⟩
                    replace H : (packet_Number.l1 k2 y136 (x7_2 / 128) l1 (l1.length : Int) x12_1) = some r := by first | (rw [hy136]; with_reducible exact H) | (have H2_ := (Option.bind_some _ _).symm.trans H; rw [hy136]; with_reducible exact H2_) | (have H2_ := (Option.bind_some _ _).symm.trans H; with_reducible exact H2_) | with_reducible exact H | (rw [hy136]; exact H) | exact H
                    have Ny136 := am hy136; clear hy136; have H' := am H; clear H
                    go_wp2_with (first | ((with_reducible refine gate_builtin (b := .append) (xs := #[.tmp 20, .tmp 24]) rfl ?_); at_builtin; refine Kd.R_append (Kd.int .u8) (w0 := w) w.heap.size rfl (.tmp 20) (.tmp 24) 31 5 (.int .u8 0) 1 rfl Tryd.underlying31 info5 rfl (by decide) (by omega) u5 x5_2 (Go.bits .or .u8 ((x7_2) % 256) 128) [.int .u8 (Go.bits .or .u8 ((x7_2) % 256) 128)] (fun _ => True) (fun _ => False) rfl rfl ?aP (fun _ hk => hk.elim) ?aF ?aO ?aB ?aS ?aL ?_; (case aP => exact rfl); (case aB => exact (beu HB.out)); (case aF => exact (fun _ _ => trivial)); (case aO => exact (ru HO_5.out)); (case aS => exact (below_size (beu HB.out))); (case aL => have := LMc9.out; omega); intro v137 w10 ho hb hg hat; rw [← Ny136.out] at ho; have _ := am (hb); have _ := am (ho); clear HB HO_5; rename_i HB HO138; clear ho hb hg hat))
                    go_roundg k2
                    case measure => have := HK1.out; have := HK2.out; omega
                    case rel => exact ⟨(y136), (x7_2 / 128), ap3, H', ⟨by have := HK1.out; have := HK2.out; omega⟩, ⟨ru HO138.out⟩, ⟨beu HB.out⟩⟩
                  · rw [if_neg c9] at H
                    exact absurd H (by simp)
                · rw [if_neg c8] at H
                  have c8b0 : decide (128 ≤ x7_2) = false := decide_eq_false c8; clear c8
                  by_cases c11 : x5_2.length < 140737488355328
                  · rw [if_pos c11] at H
                    have LMc11 := am c11; clear c11; obtain ⟨y139, hy139⟩ : ∃ y_ : List Int, y_ = (x5_2 ++ [(x7_2) % 256]) := ⟨_, rfl⟩
                    replace H : (packet_Number.l0 k2 y139 l1 (l1.length : Int) (wrap64 (x12_1 + 1))) = some r := by first | (rw [hy139]; with_reducible exact H) | (have H2_ := (Option.bind_some _ _).symm.trans H; rw [hy139]; with_reducible exact H2_) | (have H2_ := (Option.bind_some _ _).symm.trans H; with_reducible exact H2_) | with_reducible exact H | (rw [hy139]; exact H) | exact H
                    have Ny139 := am hy139; clear hy139; have H' := am H; clear H
                    go_wp2_with (first | ((with_reducible refine gate_builtin (b := .append) (xs := #[.tmp 26, .tmp 29]) rfl ?_); at_builtin; refine Kd.R_append (Kd.int .u8) (w0 := w) w.heap.size rfl (.tmp 26) (.tmp 29) 31 5 (.int .u8 0) 1 rfl Tryd.underlying31 info5 rfl (by decide) (by omega) u5 x5_2 ((x7_2) % 256) [.int .u8 ((x7_2) % 256)] (fun _ => True) (fun _ => False) rfl rfl ?aP (fun _ hk => hk.elim) ?aF ?aO ?aB ?aS ?aL ?_; (case aP => exact rfl); (case aB => exact (beu HB.out)); (case aF => exact (fun _ _ => trivial)); (case aO => exact (ru HO_5.out)); (case aS => exact (below_size (beu HB.out))); (case aL => have := LMc11.out; omega); intro v140 w12 ho hb hg hat; rw [← Ny139.out] at ho; have _ := am (hb); have _ := am (ho); clear HB HO_5; rename_i HB HO141; clear ho hb hg hat))
                    go_roundg k2
                    case measure => have := HK1.out; have := HK2.out; omega
                    case rel => exact ⟨(y139), (wrap64 (x12_1 + 1)), ap3, H', ⟨by have := HK1.out; have := HK2.out; omega⟩, ⟨ru HO141.out⟩, ⟨beu HB.out⟩⟩
                  · rw [if_neg c11] at H
                    exact absurd H (by simp)
          · rw [if_neg c7] at H
            exact absurd H (by simp)
        · rw [if_neg c6] at H
          exact absurd H (by simp)
      · rw [if_neg c5] at H
        have c5b0 : decide (x12_1 < (l1.length : Int)) = false := decide_eq_false c5; clear c5; obtain rfl := Option.some.inj H; simp only [Option.some.injEq, Prod.mk.injEq] at H; obtain ⟨rfl⟩ := H
        go_wp2
        go_ret
        exact ⟨_, ap4, ru HO_5.out, beu HB.out⟩
def packet_Text.l0 : Nat → List Int → List ByteArray → Int → Int → Option (List Int)
  | 0, _, _, _, _ => none
  | k + 1, x5, x10, x11, x12 => if x12 < x11 then (if 0 ≤ x12 then (if x12 < (x10.length : Int) then ((packet_Number.f k x5 (([IntKind.u64.wrap (((rdOf ByteArray.empty x10 x12).size : Int))] : List Int))).bind fun t149 => (if t149.length + (rdOf ByteArray.empty x10 x12).size < 140737488355328 then (packet_Text.l0 k (t149 ++ bytesOf (rdOf ByteArray.empty x10 x12)) x10 x11 (wrap64 (x12 + 1))) else (none))) else (none)) else (none)) else (some x5)
def packet_Text.f (k : Nat) (l0 : List Int) (l1 : List ByteArray) : Option (List Int) := (slices_Clone_byte_byte.f l0).bind fun t142 => (packet_Text.l0 k t142 l1 (l1.length : Int) 0)
theorem packet_Text.mono_l : ∀ k, (∀ y0 y1 y2 y3, LeO (packet_Text.l0 k y0 y1 y2 y3) (packet_Text.l0 (k + 1) y0 y1 y2 y3))
  | 0 => fun _ _ _ _ r h => by simp [packet_Text.l0] at h
  | k + 1 => by
    have ih0 := packet_Text.mono_l k
    · intro y0 y1 y2 y3
      unfold packet_Text.l0
      repeat' first
      | (with_reducible exact ih0 _ _ _ _)
      | (with_reducible exact packet_Number.mono _ _ _)
      | (with_reducible exact LeO.refl _)
      | (with_reducible exact LeO.none _)
      | (with_reducible refine LeO.ite ?_ ?_)
      | (with_reducible refine LeO.bind ?_ (fun _ => ?_))
      | exact ih0 _ _ _ _
      | exact packet_Number.mono _ _ _
      | exact LeO.none _
      | refine LeO.ite ?_ ?_
      | refine LeO.bind ?_ (fun _ => ?_)
theorem packet_Text.mono : ∀ a0 a1 k, LeO (packet_Text.f k a0 a1) (packet_Text.f (k + 1) a0 a1) := by
  intro a0 a1 k; have ih0 := packet_Text.mono_l k
  unfold packet_Text.f
  repeat' first
      | (with_reducible exact ih0 _ _ _ _)
      | (with_reducible exact packet_Number.mono _ _ _)
      | (with_reducible exact LeO.refl _)
      | (with_reducible exact LeO.none _)
      | (with_reducible refine LeO.ite ?_ ?_)
      | (with_reducible refine LeO.bind ?_ (fun _ => ?_))
      | exact ih0 _ _ _ _
      | exact packet_Number.mono _ _ _
      | exact LeO.none _
      | refine LeO.ite ?_ ?_
      | refine LeO.bind ?_ (fun _ => ?_)
set_option maxHeartbeats 8000000 in
set_option maxRecDepth 100000 in
theorem packet_Text.calls (k : Nat) (A0 : Option Addr) (c0 : Nat) (l0 : List Int) (A1 : Option Addr) (c1 : Nat) (l1 : List ByteArray) (r : List Int) (w : World) (hr0 : Kd.C (Kd.int .u8) w A0 l0.length l0) (hc0 : l0.length ≤ c0) (hr1 : Kd.C Kd.string w A1 l1.length l1) (hc1 : l1.length ≤ c1) (h : packet_Text.f k l0 l1 = some r) :
    Calls Tryd.prog 33 #[.slice A0 l0.length c0, .slice A1 l1.length c1] w fun e w' => ∃ v0_ : Value, e = .returned (v0_) ∧ Kd.R (Kd.int .u8) 5 w' w.heap.size (fun _ => True) v0_ r ∧ Below w.heap.size w w' := by
  have HR0 := am hr0; have HC0 := am hc0; clear hr0 hc0; have HR1 := am hr1; have HC1 := am hc1; clear hr1 hc1; have HB := am (Below.refl w.heap.size w); have H : ((slices_Clone_byte_byte.f l0).bind fun t142 => (packet_Text.l0 k t142 l1 (l1.length : Int) 0)) = some r := h; clear h; replace H := obm H; obtain ⟨t142, A30, H⟩ := H; replace H : (packet_Text.l0 k t142 l1 (l1.length : Int) 0) = some r := H; have A3 := am A30; clear A30; have H' := am H; clear H
  go_enter Tryd.func33, Tryd.ntmps33
  go_wp2_with (first | ((with_reducible refine gate_callee (f := 42) rfl ?_); refine goesL_ (some 9) rfl rfl Tryd.func42 (by kernel_rfl) rfl #[.slice A0 l0.length c0] rfl ap1 ?_; (with_reducible refine (slices_Clone_byte_byte.calls _ _ l0 t142 _ ?side1 ?side2 A3.out).mono ?_); (case side1 => repeat (first | exact HR0.out | (with_reducible refine Kd.C_alloc ?_ _) | (with_reducible refine Kd.C_drewN ?_ _) | (with_reducible refine Kd.C_drew ?_))); (case side2 => exact HC0.out); rintro e w4 ⟨v143, rfl, ho0, hb⟩; refine ⟨_, rfl, ?_⟩; have _ := am (Kd.R_lower ho0 (below_size (beu HB.out))); have _ := am (below_step (beu HB.out) hb); clear HB; rename_i HO144 HB; (try clear hb); (try clear ho0)))
  go_loopg [5, 12] k (fun kq v5 v12 w' => ∃ (x5_1 : List Int) (x12_1 : Int), v12 = .int .i64 x12_1 ∧ Aside0 (packet_Text.l0 kq x5_1 l1 (l1.length : Int) x12_1 = some r) ∧ Aside0 (kq ≤ k) ∧ Aside0 (Kd.R (Kd.int .u8) 5 w' w.heap.size (fun _ => True) v5 x5_1) ∧ Aside0 (Below w.heap.size w w'))
  case atStart => exact ⟨(t142), (0), ap3, H', ⟨Nat.le_refl _⟩, ⟨ru HO144.out⟩, ⟨beu HB.out⟩⟩
  case round =>
    clear H'; (try clear c1); (try clear p2); (try clear c3); (try clear c4); obtain ⟨x5_1, x12_1, rfl, HA, HK1, HO_5, HB⟩ := hrel
    cases gk with
    | zero => exact absurd HA.out (by simp [packet_Text.l0])
    | succ k1 =>
      have H := HA.out; clear HA; simp only [packet_Text.l0] at H
      by_cases c5 : x12_1 < (l1.length : Int)
      · rw [if_pos c5] at H
        have c5b0 : decide (x12_1 < (l1.length : Int)) = true := decide_eq_true c5; clear c5
        by_cases c6 : 0 ≤ x12_1
        · rw [if_pos c6] at H
          have c6b0 : decide (0 ≤ x12_1) = true := decide_eq_true c6; clear c6
          by_cases c7 : x12_1 < (l1.length : Int)
          · rw [if_pos c7] at H
            have c7b0 : decide (x12_1 < (l1.length : Int)) = true := decide_eq_true c7; clear c7; obtain ⟨y146, hy146⟩ : ∃ y_ : List Int, y_ = (([IntKind.u64.wrap (((rdOf ByteArray.empty l1 x12_1).size : Int))] : List Int)) := ⟨_, rfl⟩
            replace H : ((packet_Number.f k1 x5_1 y146).bind fun t149 => (if t149.length + (rdOf ByteArray.empty l1 x12_1).size < 140737488355328 then (packet_Text.l0 k1 (t149 ++ bytesOf (rdOf ByteArray.empty l1 x12_1)) l1 (l1.length : Int) (wrap64 (x12_1 + 1))) else (none))) = some r := by first | (rw [hy146]; with_reducible exact H) | (have H2_ := (Option.bind_some _ _).symm.trans H; rw [hy146]; with_reducible exact H2_) | (have H2_ := (Option.bind_some _ _).symm.trans H; with_reducible exact H2_) | with_reducible exact H | (rw [hy146]; exact H) | exact H
            have Ny146 := am hy146; clear hy146; replace H := obm H; obtain ⟨t149, A80, H⟩ := H; replace H : (if t149.length + (rdOf ByteArray.empty l1 x12_1).size < 140737488355328 then (packet_Text.l0 k1 (t149 ++ bytesOf (rdOf ByteArray.empty l1 x12_1)) l1 (l1.length : Int) (wrap64 (x12_1 + 1))) else (none)) = some r := H; have A8 := am A80; clear A80
            by_cases c9 : t149.length + (rdOf ByteArray.empty l1 x12_1).size < 140737488355328
            · rw [if_pos c9] at H
              have LMc9 := am c9; clear c9; obtain ⟨y152, hy152⟩ : ∃ y_ : List Int, y_ = (t149 ++ bytesOf (rdOf ByteArray.empty l1 x12_1)) := ⟨_, rfl⟩
              replace H : (packet_Text.l0 k1 y152 l1 (l1.length : Int) (wrap64 (x12_1 + 1))) = some r := by first | (rw [hy152]; with_reducible exact H) | (have H2_ := (Option.bind_some _ _).symm.trans H; rw [hy152]; with_reducible exact H2_) | (have H2_ := (Option.bind_some _ _).symm.trans H; with_reducible exact H2_) | with_reducible exact H | (rw [hy152]; exact H) | exact H
              have Ny152 := am hy152; clear hy152; have H' := am H; clear H; have p145 : 0 ≤ (x12_1 : Int) := of_decide_eq_true ap2; have q145 : x12_1 < (l1.length : Int) := of_decide_eq_true ap2; obtain ⟨ad145, e145, hx145_0⟩ := Kd.at_string HR1.out x12_1 p145 q145
              cases e145
              replace hx145_0 := (HB.out.cell (World.block_lt_of_cell? w _ hx145_0)).trans hx145_0; replace p145 := eq_true p145; replace q145 := eq_true q145
              go_wp2_with (first | ((with_reducible refine gate_dst (N := 20) rfl ?_); refine Kd.R_lit (Kd.int .u64) _ 47 ?hg (N := 20) ?hd (xs := ([IntKind.u64.wrap (((rdOf ByteArray.empty l1 x12_1).size : Int))] : List Int)) (inner := [.int .u64 (IntKind.u64.wrap (((rdOf ByteArray.empty l1 x12_1).size : Int)))]) (ok := fun _ => True) (okp := fun _ => True) ?hr ?hp (fun _ hk => hk) trivial (Below.refl _ _) (Nat.le_refl _) (by simp) ?_; (case hd => rfl); (case hg => rfl); (case hr => first | (go_simp; done) | (go_simp; rfl)); (case hp => exact (Reps.one (show Kd.M (Kd.int .u64) _ _ _ (IntKind.u64.wrap (((rdOf ByteArray.empty l1 x12_1).size : Int))) [.int .u64 (IntKind.u64.wrap (((rdOf ByteArray.empty l1 x12_1).size : Int)))] from rfl) (Reps.none _ _))); intro v147 w10 ho11 hb hg_ hnew_; clear hg_ hnew_; (first | rw [← Ny146.out] at ho11 | (simp only [Int.reduceToNat] at ho11; rw [← Ny146.out] at ho11)); have _ := am (Kd.R_below (ru HO_5.out) hb); have _ := am (Kd.R_lower ho11 (below_size (beu HB.out))); have _ := am (below_step (beu HB.out) hb); clear HO_5 HB; rename_i HO_5 HO148 HB; clear hb ho11; obtain ⟨Ao12, co12, eo12⟩ := Kd.R_slice HO_5.out; subst eo12; obtain ⟨Ao13, co13, eo13⟩ := Kd.R_slice HO148.out; subst eo13) | ((with_reducible refine gate_callee (f := 32) rfl ?_); refine goesL_ (some 21) rfl rfl Tryd.func32 (by kernel_rfl) rfl #[.slice Ao12 x5_1.length co12, .slice Ao13 y146.length co13] rfl ap1 ?_; (with_reducible refine (packet_Number.calls k1 _ _ x5_1 _ _ y146 t149 _ ?side1 ?side2 ?side3 ?side4 A8.out).mono ?_); (case side1 => exact cu (Kd.R_reads' HO_5.out).2.2); (case side2 => exact (Kd.R_reads' HO_5.out).2.1); (case side3 => exact cu (Kd.R_reads' HO148.out).2.2); (case side4 => exact (Kd.R_reads' HO148.out).2.1); rintro e w14 ⟨v150, rfl, ho0, hb⟩; refine ⟨_, rfl, ?_⟩; have _ := am (Kd.R_elder' (ru HO_5.out) (Kd.R_base ho0) hb); have _ := am (Kd.R_below (ru HO148.out) hb); have _ := am (Kd.R_lower (Kd.R_new' ho0 (Kd.R_lt (ru HO_5.out))) (below_size (beu HB.out))); have _ := am (below_step (beu HB.out) hb); clear HO_5 HO148 HB; rename_i HO_5 HO148 HO151 HB; (try clear hb); (try clear ho0)) | (at_builtin; refine print_append_str (w0 := w) w.heap.size rfl (.tmp 21) _ 31 9 5 rfl Tryd.underlying31 Tryd.underlying9 info5 v150 t149 (rdOf ByteArray.empty l1 x12_1) rfl rfl ?aO ?aB ?aS ?aL ?_; (case aB => exact (beu HB.out)); (case aO => exact (Kd.own_of_R (ru (Kd.R_mono HO151.out (fun _ hk => trivial))))); (case aS => exact (below_size (beu HB.out))); (case aL => have := LMc9.out; omega); intro v153 w15 ho0 hb hg; have ho := Kd.R_of_own (h1 := fun _ => rfl) (ok := fun _ => True) ho0 (fun _ _ => trivial); clear ho0; have hat := True.intro; rw [← Ny152.out] at ho; change Kd.R (Kd.int .u8) 5 w15 w.heap.size (fun _ => True) v153 y152 at ho; have _ := am (Kd.R_over' (ru HO148.out) (Kd.R_typed (ru HO151.out)) (by decide) hg); have _ := am (hb); have _ := am (ho); clear HO148 HB HO151; rename_i HO148 HB HO154; clear ho hb hg hat))
              go_roundg k1
              case measure => have := HK1.out; omega
              case rel => exact ⟨(y152), (wrap64 (x12_1 + 1)), ap3, H', ⟨by have := HK1.out; omega⟩, ⟨ru HO154.out⟩, ⟨beu HB.out⟩⟩
            · rw [if_neg c9] at H
              exact absurd H (by simp)
          · rw [if_neg c7] at H
            exact absurd H (by simp)
        · rw [if_neg c6] at H
          exact absurd H (by simp)
      · rw [if_neg c5] at H
        have c5b0 : decide (x12_1 < (l1.length : Int)) = false := decide_eq_false c5; clear c5; obtain rfl := Option.some.inj H; simp only [Option.some.injEq, Prod.mk.injEq] at H; obtain ⟨rfl⟩ := H
        go_wp2
        go_ret
        exact ⟨_, ap4, ru HO_5.out, beu HB.out⟩
def order_truth.f (a0 : Bool) : Option (Int) := if a0 = true then (some 1) else (some 0)
set_option maxHeartbeats 8000000 in
set_option maxRecDepth 100000 in
theorem order_truth.calls (a0 : Bool) (r : Int) (w : World) (h : order_truth.f a0 = some r) :
    Calls Tryd.prog 34 #[.bool a0] w fun e w' => e = .returned (.int .u64 r) ∧ Drawn0 w w' := by
  have H : (if a0 = true then (some 1) else (some 0)) = some r := h; clear h
  by_cases c2 : a0 = true
  · subst c2
    have H1 : (some 1) = some r := by rw [if_pos rfl] at H; exact H
    clear H; have H := H1; clear H1; obtain rfl := Option.some.inj H; simp only [Option.some.injEq, Prod.mk.injEq] at H; obtain ⟨rfl⟩ := H
    go_enter Tryd.func34, Tryd.ntmps34
    go_wp2
    go_ret
    exact ⟨ap3, ap5⟩
  · replace c2 := Bool.eq_false_iff.mpr c2
    subst c2
    have H1 : (some 0) = some r := by rw [if_neg (show ¬ (false = true) by decide)] at H; exact H
    clear H; have H := H1; clear H1; obtain rfl := Option.some.inj H; simp only [Option.some.injEq, Prod.mk.injEq] at H; obtain ⟨rfl⟩ := H
    go_enter Tryd.func34, Tryd.ntmps34
    go_wp2
    go_ret
    exact ⟨ap3, ap5⟩
end Go.Proofs.YtmcdbjcbfjnfoaaDoor.PAll
